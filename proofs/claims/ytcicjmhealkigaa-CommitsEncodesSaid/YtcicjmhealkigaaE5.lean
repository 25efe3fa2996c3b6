/- Floating point: whole numbers of two bytes. -/
import Derived.Test.YtcicjmhealkigaaE4
set_option linter.unusedVariables false
set_option linter.unusedSimpArgs false
namespace Go.Proofs.Hg
open Go.RowKit

abbrev c65535 : Nat := 4679239875398991872
theorem read_c : FloatKind.f64.format.read c65535 = .number false 9007061815787520 (-37) := by decide +kernel
theorem read_0 : FloatKind.f64.format.read 0 = .number false 0 (-1074) := by decide +kernel

def fgeq (x y : Nat) : Bool := FloatKind.f64.format.order x y == some .gt || FloatKind.f64.format.order x y == some .eq
def fleq (x y : Nat) : Bool := FloatKind.f64.format.order x y == some .lt || FloatKind.f64.format.order x y == some .eq

theorem signed_true (m k : Nat) : Ieee.signed true m k = -((m * 2 ^ k : Nat) : Int) := by simp [Ieee.signed, Nat.shiftLeft_eq]
theorem signed_false (m k : Nat) : Ieee.signed false m k = ((m * 2 ^ k : Nat) : Int) := by simp [Ieee.signed, Nat.shiftLeft_eq]

theorem cut_zero (neg : Bool) (n drop : Nat) : Ieee.Toward.zero.cut neg n drop = n / 2 ^ min drop (n.log2 + 2) := by
  simp [Ieee.Toward.cut, Nat.shiftLeft_eq]

theorem cut_zero_le (neg : Bool) (n drop B : Nat) (h : n ≤ B * 2 ^ drop) : Ieee.Toward.zero.cut neg n drop ≤ B := by
  rw [cut_zero]
  by_cases hd : drop ≤ n.log2 + 2
  · rw [Nat.min_eq_left hd]
    exact Nat.div_le_of_le_mul (by rw [Nat.mul_comm]; exact h)
  · rw [Nat.min_eq_right (by omega)]
    have : n < 2 ^ (n.log2 + 2) := by
      have h1 : n < 2 ^ (n.log2 + 1) := Nat.lt_log2_self
      have h2 : 2 ^ (n.log2 + 1) ≤ 2 ^ (n.log2 + 2) := Nat.pow_le_pow_right (by omega) (by omega)
      omega
    rw [Nat.div_eq_of_lt this]
    exact Nat.zero_le _

theorem cmp_le {a b : Int} (h : compare a b = .lt ∨ compare a b = .eq) : a ≤ b := by
  rcases h with h | h
  · have := Int.compare_eq_lt.1 h; omega
  · have := Int.compare_eq_eq.1 h; omega
theorem cmp_ge {a b : Int} (h : compare a b = .gt ∨ compare a b = .eq) : b ≤ a := by
  rcases h with h | h
  · have := Int.compare_eq_gt.1 h; omega
  · have := Int.compare_eq_eq.1 h; omega

theorem float_range {b : Nat} (h0 : fgeq b 0 = true) (h1 : fleq b c65535 = true) : ∃ n : Int, (FloatKind.f64.decode b).toInt .zero = some n ∧ 0 ≤ n ∧ n ≤ 65535 := by
  unfold fgeq at h0
  unfold fleq at h1
  simp only [Ieee.Format.order, read_c, read_0] at h0 h1
  unfold FloatKind.decode
  cases hd : FloatKind.f64.format.read b with
  | nan s t => simp [hd, Ieee.Datum.order] at h0
  | infinity s =>
    cases s
    · simp [hd, Ieee.Datum.order] at h1
    · simp [hd, Ieee.Datum.order] at h0
  | number s m i =>
    rw [hd] at h0 h1
    simp only [Ieee.Datum.order, Bool.or_eq_true, beq_iff_eq, Option.some.injEq] at h0 h1
    have g0 := cmp_ge h0
    have g1 := cmp_le h1
    clear h0 h1
    simp only [Ieee.Datum.toInt, Ieee.Datum.integral, Nat.shiftLeft_eq]
    refine ⟨_, rfl, ?_⟩
    cases s with
    | true =>
      rw [signed_false, signed_true] at g0
      have hm : m = 0 := by
        rcases Nat.eq_zero_or_pos m with h | h
        · exact h
        · have : 0 < m * 2 ^ (i - min i (-1074)).toNat := Nat.mul_pos h (Nat.pow_pos (by omega))
          simp only [Nat.zero_mul] at g0
          omega
      subst hm
      rw [signed_true, cut_zero]
      simp
    | false =>
      rw [signed_false, signed_false] at g1
      have g1 : m * 2 ^ (i - min i (-37)).toNat ≤ 9007061815787520 * 2 ^ (-37 - min i (-37)).toNat := by omega
      rw [signed_false]
      have key : m * 2 ^ i.toNat ≤ 65535 * 2 ^ (-i).toNat := by
        by_cases hi : i ≤ -37
        · rw [Int.min_eq_left hi] at g1
          have e1 : (i - i).toNat = 0 := by omega
          have e2 : i.toNat = 0 := by omega
          have e3 : (-i).toNat = 37 + (-37 - i).toNat := by omega
          rw [e1] at g1
          rw [e2, e3, Nat.pow_add]
          omega
        · rw [Int.min_eq_right (by omega)] at g1
          have e0 : ((-37 : Int) - -37).toNat = 0 := rfl
          rw [e0] at g1
          have e1 : (i - -37).toNat + (-i).toNat = 37 + i.toNat := by omega
          have e2 : 2 ^ (i - -37).toNat * 2 ^ (-i).toNat = 2 ^ 37 * 2 ^ i.toNat := by rw [← Nat.pow_add, ← Nat.pow_add, e1]
          have g2 : m * 2 ^ (i - -37).toNat * 2 ^ (-i).toNat ≤ 9007061815787520 * 2 ^ 0 * 2 ^ (-i).toNat := Nat.mul_le_mul_right _ g1
          rw [Nat.mul_assoc, e2] at g2
          have e3 : m * (2 ^ 37 * 2 ^ i.toNat) = 2 ^ 37 * (m * 2 ^ i.toNat) := by rw [← Nat.mul_assoc, Nat.mul_comm m, Nat.mul_assoc]
          rw [e3] at g2
          generalize m * 2 ^ i.toNat = A at *
          generalize 2 ^ (-i).toNat = B at *
          omega
      have := cut_zero_le false (m * 2 ^ i.toNat) (-i).toNat 65535 key
      simp only [Nat.pow_zero, Nat.mul_one]
      omega

set_option maxRecDepth 100000 in
/-- A whole number of two bytes is a float's. -/
theorem nearest_int (n : Nat) (hn : n ≤ 65535) : (FloatKind.f64.decode (FloatKind.f64.nearest (n : Int))).toInt .zero = some (n : Int) := by
  rcases Nat.eq_zero_or_pos n with h0 | h0
  · subst h0
    decide +kernel
  have hL : n.log2 ≤ 15 := by
    have := (Nat.log2_lt (n := n) (k := 16) (by omega)).2 (by omega)
    omega
  have hlo : 2 ^ n.log2 ≤ n := Nat.log2_self_le (by omega)
  have hhi : n < 2 ^ (n.log2 + 1) := Nat.lt_log2_self
  have hnear : FloatKind.f64.nearest (n : Int) = (n.log2 + 1022) * 2 ^ 52 + n * 2 ^ (52 - n.log2) := by
    unfold FloatKind.nearest FloatKind.encode Ieee.Format.write Ieee.Format.nearest
    have e0 : ((n : Int) < 0) = False := by simp
    simp only [e0, decide_false, Int.natAbs_natCast]
    rw [if_neg (by omega)]
    have hf : FloatKind.f64.format = Ieee.double := rfl
    have hlp : Ieee.double.leastPlace = -1074 := by decide
    have hfb : (Ieee.double.fractionBits : Int) = 52 := rfl
    have hmax : max (0 + (n.log2 : Int) - (Ieee.double.fractionBits : Int)) Ieee.double.leastPlace = (n.log2 : Int) - 52 := by rw [hlp, hfb]; omega
    rw [hf, hmax, hlp]
    have e1 : (0 - ((n.log2 : Int) - 52)).toNat = 52 - n.log2 := by omega
    have e2 : ((n.log2 : Int) - 52 - 0).toNat = 0 := by omega
    have e3 : ((n.log2 : Int) - 52 - -1074).toNat = n.log2 + 1022 := by omega
    rw [e1, e2, e3]
    have hb : Ieee.double.binade = 2 ^ 52 := rfl
    have hinf : Ieee.double.infRung = 2047 * 2 ^ 52 := by decide
    have hcut : Ieee.Toward.even.cut false (n <<< (52 - n.log2)) 0 = n * 2 ^ (52 - n.log2) := by
      simp [Ieee.Toward.cut, Nat.shiftLeft_eq, Nat.mod_one]
    rw [hcut, hb, hinf]
    simp only [Ieee.Format.word, Bool.false_eq_true, if_false]
    have hlt : n * 2 ^ (52 - n.log2) < 2 ^ 53 := by
      have h1 : n * 2 ^ (52 - n.log2) < 2 ^ (n.log2 + 1) * 2 ^ (52 - n.log2) := Nat.mul_lt_mul_of_pos_right hhi (Nat.pow_pos (by omega))
      rw [← Nat.pow_add, show n.log2 + 1 + (52 - n.log2) = 53 by omega] at h1
      exact h1
    rw [Nat.min_eq_left]
    generalize n * 2 ^ (52 - n.log2) = K at *
    generalize n.log2 = L at *
    have p52 : 2 ^ 52 = 4503599627370496 := rfl
    have p53 : 2 ^ 53 = 9007199254740992 := rfl
    rw [p53] at hlt
    rw [p52]
    omega
  have hk1 : 2 ^ 52 ≤ n * 2 ^ (52 - n.log2) := by
    have h1 : 2 ^ n.log2 * 2 ^ (52 - n.log2) ≤ n * 2 ^ (52 - n.log2) := Nat.mul_le_mul_right _ hlo
    rw [← Nat.pow_add, show n.log2 + (52 - n.log2) = 52 by omega] at h1
    exact h1
  have hk2 : n * 2 ^ (52 - n.log2) < 2 ^ 53 := by
    have h1 : n * 2 ^ (52 - n.log2) < 2 ^ (n.log2 + 1) * 2 ^ (52 - n.log2) := Nat.mul_lt_mul_of_pos_right hhi (Nat.pow_pos (by omega))
    rw [← Nat.pow_add, show n.log2 + 1 + (52 - n.log2) = 53 by omega] at h1
    exact h1
  have hread : FloatKind.f64.decode (FloatKind.f64.nearest (n : Int)) = .number false (n * 2 ^ (52 - n.log2)) ((n.log2 : Int) - 52) := by
    rw [hnear]
    unfold FloatKind.decode Ieee.Format.read
    have hf : FloatKind.f64.format = Ieee.double := rfl
    have hsw : Ieee.double.signWeight = 2 ^ 63 := rfl
    have hb : Ieee.double.binade = 2 ^ 52 := rfl
    have hinf : Ieee.double.infRung = 2047 * 2 ^ 52 := by decide
    have hlp : Ieee.double.leastPlace = -1074 := by decide
    rw [hf, hsw, hb, hinf, hlp]
    generalize n * 2 ^ (52 - n.log2) = K at *
    generalize n.log2 = L at *
    have p52 : 2 ^ 52 = 4503599627370496 := rfl
    have p53 : 2 ^ 53 = 9007199254740992 := rfl
    have p63 : 2 ^ 63 = 9223372036854775808 := rfl
    rw [p52] at hk1
    rw [p53] at hk2
    rw [p52, p63]
    have hw : (L + 1022) * 4503599627370496 + K < 9223372036854775808 := by omega
    have e1 : ((L + 1022) * 4503599627370496 + K) / 9223372036854775808 % 2 = 0 := by omega
    have e2 : ((L + 1022) * 4503599627370496 + K) % 9223372036854775808 = (L + 1022) * 4503599627370496 + K := Nat.mod_eq_of_lt hw
    simp only [e1, e2]
    rw [if_neg (by omega), if_pos (by omega)]
    have e3 : ((L + 1022) * 4503599627370496 + K) % 4503599627370496 = K - 4503599627370496 := by omega
    have e4 : ((L + 1022) * 4503599627370496 + K) / 4503599627370496 = L + 1023 := by omega
    rw [e3, e4]
    have e5 : 4503599627370496 + (K - 4503599627370496) = K := by omega
    have e6 : (-1074 : Int) + ((L + 1023 - 1 : Nat) : Int) = (L : Int) - 52 := by omega
    rw [e5, e6]
    rfl
  rw [hread]
  simp only [Ieee.Datum.toInt, Ieee.Datum.integral, Nat.shiftLeft_eq]
  have e1 : ((n.log2 : Int) - 52).toNat = 0 := by omega
  have e2 : (-((n.log2 : Int) - 52)).toNat = 52 - n.log2 := by omega
  rw [e1, e2, signed_false, cut_zero]
  have hl : 52 ≤ (n * 2 ^ (52 - n.log2) * 2 ^ 0).log2 := by
    rw [Nat.pow_zero, Nat.mul_one]
    exact (Nat.le_log2 (by omega)).2 hk1
  rw [Nat.min_eq_left (by omega), Nat.pow_zero, Nat.mul_one, Nat.mul_one, Nat.mul_div_cancel _ (Nat.pow_pos (by omega))]

theorem fintV_nearest (n : Nat) (hn : n ≤ 65535) : fintV .f64 (FloatKind.f64.nearest (n : Int)) = (n : Int) := by
  unfold fintV
  rw [nearest_int n hn]
  rfl

end Go.Proofs.Hg
