/- Bytes as numbers. -/
import Derived.Test.YtcicjmhealkigaaC5
set_option linter.unusedVariables false
set_option linter.unusedSimpArgs false
namespace Go.Proofs.Hg
open Go.RowKit

theorem wrap_byte (b : UInt8) : IntKind.i64.wrap (b.toNat : Int) = (b.toNat : Int) := IntWalk.i64_in _ (by have := b.toNat_lt; constructor <;> omega)
theorem brow_len1 (s : List UInt8) (i : Nat) : ((brow s).getD i [.int .u8 0]).length = 1 := by
  simp only [brow, List.getD_eq_getElem?_getD, List.getElem?_map]
  cases s[i]? <;> rfl
theorem srow_len1 (l : List (List UInt8)) (i : Nat) : ((srow l).getD i [.str []]).length = 1 := by
  simp only [srow, List.getD_eq_getElem?_getD, List.getElem?_map]
  cases l[i]? <;> rfl

theorem bitsV_nat (op : BinOp) (x y : Nat) (hx : x < 2 ^ 63) (hy : y < 2 ^ 63) : bitsV .or .i64 (x : Int) (y : Int) = ((x ||| y : Nat) : Int) := by
  unfold bitsV
  have h1 : BitVec.ofInt IntKind.i64.bits (x : Int) = BitVec.ofNat 64 x := by rw [BitVec.ofInt_natCast]; rfl
  have h2 : BitVec.ofInt IntKind.i64.bits (y : Int) = BitVec.ofNat 64 y := by rw [BitVec.ofInt_natCast]; rfl
  simp only [h1, h2]
  have h3 : (BitVec.ofNat 64 x ||| BitVec.ofNat 64 y).toNat = x ||| y := by
    rw [BitVec.toNat_or, BitVec.toNat_ofNat, BitVec.toNat_ofNat, Nat.mod_eq_of_lt (by omega), Nat.mod_eq_of_lt (by omega)]
  have h4 : x ||| y < 2 ^ 63 := Nat.or_lt_two_pow hx hy
  show IntKind.i64.wrap ((BitVec.ofNat 64 x ||| BitVec.ofNat 64 y).toNat : Int) = _
  rw [h3]
  exact IntWalk.i64_in _ (by constructor <;> omega)

theorem or_bytes (a b : UInt8) : bitsV .or .i64 ((a.toNat : Int) * 256) (b.toNat : Int) = (a.toNat : Int) * 256 + (b.toNat : Int) := by
  have ha := a.toNat_lt
  have hb := b.toNat_lt
  have h := Nat.shiftLeft_add_eq_or_of_lt (i := 8) (b := b.toNat) (by omega) a.toNat
  rw [Nat.shiftLeft_eq] at h
  have e : (a.toNat : Int) * 256 = ((a.toNat * 2 ^ 8 : Nat) : Int) := by omega
  rw [e, bitsV_nat .or _ _ (by omega) (by omega), ← h]
  omega

theorem Conv.eq {N h : Nat} {S S' : St} (he : S = S') : Conv N h S S' := he ▸ Conv.refl S

/-- A sequence with a state between. -/
theorem AWp.seqTo {P : Program} {N h : Nat} {S : St} {Q : Exit → St → Prop} {x y : Code} (Sm : St) (hx : AWp P N h x S (thenA (fun S1 => Conv N h S1 Sm) Q)) (hy : AWp P N h y Sm Q) : AWp P N h (.seq x y) S Q :=
  AWp.seq (hx.mono fun e S' hs => by
    cases e with
    | normal => exact ⟨Sm, hs, hy⟩
    | exit i => exact ⟨S', Conv.refl _, hs⟩
    | goto l => exact ⟨S', Conv.refl _, hs⟩
    | ret => exact ⟨S', Conv.refl _, hs⟩
    | panic c => exact ⟨S', Conv.refl _, hs⟩
    | outgrown => exact ⟨S', Conv.refl _, hs⟩)

/-- The end of a function that hands things on. -/
theorem ends_o {P : Program} {T : Tab} (hT : TabOk P T) {i : CallIn} {S : St} {fresh : Nat} {r : Res} {e : Exit} {vs : List AV} {ob : Prop} {ex : Option Nat} {g1 : Nat → Nat} (he : e = .normal ∨ e = .ret) (hr : evRes T S i.fn.results.toList = some (vs, ob)) (ho : ob)
    (ht : Told i ⟨pack vs, S, ex, g1⟩ fresh r) : Ends P i fresh r e S := ⟨he, _, EndsTo.read hT hr ho, ht⟩

/-- The same, rows in the results become values. -/
theorem ends_f {P : Program} {T : Tab} (hT : TabOk P T) {i : CallIn} {S : St} {fresh : Nat} {r : Res} {e : Exit} {vs vs' : List AV} {ks : List (Nat × AObj)} {ob ob2 : Prop} {ex : Option Nat} {g1 : Nat → Nat} (he : e = .normal ∨ e = .ret) (hr : evRes T S i.fn.results.toList = some (vs, ob)) (ho : ob)
    (hf : frzVs S.H vs = some (vs', ks, ob2)) (ho2 : ob2) (hn : (ks.map (·.1)).Nodup) (hk : ∀ p ∈ ks, lookN p.1 S.heap = some p.2 ∧ p.1 < S.nxt)
    (ht : Told i ⟨pack vs', ⟨S.env, eraseL (ks.map (·.1)) S.heap, S.nxt⟩, ex, g1⟩ fresh r) : Ends P i fresh r e S := ⟨he, _, EndsTo.freeze (EndsTo.read hT hr ho) hf ho2 hn hk, ht⟩

attribute [go_sem] List.take_length inI64 St.freezeAt Bool.not_eq_true' Bool.not_eq_false' Nat.min_def wrap_byte brow_len1 srow_len1
end Go.Proofs.Hg
