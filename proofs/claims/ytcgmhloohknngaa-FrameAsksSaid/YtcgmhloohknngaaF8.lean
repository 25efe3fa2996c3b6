/- Walks of functions: what they do, as contracts. -/
import Derived.Test.YtcgmhloohknngaaF7
set_option linter.unusedSimpArgs false
set_option linter.unusedVariables false
namespace Go.Proofs.Hg
open Go.RowKit
set_option maxRecDepth 100000
def rN (body : List UInt8) : Int := 256 * ((body.getD 1 0).toNat : Int) + ((body.getD 2 0).toNat : Int)
def rS (body : List UInt8) : List UInt8 := (body.drop 3).take ((3 + rN body).toNat - 3)
def rC (body : List UInt8) : UInt8 := body.getD (3 + rN body).toNat 0
def rB1 (m : UInt8) : Bool := decide ((m.toNat : Int) % 2 = 1)
def rB2 (m : UInt8) : Bool := decide ((m.toNat : Int) / 2 % 2 = 1)
def rB4 (m : UInt8) : Bool := decide ((m.toNat : Int) / 4 = 1)
def rFiles : Nat → List UInt8 → List (List UInt8) → Option (List UInt8 × List (List UInt8))
  | 0, s, fs => some (s, fs)
  | n + 1, s, fs => if s.length = 0 ∨ s.length - 1 < (s.getD 0 0).toNat then none else rFiles n (s.drop (1 + (s.getD 0 0).toNat)) (fs ++ [(s.drop 1).take (s.getD 0 0).toNat])
def rHead (id kind : Int) (body : List UInt8) : Prop := kind = 1 ∧ 4 ≤ body.length ∧ (body.getD 0 0).toNat ≤ 7 ∧ 0 ≤ id ∧ id ≤ 65535 ∧ body.length ≤ 4096 ∧ rN body ≤ (body.length : Int) - 4
instance (id kind : Int) (body : List UInt8) : Decidable (rHead id kind body) := by unfold rHead; infer_instance
def rEnd (body : List UInt8) : Option (List UInt8 × List (List UInt8)) := rFiles (rC body).toNat (body.drop (4 + rN body).toNat) []
def rAskV (id kind : Int) (body : List UInt8) : AVal :=
  if rHead id kind body then (match rEnd body with
    | some ([], fs) => .tup [reqOf id (rS body) (rB1 (body.getD 0 0)) (rB2 (body.getD 0 0)) (rB4 (body.getD 0 0)) fs, dv (.int .i64 0)]
    | _ => .tup [.agg [.d (.int .i64 0), .d (.str []), .d (.bool false), .d (.bool false), .d (.bool false), .d (.slice (some true) 1 [])], dv (.int .i64 231)])
  else .tup [.agg [.d (.int .i64 0), .d (.str []), .d (.bool false), .d (.bool false), .d (.bool false), .d (.slice (some true) 1 [])], dv (.int .i64 231)]
theorem rAskV_ids (id kind : Int) (body : List UInt8) : (rAskV id kind body).ids = [] ∧ ∀ b x, rAskV id kind body ≠ .opt b x := by
  unfold rAskV reqOf
  split
  · split <;> simp [AVal.ids, AV.ids, Sc.ids]
  · simp [AVal.ids, AV.ids, Sc.ids]
theorem wrap_u8_div (m : UInt8) (k : Int) (hk : 1 ≤ k) : IntKind.u8.wrap ((m.toNat : Int) / k) = (m.toNat : Int) / k := by
  have h := m.toNat_lt
  rw [← u8_wrap]
  unfold u8
  have h1 : 0 ≤ (m.toNat : Int) / k := Int.ediv_nonneg (by omega) (by omega)
  have h2 : (m.toNat : Int) / k ≤ (m.toNat : Int) := Int.ediv_le_self k (by omega)
  have h3 : ((m.toNat : Int) / k % 256).toNat = ((m.toNat : Int) / k).toNat := by rw [Int.emod_eq_of_lt h1 (by omega)]
  have h4 : ((m.toNat : Int) / k).toNat < UInt8.size := by
    have : ((m.toNat : Int) / k).toNat < 256 := by omega
    exact this
  rw [h3, UInt8.toNat_ofNat_of_lt' h4]
  omega
def rAskF : List AV → Option (AVal × Prop)
  | [.agg [.d (.int .i64 id), .d (.int .i64 kind), .d (.slice z e es)]] => some (rAskV id kind (unb es), e = 1 ∧ es = brow (unb es))
  | _ => none
theorem rAskF_ok : ContOk Try.prog 13 (pureK rAskF) := by
  refine pure_ok (nargs := 1) Try.func13 rfl (by kernel_rfl) (Nat.le_of_ble_eq_true (by kernel_rfl)) ?_
  intro args q hq hob
  unfold rAskF at hq
  split at hq
  · rename_i id kind z e es
    injection hq with hq
    subst hq
    obtain ⟨h1, h2⟩ : e = 1 ∧ es = brow (unb es) := hob
    generalize unb es = body at *
    subst h1 h2
    refine ⟨rfl, by simp [AV.ids, Sc.ids], (rAskV_ids _ _ _).1, (rAskV_ids _ _ _).2, ?_⟩
    refine AWp.seq ?_
    refine AWp.reg (S1 := ?S1) (ob := ?o1) (S' := ?K1) tab_ok (noKnow _) mixed [1, 2] ?r1 ?h1 ?k1 ?w1
    case r1 => simp only [go_sem, Try.ntmps13, reduceIte, reduceCtorEq, Nat.reduceAdd, Nat.reduceEqDiff, Nat.reduceLT, Nat.reduceLeDiff, Nat.reduceSub, Nat.reduceMul, Nat.reduceBEq, Int.reduceToNat, Int.reduceLE, Int.reduceLT, Int.reducePow]; rfl
    case h1 => first | exact True.intro | omega | (simp only [go_sem, Try.ntmps13, reduceIte, reduceCtorEq, Nat.reduceAdd, Nat.reduceEqDiff, Nat.reduceLT, Nat.reduceLeDiff, Nat.reduceSub, Nat.reduceMul, Nat.reduceBEq, Int.reduceToNat, Int.reduceLE, Int.reduceLT, Int.reducePow]; done) | (simp only [go_sem, Try.ntmps13, reduceIte, reduceCtorEq, Nat.reduceAdd, Nat.reduceEqDiff, Nat.reduceLT, Nat.reduceLeDiff, Nat.reduceSub, Nat.reduceMul, Nat.reduceBEq, Int.reduceToNat, Int.reduceLE, Int.reduceLT, Int.reducePow]; omega)
    case k1 => simp only [go_sem, Try.ntmps13, reduceIte, reduceCtorEq, Nat.reduceAdd, Nat.reduceEqDiff, Nat.reduceLT, Nat.reduceLeDiff, Nat.reduceSub, Nat.reduceMul, Nat.reduceBEq, Int.reduceToNat, Int.reduceLE, Int.reduceLT, Int.reducePow]; rfl
    refine AWp.seq ?_
    refine AWp.reg (S1 := ?S2) (ob := ?o2) (S' := ?K2) tab_ok (noKnow _) mixed [1, 2, 4] ?r2 ?h2 ?k2 ?w2
    case r2 => simp only [go_sem, Try.ntmps13, reduceIte, reduceCtorEq, Nat.reduceAdd, Nat.reduceEqDiff, Nat.reduceLT, Nat.reduceLeDiff, Nat.reduceSub, Nat.reduceMul, Nat.reduceBEq, Int.reduceToNat, Int.reduceLE, Int.reduceLT, Int.reducePow]; rfl
    case h2 => first | exact True.intro | omega | (simp only [go_sem, Try.ntmps13, reduceIte, reduceCtorEq, Nat.reduceAdd, Nat.reduceEqDiff, Nat.reduceLT, Nat.reduceLeDiff, Nat.reduceSub, Nat.reduceMul, Nat.reduceBEq, Int.reduceToNat, Int.reduceLE, Int.reduceLT, Int.reducePow]; done) | (simp only [go_sem, Try.ntmps13, reduceIte, reduceCtorEq, Nat.reduceAdd, Nat.reduceEqDiff, Nat.reduceLT, Nat.reduceLeDiff, Nat.reduceSub, Nat.reduceMul, Nat.reduceBEq, Int.reduceToNat, Int.reduceLE, Int.reduceLT, Int.reducePow]; omega)
    case k2 => simp only [go_sem, Try.ntmps13, reduceIte, reduceCtorEq, Nat.reduceAdd, Nat.reduceEqDiff, Nat.reduceLT, Nat.reduceLeDiff, Nat.reduceSub, Nat.reduceMul, Nat.reduceBEq, Int.reduceToNat, Int.reduceLE, Int.reduceLT, Int.reducePow]; rfl
    refine AWp.seq ?_
    refine AWp.seq ?_
    refine AWp.reg (S1 := ?S3) (ob := ?o3) (S' := ?K3) tab_ok (noKnow _) mixed [1, 2, 4, 40] ?r3 ?h3 ?k3 ?w3
    case r3 => simp only [go_sem, Try.ntmps13, reduceIte, reduceCtorEq, Nat.reduceAdd, Nat.reduceEqDiff, Nat.reduceLT, Nat.reduceLeDiff, Nat.reduceSub, Nat.reduceMul, Nat.reduceBEq, Int.reduceToNat, Int.reduceLE, Int.reduceLT, Int.reducePow]; rfl
    case h3 =>
      intro h
      simp only [Bool.or_eq_false_iff, decide_eq_false_iff_not] at h
      omega
    case k3 => simp only [go_sem, Try.ntmps13, reduceIte, reduceCtorEq, Nat.reduceAdd, Nat.reduceEqDiff, Nat.reduceLT, Nat.reduceLeDiff, Nat.reduceSub, Nat.reduceMul, Nat.reduceBEq, Int.reduceToNat, Int.reduceLE, Int.reduceLT, Int.reducePow]; rfl
    refine AWp.cond (b := ?b4) ?c4 ?t4 ?f4
    case c4 => simp only [go_sem, Try.ntmps13, reduceIte, reduceCtorEq, Nat.reduceAdd, Nat.reduceEqDiff, Nat.reduceLT, Nat.reduceLeDiff, Nat.reduceSub, Nat.reduceMul, Nat.reduceBEq, Int.reduceToNat, Int.reduceLE, Int.reduceLT, Int.reducePow]; rfl
    case t4 =>
      intro hb1
      have hH : ¬ rHead id kind body := by unfold rHead; simp only [Bool.or_eq_true, Bool.not_eq_true', decide_eq_true_eq, decide_eq_false_iff_not] at hb1; omega
      refine AWp.seq ?_
      refine AWp.reg (S1 := ?S5) (ob := ?o5) (S' := ?K5) tab_ok (noKnow _) mixed [2, 3] ?r5 ?h5 ?k5 ?w5
      case r5 => simp only [go_sem, Try.ntmps13, reduceIte, reduceCtorEq, Nat.reduceAdd, Nat.reduceEqDiff, Nat.reduceLT, Nat.reduceLeDiff, Nat.reduceSub, Nat.reduceMul, Nat.reduceBEq, Int.reduceToNat, Int.reduceLE, Int.reduceLT, Int.reducePow]; rfl
      case h5 => first | exact True.intro | omega | (simp only [go_sem, Try.ntmps13, reduceIte, reduceCtorEq, Nat.reduceAdd, Nat.reduceEqDiff, Nat.reduceLT, Nat.reduceLeDiff, Nat.reduceSub, Nat.reduceMul, Nat.reduceBEq, Int.reduceToNat, Int.reduceLE, Int.reduceLT, Int.reducePow]; done) | (simp only [go_sem, Try.ntmps13, reduceIte, reduceCtorEq, Nat.reduceAdd, Nat.reduceEqDiff, Nat.reduceLT, Nat.reduceLeDiff, Nat.reduceSub, Nat.reduceMul, Nat.reduceBEq, Int.reduceToNat, Int.reduceLE, Int.reduceLT, Int.reducePow]; omega)
      case k5 => simp only [go_sem, Try.ntmps13, reduceIte, reduceCtorEq, Nat.reduceAdd, Nat.reduceEqDiff, Nat.reduceLT, Nat.reduceLeDiff, Nat.reduceSub, Nat.reduceMul, Nat.reduceBEq, Int.reduceToNat, Int.reduceLE, Int.reduceLT, Int.reducePow]; rfl
      refine AWp.ret ?_
      refine ends_p (vs := ?vs1) (ob := ?ro1) (vs' := ?ws1) (ks := ?ks1) (ob2 := ?rp1) tab_ok (by simp) ?er1 ?eo1 ?ef1 ?eg1 ?en1 ?ek1 ?ev1
      case er1 => simp only [go_sem, Try.ntmps13, reduceIte, reduceCtorEq, Nat.reduceAdd, Nat.reduceEqDiff, Nat.reduceLT, Nat.reduceLeDiff, Nat.reduceSub, Nat.reduceMul, Nat.reduceBEq, Int.reduceToNat, Int.reduceLE, Int.reduceLT, Int.reducePow, Try.results13]; rfl
      case eo1 => first | exact True.intro | simp only [go_sem, Try.ntmps13, reduceIte, reduceCtorEq, Nat.reduceAdd, Nat.reduceEqDiff, Nat.reduceLT, Nat.reduceLeDiff, Nat.reduceSub, Nat.reduceMul, Nat.reduceBEq, Int.reduceToNat, Int.reduceLE, Int.reduceLT, Int.reducePow]
      case ef1 => simp only [go_sem, Try.ntmps13, reduceIte, reduceCtorEq, Nat.reduceAdd, Nat.reduceEqDiff, Nat.reduceLT, Nat.reduceLeDiff, Nat.reduceSub, Nat.reduceMul, Nat.reduceBEq, Int.reduceToNat, Int.reduceLE, Int.reduceLT, Int.reducePow]; rfl
      case eg1 => first | exact True.intro | simp only [go_sem, Try.ntmps13, reduceIte, reduceCtorEq, Nat.reduceAdd, Nat.reduceEqDiff, Nat.reduceLT, Nat.reduceLeDiff, Nat.reduceSub, Nat.reduceMul, Nat.reduceBEq, Int.reduceToNat, Int.reduceLE, Int.reduceLT, Int.reducePow]
      case en1 => simp only [go_sem, Try.ntmps13, reduceIte, reduceCtorEq, Nat.reduceAdd, Nat.reduceEqDiff, Nat.reduceLT, Nat.reduceLeDiff, Nat.reduceSub, Nat.reduceMul, Nat.reduceBEq, Int.reduceToNat, Int.reduceLE, Int.reduceLT, Int.reducePow]
      case ek1 => simp only [go_sem, Try.ntmps13, reduceIte, reduceCtorEq, Nat.reduceAdd, Nat.reduceEqDiff, Nat.reduceLT, Nat.reduceLeDiff, Nat.reduceSub, Nat.reduceMul, Nat.reduceBEq, Int.reduceToNat, Int.reduceLE, Int.reduceLT, Int.reducePow]
      case ev1 =>
        unfold rAskV
        rw [if_neg hH]; rfl
    case f4 =>
      intro hb1
      have hh : kind = 1 ∧ 4 ≤ body.length ∧ (body.getD 0 0).toNat ≤ 7 ∧ 0 ≤ id ∧ id ≤ 65535 ∧ body.length ≤ 4096 := by simp only [Bool.or_eq_false_iff, Bool.not_eq_false', decide_eq_true_eq, decide_eq_false_iff_not] at hb1; omega
      have q1 := (body.getD 1 0).toNat_lt
      have q2 := (body.getD 2 0).toNat_lt
      refine AWp.skip ?_
      refine AWp.seq ?_
      refine AWp.drw (S1 := ?S6) (ob := ?o6) (lts := ?t6) (S' := ?K6) tab_ok (noKnow _) mixed [1, 2, 4, 5] ?r6 ?d6 ?h6 ?k6 ?w6
      case r6 => simp only [go_sem, Try.ntmps13, reduceIte, reduceCtorEq, Nat.reduceAdd, Nat.reduceEqDiff, Nat.reduceLT, Nat.reduceLeDiff, Nat.reduceSub, Nat.reduceMul, Nat.reduceBEq, Int.reduceToNat, Int.reduceLE, Int.reduceLT, Int.reducePow]; rfl
      case d6 => rfl
      case h6 => first | exact True.intro | omega | (simp only [go_sem, Try.ntmps13, reduceIte, reduceCtorEq, Nat.reduceAdd, Nat.reduceEqDiff, Nat.reduceLT, Nat.reduceLeDiff, Nat.reduceSub, Nat.reduceMul, Nat.reduceBEq, Int.reduceToNat, Int.reduceLE, Int.reduceLT, Int.reducePow]; done) | (simp only [go_sem, Try.ntmps13, reduceIte, reduceCtorEq, Nat.reduceAdd, Nat.reduceEqDiff, Nat.reduceLT, Nat.reduceLeDiff, Nat.reduceSub, Nat.reduceMul, Nat.reduceBEq, Int.reduceToNat, Int.reduceLE, Int.reduceLT, Int.reducePow]; omega)
      case k6 => simp only [go_sem, Try.ntmps13, reduceIte, reduceCtorEq, Nat.reduceAdd, Nat.reduceEqDiff, Nat.reduceLT, Nat.reduceLeDiff, Nat.reduceSub, Nat.reduceMul, Nat.reduceBEq, Int.reduceToNat, Int.reduceLE, Int.reduceLT, Int.reducePow]; rfl
      refine AWp.seq ?_
      refine AWp.seq ?_
      refine AWp.reg (S1 := ?S7) (ob := ?o7) (S' := ?K7) tab_ok (noKnow _) mixed [1, 2, 4, 5, 56] ?r7 ?h7 ?k7 ?w7
      case r7 => simp only [go_sem, Try.ntmps13, reduceIte, reduceCtorEq, Nat.reduceAdd, Nat.reduceEqDiff, Nat.reduceLT, Nat.reduceLeDiff, Nat.reduceSub, Nat.reduceMul, Nat.reduceBEq, Int.reduceToNat, Int.reduceLE, Int.reduceLT, Int.reducePow]; rfl
      case h7 => first | exact True.intro | omega | (simp only [go_sem, Try.ntmps13, reduceIte, reduceCtorEq, Nat.reduceAdd, Nat.reduceEqDiff, Nat.reduceLT, Nat.reduceLeDiff, Nat.reduceSub, Nat.reduceMul, Nat.reduceBEq, Int.reduceToNat, Int.reduceLE, Int.reduceLT, Int.reducePow]; done) | (simp only [go_sem, Try.ntmps13, reduceIte, reduceCtorEq, Nat.reduceAdd, Nat.reduceEqDiff, Nat.reduceLT, Nat.reduceLeDiff, Nat.reduceSub, Nat.reduceMul, Nat.reduceBEq, Int.reduceToNat, Int.reduceLE, Int.reduceLT, Int.reducePow]; omega)
      case k7 => simp only [go_sem, Try.ntmps13, reduceIte, reduceCtorEq, Nat.reduceAdd, Nat.reduceEqDiff, Nat.reduceLT, Nat.reduceLeDiff, Nat.reduceSub, Nat.reduceMul, Nat.reduceBEq, Int.reduceToNat, Int.reduceLE, Int.reduceLT, Int.reducePow]; rfl
      refine AWp.cond (b := ?b8) ?c8 ?t8 ?f8
      case c8 => simp only [go_sem, Try.ntmps13, reduceIte, reduceCtorEq, Nat.reduceAdd, Nat.reduceEqDiff, Nat.reduceLT, Nat.reduceLeDiff, Nat.reduceSub, Nat.reduceMul, Nat.reduceBEq, Int.reduceToNat, Int.reduceLE, Int.reduceLT, Int.reducePow]; rfl
      case t8 =>
        intro hb2
        have hH : ¬ rHead id kind body := by unfold rHead rN; simp only [decide_eq_true_eq] at hb2; omega
        refine AWp.seq ?_
        refine AWp.reg (S1 := ?S9) (ob := ?o9) (S' := ?K9) tab_ok (noKnow _) mixed [2, 3] ?r9 ?h9 ?k9 ?w9
        case r9 => simp only [go_sem, Try.ntmps13, reduceIte, reduceCtorEq, Nat.reduceAdd, Nat.reduceEqDiff, Nat.reduceLT, Nat.reduceLeDiff, Nat.reduceSub, Nat.reduceMul, Nat.reduceBEq, Int.reduceToNat, Int.reduceLE, Int.reduceLT, Int.reducePow]; rfl
        case h9 => first | exact True.intro | omega | (simp only [go_sem, Try.ntmps13, reduceIte, reduceCtorEq, Nat.reduceAdd, Nat.reduceEqDiff, Nat.reduceLT, Nat.reduceLeDiff, Nat.reduceSub, Nat.reduceMul, Nat.reduceBEq, Int.reduceToNat, Int.reduceLE, Int.reduceLT, Int.reducePow]; done) | (simp only [go_sem, Try.ntmps13, reduceIte, reduceCtorEq, Nat.reduceAdd, Nat.reduceEqDiff, Nat.reduceLT, Nat.reduceLeDiff, Nat.reduceSub, Nat.reduceMul, Nat.reduceBEq, Int.reduceToNat, Int.reduceLE, Int.reduceLT, Int.reducePow]; omega)
        case k9 => simp only [go_sem, Try.ntmps13, reduceIte, reduceCtorEq, Nat.reduceAdd, Nat.reduceEqDiff, Nat.reduceLT, Nat.reduceLeDiff, Nat.reduceSub, Nat.reduceMul, Nat.reduceBEq, Int.reduceToNat, Int.reduceLE, Int.reduceLT, Int.reducePow]; rfl
        refine AWp.ret ?_
        refine ends_p (vs := ?vs2) (ob := ?ro2) (vs' := ?ws2) (ks := ?ks2) (ob2 := ?rp2) tab_ok (by simp) ?er2 ?eo2 ?ef2 ?eg2 ?en2 ?ek2 ?ev2
        case er2 => simp only [go_sem, Try.ntmps13, reduceIte, reduceCtorEq, Nat.reduceAdd, Nat.reduceEqDiff, Nat.reduceLT, Nat.reduceLeDiff, Nat.reduceSub, Nat.reduceMul, Nat.reduceBEq, Int.reduceToNat, Int.reduceLE, Int.reduceLT, Int.reducePow, Try.results13]; rfl
        case eo2 => first | exact True.intro | simp only [go_sem, Try.ntmps13, reduceIte, reduceCtorEq, Nat.reduceAdd, Nat.reduceEqDiff, Nat.reduceLT, Nat.reduceLeDiff, Nat.reduceSub, Nat.reduceMul, Nat.reduceBEq, Int.reduceToNat, Int.reduceLE, Int.reduceLT, Int.reducePow]
        case ef2 => simp only [go_sem, Try.ntmps13, reduceIte, reduceCtorEq, Nat.reduceAdd, Nat.reduceEqDiff, Nat.reduceLT, Nat.reduceLeDiff, Nat.reduceSub, Nat.reduceMul, Nat.reduceBEq, Int.reduceToNat, Int.reduceLE, Int.reduceLT, Int.reducePow]; rfl
        case eg2 => first | exact True.intro | simp only [go_sem, Try.ntmps13, reduceIte, reduceCtorEq, Nat.reduceAdd, Nat.reduceEqDiff, Nat.reduceLT, Nat.reduceLeDiff, Nat.reduceSub, Nat.reduceMul, Nat.reduceBEq, Int.reduceToNat, Int.reduceLE, Int.reduceLT, Int.reducePow]
        case en2 => simp only [go_sem, Try.ntmps13, reduceIte, reduceCtorEq, Nat.reduceAdd, Nat.reduceEqDiff, Nat.reduceLT, Nat.reduceLeDiff, Nat.reduceSub, Nat.reduceMul, Nat.reduceBEq, Int.reduceToNat, Int.reduceLE, Int.reduceLT, Int.reducePow]
        case ek2 => simp only [go_sem, Try.ntmps13, reduceIte, reduceCtorEq, Nat.reduceAdd, Nat.reduceEqDiff, Nat.reduceLT, Nat.reduceLeDiff, Nat.reduceSub, Nat.reduceMul, Nat.reduceBEq, Int.reduceToNat, Int.reduceLE, Int.reduceLT, Int.reducePow]
        case ev2 =>
          unfold rAskV
          rw [if_neg hH]; rfl
      case f8 =>
        intro hb2
        have hN : 256 * ((body.getD 1 0).toNat : Int) + ((body.getD 2 0).toNat : Int) ≤ (body.length : Int) - 4 := by simp only [decide_eq_false_iff_not] at hb2; omega
        have hH : rHead id kind body := by unfold rHead rN; omega
        refine AWp.skip ?_
        refine AWp.seq ?_
        refine AWp.drw (S1 := ?S10) (ob := ?o10) (lts := ?t10) (S' := ?K10) tab_ok (noKnow _) mixed [2, 4, 5, 6] ?r10 ?d10 ?h10 ?k10 ?w10
        case r10 => simp only [go_sem, Try.ntmps13, reduceIte, reduceCtorEq, Nat.reduceAdd, Nat.reduceEqDiff, Nat.reduceLT, Nat.reduceLeDiff, Nat.reduceSub, Nat.reduceMul, Nat.reduceBEq, Int.reduceToNat, Int.reduceLE, Int.reduceLT, Int.reducePow]; rfl
        case d10 => rfl
        case h10 =>
          exact ⟨by omega, by omega, by omega, by omega, by omega, ⟨by omega, wrap_u8_div _ 2 (by omega)⟩, by omega, by omega, by omega, wrap_u8_div _ 4 (by omega)⟩
        case k10 => simp only [go_sem, Try.ntmps13, reduceIte, reduceCtorEq, Nat.reduceAdd, Nat.reduceEqDiff, Nat.reduceLT, Nat.reduceLeDiff, Nat.reduceSub, Nat.reduceMul, Nat.reduceBEq, Int.reduceToNat, Int.reduceLE, Int.reduceLT, Int.reducePow]; rfl
        refine AWp.seq ?_
        refine AWp.reg (S1 := ?S11) (ob := ?o11) (S' := ?K11) tab_ok (noKnow _) mixed [2, 4, 5, 6, 7] ?r11 ?h11 ?k11 ?w11
        case r11 => simp only [go_sem, Try.ntmps13, reduceIte, reduceCtorEq, Nat.reduceAdd, Nat.reduceEqDiff, Nat.reduceLT, Nat.reduceLeDiff, Nat.reduceSub, Nat.reduceMul, Nat.reduceBEq, Int.reduceToNat, Int.reduceLE, Int.reduceLT, Int.reducePow]; rfl
        case h11 => first | exact True.intro | omega | (simp only [go_sem, Try.ntmps13, reduceIte, reduceCtorEq, Nat.reduceAdd, Nat.reduceEqDiff, Nat.reduceLT, Nat.reduceLeDiff, Nat.reduceSub, Nat.reduceMul, Nat.reduceBEq, Int.reduceToNat, Int.reduceLE, Int.reduceLT, Int.reducePow]; done) | (simp only [go_sem, Try.ntmps13, reduceIte, reduceCtorEq, Nat.reduceAdd, Nat.reduceEqDiff, Nat.reduceLT, Nat.reduceLeDiff, Nat.reduceSub, Nat.reduceMul, Nat.reduceBEq, Int.reduceToNat, Int.reduceLE, Int.reduceLT, Int.reducePow]; omega)
        case k11 => simp only [go_sem, Try.ntmps13, reduceIte, reduceCtorEq, Nat.reduceAdd, Nat.reduceEqDiff, Nat.reduceLT, Nat.reduceLeDiff, Nat.reduceSub, Nat.reduceMul, Nat.reduceBEq, Int.reduceToNat, Int.reduceLE, Int.reduceLT, Int.reducePow]; rfl
        refine AWp.seq ?_
        refine AWp.reg (S1 := ?S12) (ob := ?o12) (S' := ?K12) tab_ok (noKnow _) mixed [2, 4, 6, 7] ?r12 ?h12 ?k12 ?w12
        case r12 => simp only [go_sem, Try.ntmps13, reduceIte, reduceCtorEq, Nat.reduceAdd, Nat.reduceEqDiff, Nat.reduceLT, Nat.reduceLeDiff, Nat.reduceSub, Nat.reduceMul, Nat.reduceBEq, Int.reduceToNat, Int.reduceLE, Int.reduceLT, Int.reducePow]; rfl
        case h12 => first | exact True.intro | omega | (simp only [go_sem, Try.ntmps13, reduceIte, reduceCtorEq, Nat.reduceAdd, Nat.reduceEqDiff, Nat.reduceLT, Nat.reduceLeDiff, Nat.reduceSub, Nat.reduceMul, Nat.reduceBEq, Int.reduceToNat, Int.reduceLE, Int.reduceLT, Int.reducePow]; done) | (simp only [go_sem, Try.ntmps13, reduceIte, reduceCtorEq, Nat.reduceAdd, Nat.reduceEqDiff, Nat.reduceLT, Nat.reduceLeDiff, Nat.reduceSub, Nat.reduceMul, Nat.reduceBEq, Int.reduceToNat, Int.reduceLE, Int.reduceLT, Int.reducePow]; omega)
        case k12 => simp only [go_sem, Try.ntmps13, reduceIte, reduceCtorEq, Nat.reduceAdd, Nat.reduceEqDiff, Nat.reduceLT, Nat.reduceLeDiff, Nat.reduceSub, Nat.reduceMul, Nat.reduceBEq, Int.reduceToNat, Int.reduceLE, Int.reduceLT, Int.reducePow]; rfl
        refine AWp.seq ?_
        refine AWp.seq ?_
        refine AWp.reg (S1 := ?S13) (ob := ?o13) (S' := ?K13) tab_ok (noKnow _) mixed [2, 4, 6, 7, 8] ?r13 ?h13 ?k13 ?w13
        case r13 => simp only [go_sem, Try.ntmps13, reduceIte, reduceCtorEq, Nat.reduceAdd, Nat.reduceEqDiff, Nat.reduceLT, Nat.reduceLeDiff, Nat.reduceSub, Nat.reduceMul, Nat.reduceBEq, Int.reduceToNat, Int.reduceLE, Int.reduceLT, Int.reducePow]; rfl
        case h13 => first | exact True.intro | omega | (simp only [go_sem, Try.ntmps13, reduceIte, reduceCtorEq, Nat.reduceAdd, Nat.reduceEqDiff, Nat.reduceLT, Nat.reduceLeDiff, Nat.reduceSub, Nat.reduceMul, Nat.reduceBEq, Int.reduceToNat, Int.reduceLE, Int.reduceLT, Int.reducePow]; done) | (simp only [go_sem, Try.ntmps13, reduceIte, reduceCtorEq, Nat.reduceAdd, Nat.reduceEqDiff, Nat.reduceLT, Nat.reduceLeDiff, Nat.reduceSub, Nat.reduceMul, Nat.reduceBEq, Int.reduceToNat, Int.reduceLE, Int.reduceLT, Int.reducePow]; omega)
        case k13 => simp only [go_sem, Try.ntmps13, reduceIte, reduceCtorEq, Nat.reduceAdd, Nat.reduceEqDiff, Nat.reduceLT, Nat.reduceLeDiff, Nat.reduceSub, Nat.reduceMul, Nat.reduceBEq, Int.reduceToNat, Int.reduceLE, Int.reduceLT, Int.reducePow]; rfl
        refine AWp.block ?_
        refine AWp.conv (Conv.nilCell 2 5 (e := 1) (ety := 9) rfl (by simp) rfl rfl) ?_
        refine AWp.conv (Conv.keep [2, 4, 6, 7, 8] [3, 2, 1, 0] (by simp [St.nilCell, eraseN])) ?_
        refine AWp.loop (fun k S => ∃ (i : Nat) (s : List UInt8) (fs : List (List UInt8)), k = (rC body).toNat - i ∧ i ≤ (rC body).toNat ∧ fs.length = i ∧ s.length ≤ 4096 ∧ rFiles ((rC body).toNat - i) s fs = rEnd body ∧ S = ⟨[(2, .one (.s (.ptr 1 0))), (4, .one (.s (.d (.slice z 1 (brow s))))), (6, .one (.s (.ptr 2 0))), (7, .one (dv (.int .i64 ((rC body).toNat : Int)))), (8, .one (dv (.int .i64 (i : Int))))], [(3, .row (srow fs) 9), (2, .cells [.d (.int .i64 id), .d (.str (rS body)), .d (.bool (rB1 (body.getD 0 0))), .d (.bool (rB2 (body.getD 0 0))), .d (.bool (rB4 (body.getD 0 0))), .row 3 1 0 fs.length none] 24), (1, .cells [.d (.int .i64 0), .d (.str []), .d (.bool false), .d (.bool false), .d (.bool false), .d (.slice (some true) 1 [])] 24), (0, .cells [.d (.int .i64 id), .d (.int .i64 kind), .d (.slice z 1 (brow body))] 34)], 4⟩) (rC body).toNat ?i1 ?n1
        case i1 =>
          refine ⟨0, body.drop (4 + rN body).toNat, [], by omega, by omega, rfl, by simp only [List.length_drop]; omega, rfl, ?_⟩
          rfl
        case n1 =>
          rintro k S ⟨i, s, fs, rfl, hi, hf, hs, hE, rfl⟩
          refine AWp.seq ?_
          refine AWp.seq ?_
          refine AWp.reg (S1 := ?S14) (ob := ?o14) (S' := ?K14) tab_ok (noKnow _) mixed [2, 4, 6, 7, 8, 94] ?r14 ?h14 ?k14 ?w14
          case r14 => simp only [go_sem, Try.ntmps13, reduceIte, reduceCtorEq, Nat.reduceAdd, Nat.reduceEqDiff, Nat.reduceLT, Nat.reduceLeDiff, Nat.reduceSub, Nat.reduceMul, Nat.reduceBEq, Int.reduceToNat, Int.reduceLE, Int.reduceLT, Int.reducePow]; rfl
          case h14 => first | exact True.intro | omega | (simp only [go_sem, Try.ntmps13, reduceIte, reduceCtorEq, Nat.reduceAdd, Nat.reduceEqDiff, Nat.reduceLT, Nat.reduceLeDiff, Nat.reduceSub, Nat.reduceMul, Nat.reduceBEq, Int.reduceToNat, Int.reduceLE, Int.reduceLT, Int.reducePow]; done) | (simp only [go_sem, Try.ntmps13, reduceIte, reduceCtorEq, Nat.reduceAdd, Nat.reduceEqDiff, Nat.reduceLT, Nat.reduceLeDiff, Nat.reduceSub, Nat.reduceMul, Nat.reduceBEq, Int.reduceToNat, Int.reduceLE, Int.reduceLT, Int.reducePow]; omega)
          case k14 => simp only [go_sem, Try.ntmps13, reduceIte, reduceCtorEq, Nat.reduceAdd, Nat.reduceEqDiff, Nat.reduceLT, Nat.reduceLeDiff, Nat.reduceSub, Nat.reduceMul, Nat.reduceBEq, Int.reduceToNat, Int.reduceLE, Int.reduceLT, Int.reducePow]; rfl
          refine AWp.cond (b := ?b15) ?c15 ?t15 ?f15
          case c15 => simp only [go_sem, Try.ntmps13, reduceIte, reduceCtorEq, Nat.reduceAdd, Nat.reduceEqDiff, Nat.reduceLT, Nat.reduceLeDiff, Nat.reduceSub, Nat.reduceMul, Nat.reduceBEq, Int.reduceToNat, Int.reduceLE, Int.reduceLT, Int.reducePow]; rfl
          case t15 =>
            intro hb3
            have hi2 : i < (rC body).toNat := by simp at hb3; omega
            have qc := (rC body).toNat_lt
            refine AWp.skip ?_
            refine AWp.seq ?_
            refine AWp.block ?_
            refine AWp.seq ?_
            refine AWp.seq ?_
            refine AWp.reg (S1 := ?S16) (ob := ?o16) (S' := ?K16) tab_ok (noKnow _) mixed [2, 4, 6, 7, 8, 109] ?r16 ?h16 ?k16 ?w16
            case r16 => simp only [go_sem, Try.ntmps13, reduceIte, reduceCtorEq, Nat.reduceAdd, Nat.reduceEqDiff, Nat.reduceLT, Nat.reduceLeDiff, Nat.reduceSub, Nat.reduceMul, Nat.reduceBEq, Int.reduceToNat, Int.reduceLE, Int.reduceLT, Int.reducePow]; rfl
            case h16 =>
              refine ⟨fun h => ?_, fun h => ?_⟩
              · simp only [decide_eq_false_iff_not] at h; omega
              · simp only [decide_eq_false_iff_not] at h; omega
            case k16 => simp only [go_sem, Try.ntmps13, reduceIte, reduceCtorEq, Nat.reduceAdd, Nat.reduceEqDiff, Nat.reduceLT, Nat.reduceLeDiff, Nat.reduceSub, Nat.reduceMul, Nat.reduceBEq, Int.reduceToNat, Int.reduceLE, Int.reduceLT, Int.reducePow]; rfl
            refine AWp.cond (b := ?b17) ?c17 ?t17 ?f17
            case c17 => simp only [go_sem, Try.ntmps13, reduceIte, reduceCtorEq, Nat.reduceAdd, Nat.reduceEqDiff, Nat.reduceLT, Nat.reduceLeDiff, Nat.reduceSub, Nat.reduceMul, Nat.reduceBEq, Int.reduceToNat, Int.reduceLE, Int.reduceLT, Int.reducePow]; rfl
            case t17 =>
              intro hb4
              have hk : s.length = 0 ∨ s.length - 1 < (s.getD 0 0).toNat := by simp only [Bool.or_eq_true, decide_eq_true_eq] at hb4; omega
              have hR : rEnd body = none := by rw [← hE, show (rC body).toNat - i = (rC body).toNat - (i + 1) + 1 by omega, rFiles, if_pos hk]
              refine AWp.seq ?_
              refine AWp.reg (S1 := ?S18) (ob := ?o18) (S' := ?K18) tab_ok (noKnow _) mixed [2, 3] ?r18 ?h18 ?k18 ?w18
              case r18 => simp only [go_sem, Try.ntmps13, reduceIte, reduceCtorEq, Nat.reduceAdd, Nat.reduceEqDiff, Nat.reduceLT, Nat.reduceLeDiff, Nat.reduceSub, Nat.reduceMul, Nat.reduceBEq, Int.reduceToNat, Int.reduceLE, Int.reduceLT, Int.reducePow]; rfl
              case h18 => first | exact True.intro | omega | (simp only [go_sem, Try.ntmps13, reduceIte, reduceCtorEq, Nat.reduceAdd, Nat.reduceEqDiff, Nat.reduceLT, Nat.reduceLeDiff, Nat.reduceSub, Nat.reduceMul, Nat.reduceBEq, Int.reduceToNat, Int.reduceLE, Int.reduceLT, Int.reducePow]; done) | (simp only [go_sem, Try.ntmps13, reduceIte, reduceCtorEq, Nat.reduceAdd, Nat.reduceEqDiff, Nat.reduceLT, Nat.reduceLeDiff, Nat.reduceSub, Nat.reduceMul, Nat.reduceBEq, Int.reduceToNat, Int.reduceLE, Int.reduceLT, Int.reducePow]; omega)
              case k18 => simp only [go_sem, Try.ntmps13, reduceIte, reduceCtorEq, Nat.reduceAdd, Nat.reduceEqDiff, Nat.reduceLT, Nat.reduceLeDiff, Nat.reduceSub, Nat.reduceMul, Nat.reduceBEq, Int.reduceToNat, Int.reduceLE, Int.reduceLT, Int.reducePow]; rfl
              refine AWp.ret ?_
              refine ends_p (vs := ?vs3) (ob := ?ro3) (vs' := ?ws3) (ks := ?ks3) (ob2 := ?rp3) tab_ok (by simp) ?er3 ?eo3 ?ef3 ?eg3 ?en3 ?ek3 ?ev3
              case er3 => simp only [go_sem, Try.ntmps13, reduceIte, reduceCtorEq, Nat.reduceAdd, Nat.reduceEqDiff, Nat.reduceLT, Nat.reduceLeDiff, Nat.reduceSub, Nat.reduceMul, Nat.reduceBEq, Int.reduceToNat, Int.reduceLE, Int.reduceLT, Int.reducePow, Try.results13]; rfl
              case eo3 => first | exact True.intro | simp only [go_sem, Try.ntmps13, reduceIte, reduceCtorEq, Nat.reduceAdd, Nat.reduceEqDiff, Nat.reduceLT, Nat.reduceLeDiff, Nat.reduceSub, Nat.reduceMul, Nat.reduceBEq, Int.reduceToNat, Int.reduceLE, Int.reduceLT, Int.reducePow]
              case ef3 => simp only [go_sem, Try.ntmps13, reduceIte, reduceCtorEq, Nat.reduceAdd, Nat.reduceEqDiff, Nat.reduceLT, Nat.reduceLeDiff, Nat.reduceSub, Nat.reduceMul, Nat.reduceBEq, Int.reduceToNat, Int.reduceLE, Int.reduceLT, Int.reducePow]; rfl
              case eg3 => first | exact True.intro | simp only [go_sem, Try.ntmps13, reduceIte, reduceCtorEq, Nat.reduceAdd, Nat.reduceEqDiff, Nat.reduceLT, Nat.reduceLeDiff, Nat.reduceSub, Nat.reduceMul, Nat.reduceBEq, Int.reduceToNat, Int.reduceLE, Int.reduceLT, Int.reducePow]
              case en3 => simp only [go_sem, Try.ntmps13, reduceIte, reduceCtorEq, Nat.reduceAdd, Nat.reduceEqDiff, Nat.reduceLT, Nat.reduceLeDiff, Nat.reduceSub, Nat.reduceMul, Nat.reduceBEq, Int.reduceToNat, Int.reduceLE, Int.reduceLT, Int.reducePow]
              case ek3 => simp only [go_sem, Try.ntmps13, reduceIte, reduceCtorEq, Nat.reduceAdd, Nat.reduceEqDiff, Nat.reduceLT, Nat.reduceLeDiff, Nat.reduceSub, Nat.reduceMul, Nat.reduceBEq, Int.reduceToNat, Int.reduceLE, Int.reduceLT, Int.reducePow]
              case ev3 =>
                unfold rAskV
                rw [if_pos hH, hR]; rfl
            case f17 =>
              intro hb4
              have hk : 1 + (s.getD 0 0).toNat ≤ s.length := by simp only [Bool.or_eq_false_iff, decide_eq_false_iff_not] at hb4; omega
              have qs := (s.getD 0 0).toNat_lt
              refine AWp.skip ?_
              refine AWp.seq ?_
              refine AWp.reg (S1 := ?S19) (ob := ?o19) (S' := ?K19) tab_ok (noKnow _) mixed [2, 4, 6, 7, 8, 9] ?r19 ?h19 ?k19 ?w19
              case r19 => simp only [go_sem, Try.ntmps13, reduceIte, reduceCtorEq, Nat.reduceAdd, Nat.reduceEqDiff, Nat.reduceLT, Nat.reduceLeDiff, Nat.reduceSub, Nat.reduceMul, Nat.reduceBEq, Int.reduceToNat, Int.reduceLE, Int.reduceLT, Int.reducePow]; rfl
              case h19 => first | exact True.intro | omega | (simp only [go_sem, Try.ntmps13, reduceIte, reduceCtorEq, Nat.reduceAdd, Nat.reduceEqDiff, Nat.reduceLT, Nat.reduceLeDiff, Nat.reduceSub, Nat.reduceMul, Nat.reduceBEq, Int.reduceToNat, Int.reduceLE, Int.reduceLT, Int.reducePow]; done) | (simp only [go_sem, Try.ntmps13, reduceIte, reduceCtorEq, Nat.reduceAdd, Nat.reduceEqDiff, Nat.reduceLT, Nat.reduceLeDiff, Nat.reduceSub, Nat.reduceMul, Nat.reduceBEq, Int.reduceToNat, Int.reduceLE, Int.reduceLT, Int.reducePow]; omega)
              case k19 => simp only [go_sem, Try.ntmps13, reduceIte, reduceCtorEq, Nat.reduceAdd, Nat.reduceEqDiff, Nat.reduceLT, Nat.reduceLeDiff, Nat.reduceSub, Nat.reduceMul, Nat.reduceBEq, Int.reduceToNat, Int.reduceLE, Int.reduceLT, Int.reducePow]; rfl
              refine AWp.seq ?_
              refine AWp.drw (S1 := ?S20) (ob := ?o20) (lts := ?t20) (S' := ?K20) tab_ok (noKnow _) mixed [2, 4, 6, 7, 8, 9] ?r20 ?d20 ?h20 ?k20 ?w20
              case r20 => simp only [go_sem, Try.ntmps13, reduceIte, reduceCtorEq, Nat.reduceAdd, Nat.reduceEqDiff, Nat.reduceLT, Nat.reduceLeDiff, Nat.reduceSub, Nat.reduceMul, Nat.reduceBEq, Int.reduceToNat, Int.reduceLE, Int.reduceLT, Int.reducePow]; rfl
              case d20 => rfl
              case h20 => first | exact True.intro | omega | (simp only [go_sem, Try.ntmps13, reduceIte, reduceCtorEq, Nat.reduceAdd, Nat.reduceEqDiff, Nat.reduceLT, Nat.reduceLeDiff, Nat.reduceSub, Nat.reduceMul, Nat.reduceBEq, Int.reduceToNat, Int.reduceLE, Int.reduceLT, Int.reducePow]; done) | (simp only [go_sem, Try.ntmps13, reduceIte, reduceCtorEq, Nat.reduceAdd, Nat.reduceEqDiff, Nat.reduceLT, Nat.reduceLeDiff, Nat.reduceSub, Nat.reduceMul, Nat.reduceBEq, Int.reduceToNat, Int.reduceLE, Int.reduceLT, Int.reducePow]; omega)
              case k20 => simp only [go_sem, Try.ntmps13, reduceIte, reduceCtorEq, Nat.reduceAdd, Nat.reduceEqDiff, Nat.reduceLT, Nat.reduceLeDiff, Nat.reduceSub, Nat.reduceMul, Nat.reduceBEq, Int.reduceToNat, Int.reduceLE, Int.reduceLT, Int.reducePow]; rfl
              refine AWp.reg (S1 := ?S21) (ob := ?o21) (S' := ?K21) tab_ok (noKnow _) mixed [2, 4, 6, 7, 8] ?r21 ?h21 ?k21 ?w21
              case r21 => simp only [go_sem, Try.ntmps13, reduceIte, reduceCtorEq, Nat.reduceAdd, Nat.reduceEqDiff, Nat.reduceLT, Nat.reduceLeDiff, Nat.reduceSub, Nat.reduceMul, Nat.reduceBEq, Int.reduceToNat, Int.reduceLE, Int.reduceLT, Int.reducePow]; rfl
              case h21 => first | exact True.intro | omega | (simp only [go_sem, Try.ntmps13, reduceIte, reduceCtorEq, Nat.reduceAdd, Nat.reduceEqDiff, Nat.reduceLT, Nat.reduceLeDiff, Nat.reduceSub, Nat.reduceMul, Nat.reduceBEq, Int.reduceToNat, Int.reduceLE, Int.reduceLT, Int.reducePow]; done) | (simp only [go_sem, Try.ntmps13, reduceIte, reduceCtorEq, Nat.reduceAdd, Nat.reduceEqDiff, Nat.reduceLT, Nat.reduceLeDiff, Nat.reduceSub, Nat.reduceMul, Nat.reduceBEq, Int.reduceToNat, Int.reduceLE, Int.reduceLT, Int.reducePow]; omega)
              case k21 => simp only [go_sem, Try.ntmps13, reduceIte, reduceCtorEq, Nat.reduceAdd, Nat.reduceEqDiff, Nat.reduceLT, Nat.reduceLeDiff, Nat.reduceSub, Nat.reduceMul, Nat.reduceBEq, Int.reduceToNat, Int.reduceLE, Int.reduceLT, Int.reducePow]; rfl
              refine AWp.reg (S1 := ?S22) (ob := ?o22) (S' := ?K22) tab_ok (noKnow _) mixed [2, 4, 6, 7, 8] ?r22 ?h22 ?k22 ?w22
              case r22 => simp only [go_sem, Try.ntmps13, reduceIte, reduceCtorEq, Nat.reduceAdd, Nat.reduceEqDiff, Nat.reduceLT, Nat.reduceLeDiff, Nat.reduceSub, Nat.reduceMul, Nat.reduceBEq, Int.reduceToNat, Int.reduceLE, Int.reduceLT, Int.reducePow]; rfl
              case h22 => first | exact True.intro | omega | (simp only [go_sem, Try.ntmps13, reduceIte, reduceCtorEq, Nat.reduceAdd, Nat.reduceEqDiff, Nat.reduceLT, Nat.reduceLeDiff, Nat.reduceSub, Nat.reduceMul, Nat.reduceBEq, Int.reduceToNat, Int.reduceLE, Int.reduceLT, Int.reducePow]; done) | (simp only [go_sem, Try.ntmps13, reduceIte, reduceCtorEq, Nat.reduceAdd, Nat.reduceEqDiff, Nat.reduceLT, Nat.reduceLeDiff, Nat.reduceSub, Nat.reduceMul, Nat.reduceBEq, Int.reduceToNat, Int.reduceLE, Int.reduceLT, Int.reducePow]; omega)
              case k22 => simp only [go_sem, Try.ntmps13, reduceIte, reduceCtorEq, Nat.reduceAdd, Nat.reduceEqDiff, Nat.reduceLT, Nat.reduceLeDiff, Nat.reduceSub, Nat.reduceMul, Nat.reduceBEq, Int.reduceToNat, Int.reduceLE, Int.reduceLT, Int.reducePow]; rfl
              have hk1 : (1 + ((s.getD 0 0).toNat : Int)).toNat = 1 + (s.getD 0 0).toNat := by omega
              simp only [hk1, Nat.add_sub_cancel_left]
              have hE2 := hE
              rw [show (rC body).toNat - i = (rC body).toNat - (i + 1) + 1 by omega, rFiles, if_neg (by omega)] at hE2
              refine ⟨(rC body).toNat - (i + 1), ⟨[(2, .one (.s (.ptr 1 0))), (4, .one (.s (.d (.slice z 1 (brow (s.drop (1 + (s.getD 0 0).toNat))))))), (6, .one (.s (.ptr 2 0))), (7, .one (dv (.int .i64 ((rC body).toNat : Int)))), (8, .one (dv (.int .i64 ((i + 1 : Nat) : Int))))], [(3, .row (srow (fs ++ [(s.drop 1).take (s.getD 0 0).toNat])) 9), (2, .cells [.d (.int .i64 id), .d (.str (rS body)), .d (.bool (rB1 (body.getD 0 0))), .d (.bool (rB2 (body.getD 0 0))), .d (.bool (rB4 (body.getD 0 0))), .row 3 1 0 (fs ++ [(s.drop 1).take (s.getD 0 0).toNat]).length none] 24), (1, .cells [.d (.int .i64 0), .d (.str []), .d (.bool false), .d (.bool false), .d (.bool false), .d (.slice (some true) 1 [])] 24), (0, .cells [.d (.int .i64 id), .d (.int .i64 kind), .d (.slice z 1 (brow body))] 34)], 4⟩, by omega, Conv.rename (fun i => if i = 3 then 5 else i) (by simp) (by simp) ?_ ?_ ?_, i + 1, _, _, rfl, by omega, by simp [hf], by simp only [List.length_drop]; omega, hE2, rfl⟩
              · simp [lookN, AVal.ren, AV.ren, Sc.ren, AVal.ids, AV.ids, Sc.ids]
              · simp [lookN, AObj.ren, AObj.ids, Sc.ids, Sc.ren, srow]
              · simp
          case f15 =>
            intro hb3
            have hi2 : i = (rC body).toNat := by simp at hb3; omega
            have hR : rEnd body = some (s, fs) := by rw [← hE, hi2, Nat.sub_self, rFiles]
            refine AWp.exit ?_
            refine thenA_exit ?_
            refine thenA_exit ?_
            refine inB_eq ?_
            refine AWp.seq ?_
            refine AWp.seq ?_
            refine AWp.reg (S1 := ?S23) (ob := ?o23) (S' := ?K23) tab_ok (noKnow _) mixed [2, 6, 131] ?r23 ?h23 ?k23 ?w23
            case r23 => simp only [go_sem, Try.ntmps13, reduceIte, reduceCtorEq, Nat.reduceAdd, Nat.reduceEqDiff, Nat.reduceLT, Nat.reduceLeDiff, Nat.reduceSub, Nat.reduceMul, Nat.reduceBEq, Int.reduceToNat, Int.reduceLE, Int.reduceLT, Int.reducePow]; rfl
            case h23 => first | exact True.intro | omega | (simp only [go_sem, Try.ntmps13, reduceIte, reduceCtorEq, Nat.reduceAdd, Nat.reduceEqDiff, Nat.reduceLT, Nat.reduceLeDiff, Nat.reduceSub, Nat.reduceMul, Nat.reduceBEq, Int.reduceToNat, Int.reduceLE, Int.reduceLT, Int.reducePow]; done) | (simp only [go_sem, Try.ntmps13, reduceIte, reduceCtorEq, Nat.reduceAdd, Nat.reduceEqDiff, Nat.reduceLT, Nat.reduceLeDiff, Nat.reduceSub, Nat.reduceMul, Nat.reduceBEq, Int.reduceToNat, Int.reduceLE, Int.reduceLT, Int.reducePow]; omega)
            case k23 => simp only [go_sem, Try.ntmps13, reduceIte, reduceCtorEq, Nat.reduceAdd, Nat.reduceEqDiff, Nat.reduceLT, Nat.reduceLeDiff, Nat.reduceSub, Nat.reduceMul, Nat.reduceBEq, Int.reduceToNat, Int.reduceLE, Int.reduceLT, Int.reducePow]; rfl
            refine AWp.cond (b := ?b24) ?c24 ?t24 ?f24
            case c24 => simp only [go_sem, Try.ntmps13, reduceIte, reduceCtorEq, Nat.reduceAdd, Nat.reduceEqDiff, Nat.reduceLT, Nat.reduceLeDiff, Nat.reduceSub, Nat.reduceMul, Nat.reduceBEq, Int.reduceToNat, Int.reduceLE, Int.reduceLT, Int.reducePow]; rfl
            case t24 =>
              intro hb5
              refine AWp.seq ?_
              refine AWp.reg (S1 := ?S25) (ob := ?o25) (S' := ?K25) tab_ok (noKnow _) mixed [2, 3] ?r25 ?h25 ?k25 ?w25
              case r25 => simp only [go_sem, Try.ntmps13, reduceIte, reduceCtorEq, Nat.reduceAdd, Nat.reduceEqDiff, Nat.reduceLT, Nat.reduceLeDiff, Nat.reduceSub, Nat.reduceMul, Nat.reduceBEq, Int.reduceToNat, Int.reduceLE, Int.reduceLT, Int.reducePow]; rfl
              case h25 => first | exact True.intro | omega | (simp only [go_sem, Try.ntmps13, reduceIte, reduceCtorEq, Nat.reduceAdd, Nat.reduceEqDiff, Nat.reduceLT, Nat.reduceLeDiff, Nat.reduceSub, Nat.reduceMul, Nat.reduceBEq, Int.reduceToNat, Int.reduceLE, Int.reduceLT, Int.reducePow]; done) | (simp only [go_sem, Try.ntmps13, reduceIte, reduceCtorEq, Nat.reduceAdd, Nat.reduceEqDiff, Nat.reduceLT, Nat.reduceLeDiff, Nat.reduceSub, Nat.reduceMul, Nat.reduceBEq, Int.reduceToNat, Int.reduceLE, Int.reduceLT, Int.reducePow]; omega)
              case k25 => simp only [go_sem, Try.ntmps13, reduceIte, reduceCtorEq, Nat.reduceAdd, Nat.reduceEqDiff, Nat.reduceLT, Nat.reduceLeDiff, Nat.reduceSub, Nat.reduceMul, Nat.reduceBEq, Int.reduceToNat, Int.reduceLE, Int.reduceLT, Int.reducePow]; rfl
              refine AWp.ret ?_
              refine ends_p (vs := ?vs4) (ob := ?ro4) (vs' := ?ws4) (ks := ?ks4) (ob2 := ?rp4) tab_ok (by simp) ?er4 ?eo4 ?ef4 ?eg4 ?en4 ?ek4 ?ev4
              case er4 => simp only [go_sem, Try.ntmps13, reduceIte, reduceCtorEq, Nat.reduceAdd, Nat.reduceEqDiff, Nat.reduceLT, Nat.reduceLeDiff, Nat.reduceSub, Nat.reduceMul, Nat.reduceBEq, Int.reduceToNat, Int.reduceLE, Int.reduceLT, Int.reducePow, Try.results13]; rfl
              case eo4 => first | exact True.intro | simp only [go_sem, Try.ntmps13, reduceIte, reduceCtorEq, Nat.reduceAdd, Nat.reduceEqDiff, Nat.reduceLT, Nat.reduceLeDiff, Nat.reduceSub, Nat.reduceMul, Nat.reduceBEq, Int.reduceToNat, Int.reduceLE, Int.reduceLT, Int.reducePow]
              case ef4 => simp only [go_sem, Try.ntmps13, reduceIte, reduceCtorEq, Nat.reduceAdd, Nat.reduceEqDiff, Nat.reduceLT, Nat.reduceLeDiff, Nat.reduceSub, Nat.reduceMul, Nat.reduceBEq, Int.reduceToNat, Int.reduceLE, Int.reduceLT, Int.reducePow]; rfl
              case eg4 => first | exact True.intro | simp only [go_sem, Try.ntmps13, reduceIte, reduceCtorEq, Nat.reduceAdd, Nat.reduceEqDiff, Nat.reduceLT, Nat.reduceLeDiff, Nat.reduceSub, Nat.reduceMul, Nat.reduceBEq, Int.reduceToNat, Int.reduceLE, Int.reduceLT, Int.reducePow]
              case en4 => simp only [go_sem, Try.ntmps13, reduceIte, reduceCtorEq, Nat.reduceAdd, Nat.reduceEqDiff, Nat.reduceLT, Nat.reduceLeDiff, Nat.reduceSub, Nat.reduceMul, Nat.reduceBEq, Int.reduceToNat, Int.reduceLE, Int.reduceLT, Int.reducePow]
              case ek4 => simp only [go_sem, Try.ntmps13, reduceIte, reduceCtorEq, Nat.reduceAdd, Nat.reduceEqDiff, Nat.reduceLT, Nat.reduceLeDiff, Nat.reduceSub, Nat.reduceMul, Nat.reduceBEq, Int.reduceToNat, Int.reduceLE, Int.reduceLT, Int.reducePow]
              case ev4 =>
                unfold rAskV
                rw [if_pos hH, hR]
                cases s with
                | nil => simp at hb5
                | cons b s => rfl
            case f24 =>
              intro hb5
              refine AWp.skip ?_
              refine AWp.seq ?_
              refine AWp.reg (S1 := ?S26) (ob := ?o26) (S' := ?K26) tab_ok (noKnow _) mixed [2, 3] ?r26 ?h26 ?k26 ?w26
              case r26 => simp only [go_sem, Try.ntmps13, reduceIte, reduceCtorEq, Nat.reduceAdd, Nat.reduceEqDiff, Nat.reduceLT, Nat.reduceLeDiff, Nat.reduceSub, Nat.reduceMul, Nat.reduceBEq, Int.reduceToNat, Int.reduceLE, Int.reduceLT, Int.reducePow]; rfl
              case h26 => first | exact True.intro | omega | (simp only [go_sem, Try.ntmps13, reduceIte, reduceCtorEq, Nat.reduceAdd, Nat.reduceEqDiff, Nat.reduceLT, Nat.reduceLeDiff, Nat.reduceSub, Nat.reduceMul, Nat.reduceBEq, Int.reduceToNat, Int.reduceLE, Int.reduceLT, Int.reducePow]; done) | (simp only [go_sem, Try.ntmps13, reduceIte, reduceCtorEq, Nat.reduceAdd, Nat.reduceEqDiff, Nat.reduceLT, Nat.reduceLeDiff, Nat.reduceSub, Nat.reduceMul, Nat.reduceBEq, Int.reduceToNat, Int.reduceLE, Int.reduceLT, Int.reducePow]; omega)
              case k26 => simp only [go_sem, Try.ntmps13, reduceIte, reduceCtorEq, Nat.reduceAdd, Nat.reduceEqDiff, Nat.reduceLT, Nat.reduceLeDiff, Nat.reduceSub, Nat.reduceMul, Nat.reduceBEq, Int.reduceToNat, Int.reduceLE, Int.reduceLT, Int.reducePow]; rfl
              refine AWp.ret ?_
              refine ends_p (vs := ?vs5) (ob := ?ro5) (vs' := ?ws5) (ks := ?ks5) (ob2 := ?rp5) tab_ok (by simp) ?er5 ?eo5 ?ef5 ?eg5 ?en5 ?ek5 ?ev5
              case er5 => simp only [go_sem, Try.ntmps13, reduceIte, reduceCtorEq, Nat.reduceAdd, Nat.reduceEqDiff, Nat.reduceLT, Nat.reduceLeDiff, Nat.reduceSub, Nat.reduceMul, Nat.reduceBEq, Int.reduceToNat, Int.reduceLE, Int.reduceLT, Int.reducePow, Try.results13]; rfl
              case eo5 => first | exact True.intro | simp only [go_sem, Try.ntmps13, reduceIte, reduceCtorEq, Nat.reduceAdd, Nat.reduceEqDiff, Nat.reduceLT, Nat.reduceLeDiff, Nat.reduceSub, Nat.reduceMul, Nat.reduceBEq, Int.reduceToNat, Int.reduceLE, Int.reduceLT, Int.reducePow]
              case ef5 => simp only [go_sem, Try.ntmps13, reduceIte, reduceCtorEq, Nat.reduceAdd, Nat.reduceEqDiff, Nat.reduceLT, Nat.reduceLeDiff, Nat.reduceSub, Nat.reduceMul, Nat.reduceBEq, Int.reduceToNat, Int.reduceLE, Int.reduceLT, Int.reducePow]; rfl
              case eg5 => first | exact True.intro | simp only [go_sem, Try.ntmps13, reduceIte, reduceCtorEq, Nat.reduceAdd, Nat.reduceEqDiff, Nat.reduceLT, Nat.reduceLeDiff, Nat.reduceSub, Nat.reduceMul, Nat.reduceBEq, Int.reduceToNat, Int.reduceLE, Int.reduceLT, Int.reducePow]
              case en5 => simp only [go_sem, Try.ntmps13, reduceIte, reduceCtorEq, Nat.reduceAdd, Nat.reduceEqDiff, Nat.reduceLT, Nat.reduceLeDiff, Nat.reduceSub, Nat.reduceMul, Nat.reduceBEq, Int.reduceToNat, Int.reduceLE, Int.reduceLT, Int.reducePow]
              case ek5 => simp only [go_sem, Try.ntmps13, reduceIte, reduceCtorEq, Nat.reduceAdd, Nat.reduceEqDiff, Nat.reduceLT, Nat.reduceLeDiff, Nat.reduceSub, Nat.reduceMul, Nat.reduceBEq, Int.reduceToNat, Int.reduceLE, Int.reduceLT, Int.reducePow]
              case ev5 =>
                unfold rAskV
                rw [if_pos hH, hR]
                cases s with
                | nil => rfl
                | cons b s => simp at hb5
  · cases hq

end Go.Proofs.Hg
