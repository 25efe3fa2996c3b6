import Derived.Test.YtcgmhloohknngaaF3
set_option linter.unusedSimpArgs false
set_option linter.unusedVariables false
namespace Go.Proofs.Hg
open Go.RowKit
set_option maxRecDepth 100000
def frRight (id kind : Int) (body : List UInt8) : Bool := decide (0 ≤ id) && decide (id ≤ 65535) && decide (1 ≤ kind) && decide (kind ≤ 4) && decide ((body.length : Int) ≤ 4096)
def encB (id kind : Int) (body : List UInt8) : List UInt8 := [u8 ((body.length : Int) / 256), u8 (body.length : Int), u8 (id / 256), u8 id, u8 kind] ++ body
def encV (id kind : Int) (body : List UInt8) : AVal := if frRight id kind body then .tup [dv (.slice none 1 (brow (encB id kind body))), dv (.int .i64 0)] else .tup [dv (.slice (some true) 0 []), dv (.int .i64 231)]
theorem encV_ids (id kind : Int) (body : List UInt8) : (encV id kind body).ids = [] ∧ ∀ b x, encV id kind body ≠ .opt b x := by
  unfold encV
  split <;> simp [AVal.ids, AV.ids, Sc.ids]
def encF20 : List AV → Option (AVal × Prop)
  | [.agg [.d (.int .i64 id), .d (.int .i64 kind), .d (.slice z e es)]] => some (encV id kind (unb es), e = 1 ∧ es = brow (unb es))
  | _ => none
def kn20 : List (Nat × Cont) := [(27, twoK), (28, pureK rightF)]
theorem kn20_ok : ∀ p ∈ kn20, ContOk Try.prog p.1 p.2 := by
  intro p hp
  simp only [kn20, List.mem_cons, List.not_mem_nil, or_false] at hp
  rcases hp with rfl | rfl
  · exact twoK_ok
  · exact rightF_ok
theorem encF20_ok : ContOk Try.prog 20 (pureK encF20) := by
  refine pure_ok (nargs := 1) Try.func20 rfl (by kernel_rfl) (Nat.le_of_ble_eq_true (by kernel_rfl)) ?_
  intro args q hq hob
  unfold encF20 at hq
  split at hq
  · rename_i id kind z e es
    injection hq with hq
    subst hq
    obtain ⟨h1, h2⟩ : e = 1 ∧ es = brow (unb es) := hob
    generalize unb es = body at *
    subst h1 h2
    refine ⟨rfl, by simp [AV.ids, Sc.ids], (encV_ids _ _ _).1, (encV_ids _ _ _).2, ?_⟩
    refine AWp.seq ?_
    refine AWp.reg (S1 := ?S1) (ob := ?o1) (S' := ?K1) tab_ok (knowL_ok kn20_ok) mixed [1] ?r1 ?h1 ?k1 ?w1
    case r1 => simp only [go_sem, kn20, twoK, rightF, Try.ntmps20, reduceIte, reduceCtorEq, Nat.reduceAdd, Nat.reduceEqDiff, Nat.reduceLT, Nat.reduceLeDiff, Nat.reduceSub, Nat.reduceMul, Nat.reduceBEq, Int.reduceToNat, Int.reduceLE, Int.reduceLT, Int.reducePow]; rfl
    case h1 => first | exact True.intro | omega | (simp only [go_sem, kn20, twoK, rightF, Try.ntmps20, reduceIte, reduceCtorEq, Nat.reduceAdd, Nat.reduceEqDiff, Nat.reduceLT, Nat.reduceLeDiff, Nat.reduceSub, Nat.reduceMul, Nat.reduceBEq, Int.reduceToNat, Int.reduceLE, Int.reduceLT, Int.reducePow]; done) | (simp only [go_sem, kn20, twoK, rightF, Try.ntmps20, reduceIte, reduceCtorEq, Nat.reduceAdd, Nat.reduceEqDiff, Nat.reduceLT, Nat.reduceLeDiff, Nat.reduceSub, Nat.reduceMul, Nat.reduceBEq, Int.reduceToNat, Int.reduceLE, Int.reduceLT, Int.reducePow]; omega)
    case k1 => simp only [go_sem, kn20, twoK, rightF, Try.ntmps20, reduceIte, reduceCtorEq, Nat.reduceAdd, Nat.reduceEqDiff, Nat.reduceLT, Nat.reduceLeDiff, Nat.reduceSub, Nat.reduceMul, Nat.reduceBEq, Int.reduceToNat, Int.reduceLE, Int.reduceLT, Int.reducePow]; rfl
    refine AWp.seq ?_
    refine AWp.seq ?_
    refine AWp.reg (S1 := ?S2) (ob := ?o2) (S' := ?K2) tab_ok (knowL_ok kn20_ok) mixed [1, 7] ?r2 ?h2 ?k2 ?w2
    case r2 => simp only [go_sem, kn20, twoK, rightF, Try.ntmps20, reduceIte, reduceCtorEq, Nat.reduceAdd, Nat.reduceEqDiff, Nat.reduceLT, Nat.reduceLeDiff, Nat.reduceSub, Nat.reduceMul, Nat.reduceBEq, Int.reduceToNat, Int.reduceLE, Int.reduceLT, Int.reducePow]; rfl
    case h2 => first | exact True.intro | omega | (simp only [go_sem, kn20, twoK, rightF, Try.ntmps20, reduceIte, reduceCtorEq, Nat.reduceAdd, Nat.reduceEqDiff, Nat.reduceLT, Nat.reduceLeDiff, Nat.reduceSub, Nat.reduceMul, Nat.reduceBEq, Int.reduceToNat, Int.reduceLE, Int.reduceLT, Int.reducePow]; done) | (simp only [go_sem, kn20, twoK, rightF, Try.ntmps20, reduceIte, reduceCtorEq, Nat.reduceAdd, Nat.reduceEqDiff, Nat.reduceLT, Nat.reduceLeDiff, Nat.reduceSub, Nat.reduceMul, Nat.reduceBEq, Int.reduceToNat, Int.reduceLE, Int.reduceLT, Int.reducePow]; omega)
    case k2 => simp only [go_sem, kn20, twoK, rightF, Try.ntmps20, reduceIte, reduceCtorEq, Nat.reduceAdd, Nat.reduceEqDiff, Nat.reduceLT, Nat.reduceLeDiff, Nat.reduceSub, Nat.reduceMul, Nat.reduceBEq, Int.reduceToNat, Int.reduceLE, Int.reduceLT, Int.reducePow]; rfl
    refine AWp.cond (b := ?b3) ?c3 ?t3 ?f3
    case c3 => simp only [go_sem, kn20, twoK, rightF, Try.ntmps20, reduceIte, reduceCtorEq, Nat.reduceAdd, Nat.reduceEqDiff, Nat.reduceLT, Nat.reduceLeDiff, Nat.reduceSub, Nat.reduceMul, Nat.reduceBEq, Int.reduceToNat, Int.reduceLE, Int.reduceLT, Int.reducePow]; rfl
    case t3 =>
      intro hb1
      have hr : ¬ frRight id kind body = true := by rw [Bool.not_eq_true'] at hb1; unfold frRight; rw [hb1]; decide
      refine AWp.seq ?_
      refine AWp.reg (S1 := ?S4) (ob := ?o4) (S' := ?K4) tab_ok (knowL_ok kn20_ok) mixed [2, 3] ?r4 ?h4 ?k4 ?w4
      case r4 => simp only [go_sem, kn20, twoK, rightF, Try.ntmps20, reduceIte, reduceCtorEq, Nat.reduceAdd, Nat.reduceEqDiff, Nat.reduceLT, Nat.reduceLeDiff, Nat.reduceSub, Nat.reduceMul, Nat.reduceBEq, Int.reduceToNat, Int.reduceLE, Int.reduceLT, Int.reducePow]; rfl
      case h4 => first | exact True.intro | omega | (simp only [go_sem, kn20, twoK, rightF, Try.ntmps20, reduceIte, reduceCtorEq, Nat.reduceAdd, Nat.reduceEqDiff, Nat.reduceLT, Nat.reduceLeDiff, Nat.reduceSub, Nat.reduceMul, Nat.reduceBEq, Int.reduceToNat, Int.reduceLE, Int.reduceLT, Int.reducePow]; done) | (simp only [go_sem, kn20, twoK, rightF, Try.ntmps20, reduceIte, reduceCtorEq, Nat.reduceAdd, Nat.reduceEqDiff, Nat.reduceLT, Nat.reduceLeDiff, Nat.reduceSub, Nat.reduceMul, Nat.reduceBEq, Int.reduceToNat, Int.reduceLE, Int.reduceLT, Int.reducePow]; omega)
      case k4 => simp only [go_sem, kn20, twoK, rightF, Try.ntmps20, reduceIte, reduceCtorEq, Nat.reduceAdd, Nat.reduceEqDiff, Nat.reduceLT, Nat.reduceLeDiff, Nat.reduceSub, Nat.reduceMul, Nat.reduceBEq, Int.reduceToNat, Int.reduceLE, Int.reduceLT, Int.reducePow]; rfl
      refine AWp.ret ?_
      refine ends_p (vs := ?vs1) (ob := ?ro1) (vs' := ?ws1) (ks := ?ks1) (ob2 := ?rp1) tab_ok (by simp) ?er1 ?eo1 ?ef1 ?eg1 ?en1 ?ek1 ?ev1
      case er1 => simp only [go_sem, kn20, twoK, rightF, Try.ntmps20, reduceIte, reduceCtorEq, Nat.reduceAdd, Nat.reduceEqDiff, Nat.reduceLT, Nat.reduceLeDiff, Nat.reduceSub, Nat.reduceMul, Nat.reduceBEq, Int.reduceToNat, Int.reduceLE, Int.reduceLT, Int.reducePow, Try.results20]; rfl
      case eo1 => first | exact True.intro | simp only [go_sem, kn20, twoK, rightF, Try.ntmps20, reduceIte, reduceCtorEq, Nat.reduceAdd, Nat.reduceEqDiff, Nat.reduceLT, Nat.reduceLeDiff, Nat.reduceSub, Nat.reduceMul, Nat.reduceBEq, Int.reduceToNat, Int.reduceLE, Int.reduceLT, Int.reducePow]
      case ef1 => simp only [go_sem, kn20, twoK, rightF, Try.ntmps20, reduceIte, reduceCtorEq, Nat.reduceAdd, Nat.reduceEqDiff, Nat.reduceLT, Nat.reduceLeDiff, Nat.reduceSub, Nat.reduceMul, Nat.reduceBEq, Int.reduceToNat, Int.reduceLE, Int.reduceLT, Int.reducePow]; rfl
      case eg1 => first | exact True.intro | simp only [go_sem, kn20, twoK, rightF, Try.ntmps20, reduceIte, reduceCtorEq, Nat.reduceAdd, Nat.reduceEqDiff, Nat.reduceLT, Nat.reduceLeDiff, Nat.reduceSub, Nat.reduceMul, Nat.reduceBEq, Int.reduceToNat, Int.reduceLE, Int.reduceLT, Int.reducePow]
      case en1 => simp only [go_sem, kn20, twoK, rightF, Try.ntmps20, reduceIte, reduceCtorEq, Nat.reduceAdd, Nat.reduceEqDiff, Nat.reduceLT, Nat.reduceLeDiff, Nat.reduceSub, Nat.reduceMul, Nat.reduceBEq, Int.reduceToNat, Int.reduceLE, Int.reduceLT, Int.reducePow]
      case ek1 => simp only [go_sem, kn20, twoK, rightF, Try.ntmps20, reduceIte, reduceCtorEq, Nat.reduceAdd, Nat.reduceEqDiff, Nat.reduceLT, Nat.reduceLeDiff, Nat.reduceSub, Nat.reduceMul, Nat.reduceBEq, Int.reduceToNat, Int.reduceLE, Int.reduceLT, Int.reducePow]
      case ev1 =>
        unfold encV
        rw [if_neg hr]; rfl
    case f3 =>
      intro hb1
      have hr : frRight id kind body = true := by rw [Bool.not_eq_false'] at hb1; exact hb1
      have hh := hr
      simp only [frRight, Bool.and_eq_true, decide_eq_true_eq] at hh
      refine AWp.skip ?_
      refine AWp.seq ?_
      refine AWp.drw (S1 := ?S5) (ob := ?o5) (lts := ?t5) (S' := ?K5) tab_ok (knowL_ok kn20_ok) mixed [1, 4] ?r5 ?d5 ?h5 ?k5 ?w5
      case r5 => simp only [go_sem, kn20, twoK, rightF, Try.ntmps20, reduceIte, reduceCtorEq, Nat.reduceAdd, Nat.reduceEqDiff, Nat.reduceLT, Nat.reduceLeDiff, Nat.reduceSub, Nat.reduceMul, Nat.reduceBEq, Int.reduceToNat, Int.reduceLE, Int.reduceLT, Int.reducePow]; rfl
      case d5 => rfl
      case h5 => first | exact True.intro | omega | (simp only [go_sem, kn20, twoK, rightF, Try.ntmps20, reduceIte, reduceCtorEq, Nat.reduceAdd, Nat.reduceEqDiff, Nat.reduceLT, Nat.reduceLeDiff, Nat.reduceSub, Nat.reduceMul, Nat.reduceBEq, Int.reduceToNat, Int.reduceLE, Int.reduceLT, Int.reducePow]; done) | (simp only [go_sem, kn20, twoK, rightF, Try.ntmps20, reduceIte, reduceCtorEq, Nat.reduceAdd, Nat.reduceEqDiff, Nat.reduceLT, Nat.reduceLeDiff, Nat.reduceSub, Nat.reduceMul, Nat.reduceBEq, Int.reduceToNat, Int.reduceLE, Int.reduceLT, Int.reducePow]; omega)
      case k5 => simp only [go_sem, kn20, twoK, rightF, Try.ntmps20, reduceIte, reduceCtorEq, Nat.reduceAdd, Nat.reduceEqDiff, Nat.reduceLT, Nat.reduceLeDiff, Nat.reduceSub, Nat.reduceMul, Nat.reduceBEq, Int.reduceToNat, Int.reduceLE, Int.reduceLT, Int.reducePow]; rfl
      refine AWp.seq ?_
      refine AWp.reg (S1 := ?S6) (ob := ?o6) (S' := ?K6) tab_ok (knowL_ok kn20_ok) mixed [2, 3] ?r6 ?h6 ?k6 ?w6
      case r6 => simp only [go_sem, kn20, twoK, rightF, Try.ntmps20, reduceIte, reduceCtorEq, Nat.reduceAdd, Nat.reduceEqDiff, Nat.reduceLT, Nat.reduceLeDiff, Nat.reduceSub, Nat.reduceMul, Nat.reduceBEq, Int.reduceToNat, Int.reduceLE, Int.reduceLT, Int.reducePow]; rfl
      case h6 => first | exact True.intro | omega | (simp only [go_sem, kn20, twoK, rightF, Try.ntmps20, reduceIte, reduceCtorEq, Nat.reduceAdd, Nat.reduceEqDiff, Nat.reduceLT, Nat.reduceLeDiff, Nat.reduceSub, Nat.reduceMul, Nat.reduceBEq, Int.reduceToNat, Int.reduceLE, Int.reduceLT, Int.reducePow]; done) | (simp only [go_sem, kn20, twoK, rightF, Try.ntmps20, reduceIte, reduceCtorEq, Nat.reduceAdd, Nat.reduceEqDiff, Nat.reduceLT, Nat.reduceLeDiff, Nat.reduceSub, Nat.reduceMul, Nat.reduceBEq, Int.reduceToNat, Int.reduceLE, Int.reduceLT, Int.reducePow]; omega)
      case k6 => simp only [go_sem, kn20, twoK, rightF, Try.ntmps20, reduceIte, reduceCtorEq, Nat.reduceAdd, Nat.reduceEqDiff, Nat.reduceLT, Nat.reduceLeDiff, Nat.reduceSub, Nat.reduceMul, Nat.reduceBEq, Int.reduceToNat, Int.reduceLE, Int.reduceLT, Int.reducePow]; rfl
      refine AWp.ret ?_
      refine ends_p (vs := ?vs2) (ob := ?ro2) (vs' := ?ws2) (ks := ?ks2) (ob2 := ?rp2) tab_ok (by simp) ?er2 ?eo2 ?ef2 ?eg2 ?en2 ?ek2 ?ev2
      case er2 => simp only [go_sem, kn20, twoK, rightF, Try.ntmps20, reduceIte, reduceCtorEq, Nat.reduceAdd, Nat.reduceEqDiff, Nat.reduceLT, Nat.reduceLeDiff, Nat.reduceSub, Nat.reduceMul, Nat.reduceBEq, Int.reduceToNat, Int.reduceLE, Int.reduceLT, Int.reducePow, Try.results20]; rfl
      case eo2 => first | exact True.intro | simp only [go_sem, kn20, twoK, rightF, Try.ntmps20, reduceIte, reduceCtorEq, Nat.reduceAdd, Nat.reduceEqDiff, Nat.reduceLT, Nat.reduceLeDiff, Nat.reduceSub, Nat.reduceMul, Nat.reduceBEq, Int.reduceToNat, Int.reduceLE, Int.reduceLT, Int.reducePow]
      case ef2 => simp only [go_sem, kn20, twoK, rightF, Try.ntmps20, reduceIte, reduceCtorEq, Nat.reduceAdd, Nat.reduceEqDiff, Nat.reduceLT, Nat.reduceLeDiff, Nat.reduceSub, Nat.reduceMul, Nat.reduceBEq, Int.reduceToNat, Int.reduceLE, Int.reduceLT, Int.reducePow]; rfl
      case eg2 => first | exact True.intro | simp only [go_sem, kn20, twoK, rightF, Try.ntmps20, reduceIte, reduceCtorEq, Nat.reduceAdd, Nat.reduceEqDiff, Nat.reduceLT, Nat.reduceLeDiff, Nat.reduceSub, Nat.reduceMul, Nat.reduceBEq, Int.reduceToNat, Int.reduceLE, Int.reduceLT, Int.reducePow]
      case en2 => simp only [go_sem, kn20, twoK, rightF, Try.ntmps20, reduceIte, reduceCtorEq, Nat.reduceAdd, Nat.reduceEqDiff, Nat.reduceLT, Nat.reduceLeDiff, Nat.reduceSub, Nat.reduceMul, Nat.reduceBEq, Int.reduceToNat, Int.reduceLE, Int.reduceLT, Int.reducePow]
      case ek2 => simp only [go_sem, kn20, twoK, rightF, Try.ntmps20, reduceIte, reduceCtorEq, Nat.reduceAdd, Nat.reduceEqDiff, Nat.reduceLT, Nat.reduceLeDiff, Nat.reduceSub, Nat.reduceMul, Nat.reduceBEq, Int.reduceToNat, Int.reduceLE, Int.reduceLT, Int.reducePow]
      case ev2 =>
        unfold encV
        rw [if_pos hr]
        simp [pack, encB, brow]
  · cases hq

end Go.Proofs.Hg
