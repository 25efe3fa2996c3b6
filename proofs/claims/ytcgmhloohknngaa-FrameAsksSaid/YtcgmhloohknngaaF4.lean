/- Walks of functions: what they do, as contracts. -/
import Derived.Test.YtcgmhloohknngaaF3
set_option linter.unusedSimpArgs false
set_option linter.unusedVariables false
namespace Go.Proofs.Hg
open Go.RowKit
set_option maxRecDepth 100000
def rTwoF : List AV → Option (AVal × Prop)
  | [.s (.d (.int .i64 n))] => some (.one (dv (.slice none 1 [[.int .u8 (cvt .u8 (n / 256))], [.int .u8 (cvt .u8 n)]])), 0 ≤ n ∧ n ≤ 9223372036854775807)
  | _ => none
theorem rTwoF_ok : ContOk Try.prog 29 (pureK rTwoF) := by
  refine pure_ok (nargs := 1) Try.func29 rfl (by kernel_rfl) (Nat.le_of_ble_eq_true (by kernel_rfl)) ?_
  intro args q hq hob
  unfold rTwoF at hq
  split at hq
  · rename_i n
    injection hq with hq
    subst hq
    refine ⟨rfl, by simp [AV.ids, Sc.ids], by simp [AVal.ids, AV.ids, Sc.ids], by simp, ?_⟩
    refine AWp.seq ?_
    refine AWp.reg (S1 := ?S1) (ob := ?o1) (S' := ?K1) tab_ok (noKnow _) mixed [0] ?r1 ?h1 ?k1 ?w1
    case r1 => simp only [go_sem, Try.ntmps29, reduceIte, reduceCtorEq, Nat.reduceAdd, Nat.reduceEqDiff, Nat.reduceLT, Nat.reduceLeDiff, Nat.reduceSub, Nat.reduceMul, Nat.reduceBEq, Int.reduceToNat, Int.reduceLE, Int.reduceLT, Int.reducePow]; rfl
    case h1 => first | exact True.intro | omega | (simp only [go_sem, Try.ntmps29, reduceIte, reduceCtorEq, Nat.reduceAdd, Nat.reduceEqDiff, Nat.reduceLT, Nat.reduceLeDiff, Nat.reduceSub, Nat.reduceMul, Nat.reduceBEq, Int.reduceToNat, Int.reduceLE, Int.reduceLT, Int.reducePow]; done) | (simp only [go_sem, Try.ntmps29, reduceIte, reduceCtorEq, Nat.reduceAdd, Nat.reduceEqDiff, Nat.reduceLT, Nat.reduceLeDiff, Nat.reduceSub, Nat.reduceMul, Nat.reduceBEq, Int.reduceToNat, Int.reduceLE, Int.reduceLT, Int.reducePow]; omega)
    case k1 => simp only [go_sem, Try.ntmps29, reduceIte, reduceCtorEq, Nat.reduceAdd, Nat.reduceEqDiff, Nat.reduceLT, Nat.reduceLeDiff, Nat.reduceSub, Nat.reduceMul, Nat.reduceBEq, Int.reduceToNat, Int.reduceLE, Int.reduceLT, Int.reducePow]; rfl
    refine AWp.seq ?_
    refine AWp.reg (S1 := ?S2) (ob := ?o2) (S' := ?K2) tab_ok (noKnow _) mixed [2] ?r2 ?h2 ?k2 ?w2
    case r2 => simp only [go_sem, Try.ntmps29, reduceIte, reduceCtorEq, Nat.reduceAdd, Nat.reduceEqDiff, Nat.reduceLT, Nat.reduceLeDiff, Nat.reduceSub, Nat.reduceMul, Nat.reduceBEq, Int.reduceToNat, Int.reduceLE, Int.reduceLT, Int.reducePow]; rfl
    case h2 =>
      have h : 0 ≤ n ∧ n ≤ 9223372036854775807 := hob
      exact ⟨h.1, IntWalk.i64_in _ ⟨by omega, by omega⟩⟩
    case k2 => simp only [go_sem, Try.ntmps29, reduceIte, reduceCtorEq, Nat.reduceAdd, Nat.reduceEqDiff, Nat.reduceLT, Nat.reduceLeDiff, Nat.reduceSub, Nat.reduceMul, Nat.reduceBEq, Int.reduceToNat, Int.reduceLE, Int.reduceLT, Int.reducePow]; rfl
    refine AWp.ret ?_
    refine ends_p (vs := ?vs1) (ob := ?ro1) (vs' := ?ws1) (ks := ?ks1) (ob2 := ?rp1) tab_ok (by simp) ?er1 ?eo1 ?ef1 ?eg1 ?en1 ?ek1 ?ev1
    case er1 => simp only [go_sem, Try.ntmps29, reduceIte, reduceCtorEq, Nat.reduceAdd, Nat.reduceEqDiff, Nat.reduceLT, Nat.reduceLeDiff, Nat.reduceSub, Nat.reduceMul, Nat.reduceBEq, Int.reduceToNat, Int.reduceLE, Int.reduceLT, Int.reducePow, Try.results29]; rfl
    case eo1 => first | exact True.intro | simp only [go_sem, Try.ntmps29, reduceIte, reduceCtorEq, Nat.reduceAdd, Nat.reduceEqDiff, Nat.reduceLT, Nat.reduceLeDiff, Nat.reduceSub, Nat.reduceMul, Nat.reduceBEq, Int.reduceToNat, Int.reduceLE, Int.reduceLT, Int.reducePow]
    case ef1 => simp only [go_sem, Try.ntmps29, reduceIte, reduceCtorEq, Nat.reduceAdd, Nat.reduceEqDiff, Nat.reduceLT, Nat.reduceLeDiff, Nat.reduceSub, Nat.reduceMul, Nat.reduceBEq, Int.reduceToNat, Int.reduceLE, Int.reduceLT, Int.reducePow]; rfl
    case eg1 => first | exact True.intro | simp only [go_sem, Try.ntmps29, reduceIte, reduceCtorEq, Nat.reduceAdd, Nat.reduceEqDiff, Nat.reduceLT, Nat.reduceLeDiff, Nat.reduceSub, Nat.reduceMul, Nat.reduceBEq, Int.reduceToNat, Int.reduceLE, Int.reduceLT, Int.reducePow]
    case en1 => simp only [go_sem, Try.ntmps29, reduceIte, reduceCtorEq, Nat.reduceAdd, Nat.reduceEqDiff, Nat.reduceLT, Nat.reduceLeDiff, Nat.reduceSub, Nat.reduceMul, Nat.reduceBEq, Int.reduceToNat, Int.reduceLE, Int.reduceLT, Int.reducePow]
    case ek1 => simp only [go_sem, Try.ntmps29, reduceIte, reduceCtorEq, Nat.reduceAdd, Nat.reduceEqDiff, Nat.reduceLT, Nat.reduceLeDiff, Nat.reduceSub, Nat.reduceMul, Nat.reduceBEq, Int.reduceToNat, Int.reduceLE, Int.reduceLT, Int.reducePow]
    case ev1 =>
      first | rfl | simp only [go_sem, Try.ntmps29, reduceIte, reduceCtorEq, Nat.reduceAdd, Nat.reduceEqDiff, Nat.reduceLT, Nat.reduceLeDiff, Nat.reduceSub, Nat.reduceMul, Nat.reduceBEq, Int.reduceToNat, Int.reduceLE, Int.reduceLT, Int.reducePow]
  · cases hq

def rRightF : List AV → Option (AVal × Prop)
  | [.agg [.d (.int .i64 id), .d (.int .i64 kind), .d (.slice z e es)]] => some (.one (dv (.bool (decide (0 ≤ id) && decide (id ≤ 65535) && decide (1 ≤ kind) && decide (kind ≤ 4) && decide ((es.length : Int) ≤ 4096)))), True)
  | _ => none
theorem rRightF_ok : ContOk Try.prog 30 (pureK rRightF) := by
  refine pure_ok (nargs := 1) Try.func30 rfl (by kernel_rfl) (Nat.le_of_ble_eq_true (by kernel_rfl)) ?_
  intro args q hq hob
  unfold rRightF at hq
  split at hq
  · rename_i id kind z e es
    injection hq with hq
    subst hq
    refine ⟨rfl, by simp [AV.ids, Sc.ids], by simp [AVal.ids, AV.ids, Sc.ids], by simp, ?_⟩
    refine AWp.seq ?_
    refine AWp.reg (S1 := ?S1) (ob := ?o1) (S' := ?K1) tab_ok (noKnow _) mixed [1] ?r1 ?h1 ?k1 ?w1
    case r1 => simp only [go_sem, Try.ntmps30, reduceIte, reduceCtorEq, Nat.reduceAdd, Nat.reduceEqDiff, Nat.reduceLT, Nat.reduceLeDiff, Nat.reduceSub, Nat.reduceMul, Nat.reduceBEq, Int.reduceToNat, Int.reduceLE, Int.reduceLT, Int.reducePow]; rfl
    case h1 => first | exact True.intro | omega | (simp only [go_sem, Try.ntmps30, reduceIte, reduceCtorEq, Nat.reduceAdd, Nat.reduceEqDiff, Nat.reduceLT, Nat.reduceLeDiff, Nat.reduceSub, Nat.reduceMul, Nat.reduceBEq, Int.reduceToNat, Int.reduceLE, Int.reduceLT, Int.reducePow]; done) | (simp only [go_sem, Try.ntmps30, reduceIte, reduceCtorEq, Nat.reduceAdd, Nat.reduceEqDiff, Nat.reduceLT, Nat.reduceLeDiff, Nat.reduceSub, Nat.reduceMul, Nat.reduceBEq, Int.reduceToNat, Int.reduceLE, Int.reduceLT, Int.reducePow]; omega)
    case k1 => simp only [go_sem, Try.ntmps30, reduceIte, reduceCtorEq, Nat.reduceAdd, Nat.reduceEqDiff, Nat.reduceLT, Nat.reduceLeDiff, Nat.reduceSub, Nat.reduceMul, Nat.reduceBEq, Int.reduceToNat, Int.reduceLE, Int.reduceLT, Int.reducePow]; rfl
    refine AWp.seq ?_
    refine AWp.reg (S1 := ?S2) (ob := ?o2) (S' := ?K2) tab_ok (noKnow _) mixed [2] ?r2 ?h2 ?k2 ?w2
    case r2 => simp only [go_sem, Try.ntmps30, reduceIte, reduceCtorEq, Nat.reduceAdd, Nat.reduceEqDiff, Nat.reduceLT, Nat.reduceLeDiff, Nat.reduceSub, Nat.reduceMul, Nat.reduceBEq, Int.reduceToNat, Int.reduceLE, Int.reduceLT, Int.reducePow]; rfl
    case h2 => first | exact True.intro | omega | (simp only [go_sem, Try.ntmps30, reduceIte, reduceCtorEq, Nat.reduceAdd, Nat.reduceEqDiff, Nat.reduceLT, Nat.reduceLeDiff, Nat.reduceSub, Nat.reduceMul, Nat.reduceBEq, Int.reduceToNat, Int.reduceLE, Int.reduceLT, Int.reducePow]; done) | (simp only [go_sem, Try.ntmps30, reduceIte, reduceCtorEq, Nat.reduceAdd, Nat.reduceEqDiff, Nat.reduceLT, Nat.reduceLeDiff, Nat.reduceSub, Nat.reduceMul, Nat.reduceBEq, Int.reduceToNat, Int.reduceLE, Int.reduceLT, Int.reducePow]; omega)
    case k2 => simp only [go_sem, Try.ntmps30, reduceIte, reduceCtorEq, Nat.reduceAdd, Nat.reduceEqDiff, Nat.reduceLT, Nat.reduceLeDiff, Nat.reduceSub, Nat.reduceMul, Nat.reduceBEq, Int.reduceToNat, Int.reduceLE, Int.reduceLT, Int.reducePow]; rfl
    refine AWp.ret ?_
    refine ends_p (vs := ?vs1) (ob := ?ro1) (vs' := ?ws1) (ks := ?ks1) (ob2 := ?rp1) tab_ok (by simp) ?er1 ?eo1 ?ef1 ?eg1 ?en1 ?ek1 ?ev1
    case er1 => simp only [go_sem, Try.ntmps30, reduceIte, reduceCtorEq, Nat.reduceAdd, Nat.reduceEqDiff, Nat.reduceLT, Nat.reduceLeDiff, Nat.reduceSub, Nat.reduceMul, Nat.reduceBEq, Int.reduceToNat, Int.reduceLE, Int.reduceLT, Int.reducePow, Try.results30]; rfl
    case eo1 => first | exact True.intro | simp only [go_sem, Try.ntmps30, reduceIte, reduceCtorEq, Nat.reduceAdd, Nat.reduceEqDiff, Nat.reduceLT, Nat.reduceLeDiff, Nat.reduceSub, Nat.reduceMul, Nat.reduceBEq, Int.reduceToNat, Int.reduceLE, Int.reduceLT, Int.reducePow]
    case ef1 => simp only [go_sem, Try.ntmps30, reduceIte, reduceCtorEq, Nat.reduceAdd, Nat.reduceEqDiff, Nat.reduceLT, Nat.reduceLeDiff, Nat.reduceSub, Nat.reduceMul, Nat.reduceBEq, Int.reduceToNat, Int.reduceLE, Int.reduceLT, Int.reducePow]; rfl
    case eg1 => first | exact True.intro | simp only [go_sem, Try.ntmps30, reduceIte, reduceCtorEq, Nat.reduceAdd, Nat.reduceEqDiff, Nat.reduceLT, Nat.reduceLeDiff, Nat.reduceSub, Nat.reduceMul, Nat.reduceBEq, Int.reduceToNat, Int.reduceLE, Int.reduceLT, Int.reducePow]
    case en1 => simp only [go_sem, Try.ntmps30, reduceIte, reduceCtorEq, Nat.reduceAdd, Nat.reduceEqDiff, Nat.reduceLT, Nat.reduceLeDiff, Nat.reduceSub, Nat.reduceMul, Nat.reduceBEq, Int.reduceToNat, Int.reduceLE, Int.reduceLT, Int.reducePow]
    case ek1 => simp only [go_sem, Try.ntmps30, reduceIte, reduceCtorEq, Nat.reduceAdd, Nat.reduceEqDiff, Nat.reduceLT, Nat.reduceLeDiff, Nat.reduceSub, Nat.reduceMul, Nat.reduceBEq, Int.reduceToNat, Int.reduceLE, Int.reduceLT, Int.reducePow]
    case ev1 =>
      first | rfl | simp only [go_sem, Try.ntmps30, reduceIte, reduceCtorEq, Nat.reduceAdd, Nat.reduceEqDiff, Nat.reduceLT, Nat.reduceLeDiff, Nat.reduceSub, Nat.reduceMul, Nat.reduceBEq, Int.reduceToNat, Int.reduceLE, Int.reduceLT, Int.reducePow]
  · cases hq

theorem reqOk_long {id : Int} {sc : List UInt8} {qu xt ip : Bool} {fl : List (List UInt8)} (h : ¬ (sc.length ≤ 4096 ∧ fl.length ≤ 255)) : ¬ reqOk id sc qu xt ip fl = true := by
  simp only [reqOk, Bool.and_eq_true, decide_eq_true_eq]
  intro h2
  have : (reqBody sc qu xt ip fl).length = sc.length + 4 + (fl.flatMap encF).length := by simp [reqBody, reqPre, -List.length_flatMap]; omega
  omega
def rReqF : List AV → Option (AVal × Prop)
  | [.agg [.d (.int .i64 id), .d (.str sc), .d (.bool qu), .d (.bool xt), .d (.bool ip), .d (.slice z e fs)]] => some (reqV id sc qu xt ip (uns fs), e = 1 ∧ fs = srow (uns fs))
  | _ => none
def kn11 : List (Nat × Cont) := [(29, pureK rTwoF), (30, pureK rRightF)]
theorem kn11_ok : ∀ p ∈ kn11, ContOk Try.prog p.1 p.2 := by
  intro p hp
  simp only [kn11, List.mem_cons, List.not_mem_nil, or_false] at hp
  rcases hp with rfl | rfl
  · exact rTwoF_ok
  · exact rRightF_ok
theorem rReqF_ok : ContOk Try.prog 11 (pureK rReqF) := by
  refine pure_ok (nargs := 1) Try.func11 rfl (by kernel_rfl) (Nat.le_of_ble_eq_true (by kernel_rfl)) ?_
  intro args q hq hob
  unfold rReqF at hq
  split at hq
  · rename_i id sc qu xt ip z e fs
    injection hq with hq
    subst hq
    obtain ⟨h1, h2⟩ : e = 1 ∧ fs = srow (uns fs) := hob
    generalize uns fs = fl at *
    subst h1 h2
    refine ⟨rfl, by simp [AV.ids, Sc.ids], (reqV_ids _ _ _ _ _ _).1, (reqV_ids _ _ _ _ _ _).2, ?_⟩
    refine AWp.seq ?_
    refine AWp.reg (S1 := ?S1) (ob := ?o1) (S' := ?K1) tab_ok (knowL_ok kn11_ok) mixed [1, 2] ?r1 ?h1 ?k1 ?w1
    case r1 => simp only [go_sem, kn11, rTwoF, rRightF, Try.ntmps11, reduceIte, reduceCtorEq, Nat.reduceAdd, Nat.reduceEqDiff, Nat.reduceLT, Nat.reduceLeDiff, Nat.reduceSub, Nat.reduceMul, Nat.reduceBEq, Int.reduceToNat, Int.reduceLE, Int.reduceLT, Int.reducePow]; rfl
    case h1 => first | exact True.intro | omega | (simp only [go_sem, kn11, rTwoF, rRightF, Try.ntmps11, reduceIte, reduceCtorEq, Nat.reduceAdd, Nat.reduceEqDiff, Nat.reduceLT, Nat.reduceLeDiff, Nat.reduceSub, Nat.reduceMul, Nat.reduceBEq, Int.reduceToNat, Int.reduceLE, Int.reduceLT, Int.reducePow]; done) | (simp only [go_sem, kn11, rTwoF, rRightF, Try.ntmps11, reduceIte, reduceCtorEq, Nat.reduceAdd, Nat.reduceEqDiff, Nat.reduceLT, Nat.reduceLeDiff, Nat.reduceSub, Nat.reduceMul, Nat.reduceBEq, Int.reduceToNat, Int.reduceLE, Int.reduceLT, Int.reducePow]; omega)
    case k1 => simp only [go_sem, kn11, rTwoF, rRightF, Try.ntmps11, reduceIte, reduceCtorEq, Nat.reduceAdd, Nat.reduceEqDiff, Nat.reduceLT, Nat.reduceLeDiff, Nat.reduceSub, Nat.reduceMul, Nat.reduceBEq, Int.reduceToNat, Int.reduceLE, Int.reduceLT, Int.reducePow]; rfl
    refine AWp.seq ?_
    refine AWp.reg (S1 := ?S2) (ob := ?o2) (S' := ?K2) tab_ok (knowL_ok kn11_ok) mixed [1, 2, 4] ?r2 ?h2 ?k2 ?w2
    case r2 => simp only [go_sem, kn11, rTwoF, rRightF, Try.ntmps11, reduceIte, reduceCtorEq, Nat.reduceAdd, Nat.reduceEqDiff, Nat.reduceLT, Nat.reduceLeDiff, Nat.reduceSub, Nat.reduceMul, Nat.reduceBEq, Int.reduceToNat, Int.reduceLE, Int.reduceLT, Int.reducePow]; rfl
    case h2 => first | exact True.intro | omega | (simp only [go_sem, kn11, rTwoF, rRightF, Try.ntmps11, reduceIte, reduceCtorEq, Nat.reduceAdd, Nat.reduceEqDiff, Nat.reduceLT, Nat.reduceLeDiff, Nat.reduceSub, Nat.reduceMul, Nat.reduceBEq, Int.reduceToNat, Int.reduceLE, Int.reduceLT, Int.reducePow]; done) | (simp only [go_sem, kn11, rTwoF, rRightF, Try.ntmps11, reduceIte, reduceCtorEq, Nat.reduceAdd, Nat.reduceEqDiff, Nat.reduceLT, Nat.reduceLeDiff, Nat.reduceSub, Nat.reduceMul, Nat.reduceBEq, Int.reduceToNat, Int.reduceLE, Int.reduceLT, Int.reducePow]; omega)
    case k2 => simp only [go_sem, kn11, rTwoF, rRightF, Try.ntmps11, reduceIte, reduceCtorEq, Nat.reduceAdd, Nat.reduceEqDiff, Nat.reduceLT, Nat.reduceLeDiff, Nat.reduceSub, Nat.reduceMul, Nat.reduceBEq, Int.reduceToNat, Int.reduceLE, Int.reduceLT, Int.reducePow]; rfl
    refine AWp.seqTo ⟨[(1, .one (.s (.ptr 0 0))), (2, .one (.s (.ptr 1 0))), (4, .one (dv (.int .i64 (if qu then 1 else 0))))], [(1, .cells [.d (.int .i64 0), .d (.int .i64 0), .d (.slice (some true) 1 [])] 34), (0, .cells [.d (.int .i64 id), .d (.str sc), .d (.bool qu), .d (.bool xt), .d (.bool ip), .d (.slice z 1 (srow fl))] 24)], 2⟩ ?a3 ?b3
    case a3 =>
      refine AWp.seq ?_
      refine AWp.reg (S1 := ?S4) (ob := ?o4) (S' := ?K4) tab_ok (knowL_ok kn11_ok) mixed [1, 2, 4, 10] ?r4 ?h4 ?k4 ?w4
      case r4 => simp only [go_sem, kn11, rTwoF, rRightF, Try.ntmps11, reduceIte, reduceCtorEq, Nat.reduceAdd, Nat.reduceEqDiff, Nat.reduceLT, Nat.reduceLeDiff, Nat.reduceSub, Nat.reduceMul, Nat.reduceBEq, Int.reduceToNat, Int.reduceLE, Int.reduceLT, Int.reducePow]; rfl
      case h4 => first | exact True.intro | omega | (simp only [go_sem, kn11, rTwoF, rRightF, Try.ntmps11, reduceIte, reduceCtorEq, Nat.reduceAdd, Nat.reduceEqDiff, Nat.reduceLT, Nat.reduceLeDiff, Nat.reduceSub, Nat.reduceMul, Nat.reduceBEq, Int.reduceToNat, Int.reduceLE, Int.reduceLT, Int.reducePow]; done) | (simp only [go_sem, kn11, rTwoF, rRightF, Try.ntmps11, reduceIte, reduceCtorEq, Nat.reduceAdd, Nat.reduceEqDiff, Nat.reduceLT, Nat.reduceLeDiff, Nat.reduceSub, Nat.reduceMul, Nat.reduceBEq, Int.reduceToNat, Int.reduceLE, Int.reduceLT, Int.reducePow]; omega)
      case k4 => simp only [go_sem, kn11, rTwoF, rRightF, Try.ntmps11, reduceIte, reduceCtorEq, Nat.reduceAdd, Nat.reduceEqDiff, Nat.reduceLT, Nat.reduceLeDiff, Nat.reduceSub, Nat.reduceMul, Nat.reduceBEq, Int.reduceToNat, Int.reduceLE, Int.reduceLT, Int.reducePow]; rfl
      refine AWp.cond (b := ?b5) ?c5 ?t5 ?f5
      case c5 => simp only [go_sem, kn11, rTwoF, rRightF, Try.ntmps11, reduceIte, reduceCtorEq, Nat.reduceAdd, Nat.reduceEqDiff, Nat.reduceLT, Nat.reduceLeDiff, Nat.reduceSub, Nat.reduceMul, Nat.reduceBEq, Int.reduceToNat, Int.reduceLE, Int.reduceLT, Int.reducePow]; rfl
      case t5 =>
        intro hb1
        refine AWp.reg (S1 := ?S6) (ob := ?o6) (S' := ?K6) tab_ok (knowL_ok kn11_ok) mixed [1, 2, 4] ?r6 ?h6 ?k6 ?w6
        case r6 => simp only [go_sem, kn11, rTwoF, rRightF, Try.ntmps11, reduceIte, reduceCtorEq, Nat.reduceAdd, Nat.reduceEqDiff, Nat.reduceLT, Nat.reduceLeDiff, Nat.reduceSub, Nat.reduceMul, Nat.reduceBEq, Int.reduceToNat, Int.reduceLE, Int.reduceLT, Int.reducePow]; rfl
        case h6 => first | exact True.intro | omega | (simp only [go_sem, kn11, rTwoF, rRightF, Try.ntmps11, reduceIte, reduceCtorEq, Nat.reduceAdd, Nat.reduceEqDiff, Nat.reduceLT, Nat.reduceLeDiff, Nat.reduceSub, Nat.reduceMul, Nat.reduceBEq, Int.reduceToNat, Int.reduceLE, Int.reduceLT, Int.reducePow]; done) | (simp only [go_sem, kn11, rTwoF, rRightF, Try.ntmps11, reduceIte, reduceCtorEq, Nat.reduceAdd, Nat.reduceEqDiff, Nat.reduceLT, Nat.reduceLeDiff, Nat.reduceSub, Nat.reduceMul, Nat.reduceBEq, Int.reduceToNat, Int.reduceLE, Int.reduceLT, Int.reducePow]; omega)
        case k6 => simp only [go_sem, kn11, rTwoF, rRightF, Try.ntmps11, reduceIte, reduceCtorEq, Nat.reduceAdd, Nat.reduceEqDiff, Nat.reduceLT, Nat.reduceLeDiff, Nat.reduceSub, Nat.reduceMul, Nat.reduceBEq, Int.reduceToNat, Int.reduceLE, Int.reduceLT, Int.reducePow]; rfl
        refine (Conv.keepT [1, 2, 4] rfl).trans (Conv.eq ?_)
        simp [St.keepT, keepE, lookN, hb1]
      case f5 =>
        intro hb1
        refine AWp.skip ?_
        refine (Conv.keepT [1, 2, 4] rfl).trans (Conv.eq ?_)
        simp [St.keepT, keepE, lookN, hb1]
    case b3 =>
      refine AWp.seqTo ⟨[(1, .one (.s (.ptr 0 0))), (2, .one (.s (.ptr 1 0))), (4, .one (dv (.int .i64 ((if qu then 1 else 0) + (if xt then 2 else 0)))))], [(1, .cells [.d (.int .i64 0), .d (.int .i64 0), .d (.slice (some true) 1 [])] 34), (0, .cells [.d (.int .i64 id), .d (.str sc), .d (.bool qu), .d (.bool xt), .d (.bool ip), .d (.slice z 1 (srow fl))] 24)], 2⟩ ?a7 ?b7
      case a7 =>
        refine AWp.seq ?_
        refine AWp.reg (S1 := ?S8) (ob := ?o8) (S' := ?K8) tab_ok (knowL_ok kn11_ok) mixed [1, 2, 4, 14] ?r8 ?h8 ?k8 ?w8
        case r8 => simp only [go_sem, kn11, rTwoF, rRightF, Try.ntmps11, reduceIte, reduceCtorEq, Nat.reduceAdd, Nat.reduceEqDiff, Nat.reduceLT, Nat.reduceLeDiff, Nat.reduceSub, Nat.reduceMul, Nat.reduceBEq, Int.reduceToNat, Int.reduceLE, Int.reduceLT, Int.reducePow]; rfl
        case h8 => first | exact True.intro | omega | (simp only [go_sem, kn11, rTwoF, rRightF, Try.ntmps11, reduceIte, reduceCtorEq, Nat.reduceAdd, Nat.reduceEqDiff, Nat.reduceLT, Nat.reduceLeDiff, Nat.reduceSub, Nat.reduceMul, Nat.reduceBEq, Int.reduceToNat, Int.reduceLE, Int.reduceLT, Int.reducePow]; done) | (simp only [go_sem, kn11, rTwoF, rRightF, Try.ntmps11, reduceIte, reduceCtorEq, Nat.reduceAdd, Nat.reduceEqDiff, Nat.reduceLT, Nat.reduceLeDiff, Nat.reduceSub, Nat.reduceMul, Nat.reduceBEq, Int.reduceToNat, Int.reduceLE, Int.reduceLT, Int.reducePow]; omega)
        case k8 => simp only [go_sem, kn11, rTwoF, rRightF, Try.ntmps11, reduceIte, reduceCtorEq, Nat.reduceAdd, Nat.reduceEqDiff, Nat.reduceLT, Nat.reduceLeDiff, Nat.reduceSub, Nat.reduceMul, Nat.reduceBEq, Int.reduceToNat, Int.reduceLE, Int.reduceLT, Int.reducePow]; rfl
        refine AWp.cond (b := ?b9) ?c9 ?t9 ?f9
        case c9 => simp only [go_sem, kn11, rTwoF, rRightF, Try.ntmps11, reduceIte, reduceCtorEq, Nat.reduceAdd, Nat.reduceEqDiff, Nat.reduceLT, Nat.reduceLeDiff, Nat.reduceSub, Nat.reduceMul, Nat.reduceBEq, Int.reduceToNat, Int.reduceLE, Int.reduceLT, Int.reducePow]; rfl
        case t9 =>
          intro hb2
          refine AWp.reg (S1 := ?S10) (ob := ?o10) (S' := ?K10) tab_ok (knowL_ok kn11_ok) mixed [1, 2, 4] ?r10 ?h10 ?k10 ?w10
          case r10 => simp only [go_sem, kn11, rTwoF, rRightF, Try.ntmps11, reduceIte, reduceCtorEq, Nat.reduceAdd, Nat.reduceEqDiff, Nat.reduceLT, Nat.reduceLeDiff, Nat.reduceSub, Nat.reduceMul, Nat.reduceBEq, Int.reduceToNat, Int.reduceLE, Int.reduceLT, Int.reducePow]; rfl
          case h10 => first | exact True.intro | omega | (simp only [go_sem, kn11, rTwoF, rRightF, Try.ntmps11, reduceIte, reduceCtorEq, Nat.reduceAdd, Nat.reduceEqDiff, Nat.reduceLT, Nat.reduceLeDiff, Nat.reduceSub, Nat.reduceMul, Nat.reduceBEq, Int.reduceToNat, Int.reduceLE, Int.reduceLT, Int.reducePow]; done) | (simp only [go_sem, kn11, rTwoF, rRightF, Try.ntmps11, reduceIte, reduceCtorEq, Nat.reduceAdd, Nat.reduceEqDiff, Nat.reduceLT, Nat.reduceLeDiff, Nat.reduceSub, Nat.reduceMul, Nat.reduceBEq, Int.reduceToNat, Int.reduceLE, Int.reduceLT, Int.reducePow]; omega)
          case k10 => simp only [go_sem, kn11, rTwoF, rRightF, Try.ntmps11, reduceIte, reduceCtorEq, Nat.reduceAdd, Nat.reduceEqDiff, Nat.reduceLT, Nat.reduceLeDiff, Nat.reduceSub, Nat.reduceMul, Nat.reduceBEq, Int.reduceToNat, Int.reduceLE, Int.reduceLT, Int.reducePow]; rfl
          refine (Conv.keepT [1, 2, 4] rfl).trans (Conv.eq ?_)
          simp [St.keepT, keepE, lookN, hb2]
        case f9 =>
          intro hb2
          refine AWp.skip ?_
          refine (Conv.keepT [1, 2, 4] rfl).trans (Conv.eq ?_)
          simp [St.keepT, keepE, lookN, hb2]
      case b7 =>
        refine AWp.seqTo ⟨[(1, .one (.s (.ptr 0 0))), (2, .one (.s (.ptr 1 0))), (4, .one (dv (.int .i64 ((if qu then 1 else 0) + (if xt then 2 else 0) + (if ip then 4 else 0)))))], [(1, .cells [.d (.int .i64 0), .d (.int .i64 0), .d (.slice (some true) 1 [])] 34), (0, .cells [.d (.int .i64 id), .d (.str sc), .d (.bool qu), .d (.bool xt), .d (.bool ip), .d (.slice z 1 (srow fl))] 24)], 2⟩ ?a11 ?b11
        case a11 =>
          refine AWp.seq ?_
          refine AWp.reg (S1 := ?S12) (ob := ?o12) (S' := ?K12) tab_ok (knowL_ok kn11_ok) mixed [1, 2, 4, 18] ?r12 ?h12 ?k12 ?w12
          case r12 => simp only [go_sem, kn11, rTwoF, rRightF, Try.ntmps11, reduceIte, reduceCtorEq, Nat.reduceAdd, Nat.reduceEqDiff, Nat.reduceLT, Nat.reduceLeDiff, Nat.reduceSub, Nat.reduceMul, Nat.reduceBEq, Int.reduceToNat, Int.reduceLE, Int.reduceLT, Int.reducePow]; rfl
          case h12 => first | exact True.intro | omega | (simp only [go_sem, kn11, rTwoF, rRightF, Try.ntmps11, reduceIte, reduceCtorEq, Nat.reduceAdd, Nat.reduceEqDiff, Nat.reduceLT, Nat.reduceLeDiff, Nat.reduceSub, Nat.reduceMul, Nat.reduceBEq, Int.reduceToNat, Int.reduceLE, Int.reduceLT, Int.reducePow]; done) | (simp only [go_sem, kn11, rTwoF, rRightF, Try.ntmps11, reduceIte, reduceCtorEq, Nat.reduceAdd, Nat.reduceEqDiff, Nat.reduceLT, Nat.reduceLeDiff, Nat.reduceSub, Nat.reduceMul, Nat.reduceBEq, Int.reduceToNat, Int.reduceLE, Int.reduceLT, Int.reducePow]; omega)
          case k12 => simp only [go_sem, kn11, rTwoF, rRightF, Try.ntmps11, reduceIte, reduceCtorEq, Nat.reduceAdd, Nat.reduceEqDiff, Nat.reduceLT, Nat.reduceLeDiff, Nat.reduceSub, Nat.reduceMul, Nat.reduceBEq, Int.reduceToNat, Int.reduceLE, Int.reduceLT, Int.reducePow]; rfl
          refine AWp.cond (b := ?b13) ?c13 ?t13 ?f13
          case c13 => simp only [go_sem, kn11, rTwoF, rRightF, Try.ntmps11, reduceIte, reduceCtorEq, Nat.reduceAdd, Nat.reduceEqDiff, Nat.reduceLT, Nat.reduceLeDiff, Nat.reduceSub, Nat.reduceMul, Nat.reduceBEq, Int.reduceToNat, Int.reduceLE, Int.reduceLT, Int.reducePow]; rfl
          case t13 =>
            intro hb3
            refine AWp.reg (S1 := ?S14) (ob := ?o14) (S' := ?K14) tab_ok (knowL_ok kn11_ok) mixed [1, 2, 4] ?r14 ?h14 ?k14 ?w14
            case r14 => simp only [go_sem, kn11, rTwoF, rRightF, Try.ntmps11, reduceIte, reduceCtorEq, Nat.reduceAdd, Nat.reduceEqDiff, Nat.reduceLT, Nat.reduceLeDiff, Nat.reduceSub, Nat.reduceMul, Nat.reduceBEq, Int.reduceToNat, Int.reduceLE, Int.reduceLT, Int.reducePow]; rfl
            case h14 => first | exact True.intro | omega | (simp only [go_sem, kn11, rTwoF, rRightF, Try.ntmps11, reduceIte, reduceCtorEq, Nat.reduceAdd, Nat.reduceEqDiff, Nat.reduceLT, Nat.reduceLeDiff, Nat.reduceSub, Nat.reduceMul, Nat.reduceBEq, Int.reduceToNat, Int.reduceLE, Int.reduceLT, Int.reducePow]; done) | (simp only [go_sem, kn11, rTwoF, rRightF, Try.ntmps11, reduceIte, reduceCtorEq, Nat.reduceAdd, Nat.reduceEqDiff, Nat.reduceLT, Nat.reduceLeDiff, Nat.reduceSub, Nat.reduceMul, Nat.reduceBEq, Int.reduceToNat, Int.reduceLE, Int.reduceLT, Int.reducePow]; omega)
            case k14 => simp only [go_sem, kn11, rTwoF, rRightF, Try.ntmps11, reduceIte, reduceCtorEq, Nat.reduceAdd, Nat.reduceEqDiff, Nat.reduceLT, Nat.reduceLeDiff, Nat.reduceSub, Nat.reduceMul, Nat.reduceBEq, Int.reduceToNat, Int.reduceLE, Int.reduceLT, Int.reducePow]; rfl
            refine (Conv.keepT [1, 2, 4] rfl).trans (Conv.eq ?_)
            simp [St.keepT, keepE, lookN, hb3]
          case f13 =>
            intro hb3
            refine AWp.skip ?_
            refine (Conv.keepT [1, 2, 4] rfl).trans (Conv.eq ?_)
            simp [St.keepT, keepE, lookN, hb3]
        case b11 =>
          refine AWp.seq ?_
          refine AWp.seq ?_
          refine AWp.reg (S1 := ?S15) (ob := ?o15) (S' := ?K15) tab_ok (knowL_ok kn11_ok) mixed [1, 2, 4, 30] ?r15 ?h15 ?k15 ?w15
          case r15 => simp only [go_sem, kn11, rTwoF, rRightF, Try.ntmps11, reduceIte, reduceCtorEq, Nat.reduceAdd, Nat.reduceEqDiff, Nat.reduceLT, Nat.reduceLeDiff, Nat.reduceSub, Nat.reduceMul, Nat.reduceBEq, Int.reduceToNat, Int.reduceLE, Int.reduceLT, Int.reducePow]; rfl
          case h15 => first | exact True.intro | omega | (simp only [go_sem, kn11, rTwoF, rRightF, Try.ntmps11, reduceIte, reduceCtorEq, Nat.reduceAdd, Nat.reduceEqDiff, Nat.reduceLT, Nat.reduceLeDiff, Nat.reduceSub, Nat.reduceMul, Nat.reduceBEq, Int.reduceToNat, Int.reduceLE, Int.reduceLT, Int.reducePow]; done) | (simp only [go_sem, kn11, rTwoF, rRightF, Try.ntmps11, reduceIte, reduceCtorEq, Nat.reduceAdd, Nat.reduceEqDiff, Nat.reduceLT, Nat.reduceLeDiff, Nat.reduceSub, Nat.reduceMul, Nat.reduceBEq, Int.reduceToNat, Int.reduceLE, Int.reduceLT, Int.reducePow]; omega)
          case k15 => simp only [go_sem, kn11, rTwoF, rRightF, Try.ntmps11, reduceIte, reduceCtorEq, Nat.reduceAdd, Nat.reduceEqDiff, Nat.reduceLT, Nat.reduceLeDiff, Nat.reduceSub, Nat.reduceMul, Nat.reduceBEq, Int.reduceToNat, Int.reduceLE, Int.reduceLT, Int.reducePow]; rfl
          refine AWp.cond (b := ?b16) ?c16 ?t16 ?f16
          case c16 => simp only [go_sem, kn11, rTwoF, rRightF, Try.ntmps11, reduceIte, reduceCtorEq, Nat.reduceAdd, Nat.reduceEqDiff, Nat.reduceLT, Nat.reduceLeDiff, Nat.reduceSub, Nat.reduceMul, Nat.reduceBEq, Int.reduceToNat, Int.reduceLE, Int.reduceLT, Int.reducePow]; rfl
          case t16 =>
            intro hb4
            have hx : ¬ (sc.length ≤ 4096 ∧ fl.length ≤ 255) := by simp at hb4; omega
            refine AWp.seq ?_
            refine AWp.reg (S1 := ?S17) (ob := ?o17) (S' := ?K17) tab_ok (knowL_ok kn11_ok) mixed [2, 3] ?r17 ?h17 ?k17 ?w17
            case r17 => simp only [go_sem, kn11, rTwoF, rRightF, Try.ntmps11, reduceIte, reduceCtorEq, Nat.reduceAdd, Nat.reduceEqDiff, Nat.reduceLT, Nat.reduceLeDiff, Nat.reduceSub, Nat.reduceMul, Nat.reduceBEq, Int.reduceToNat, Int.reduceLE, Int.reduceLT, Int.reducePow]; rfl
            case h17 => first | exact True.intro | omega | (simp only [go_sem, kn11, rTwoF, rRightF, Try.ntmps11, reduceIte, reduceCtorEq, Nat.reduceAdd, Nat.reduceEqDiff, Nat.reduceLT, Nat.reduceLeDiff, Nat.reduceSub, Nat.reduceMul, Nat.reduceBEq, Int.reduceToNat, Int.reduceLE, Int.reduceLT, Int.reducePow]; done) | (simp only [go_sem, kn11, rTwoF, rRightF, Try.ntmps11, reduceIte, reduceCtorEq, Nat.reduceAdd, Nat.reduceEqDiff, Nat.reduceLT, Nat.reduceLeDiff, Nat.reduceSub, Nat.reduceMul, Nat.reduceBEq, Int.reduceToNat, Int.reduceLE, Int.reduceLT, Int.reducePow]; omega)
            case k17 => simp only [go_sem, kn11, rTwoF, rRightF, Try.ntmps11, reduceIte, reduceCtorEq, Nat.reduceAdd, Nat.reduceEqDiff, Nat.reduceLT, Nat.reduceLeDiff, Nat.reduceSub, Nat.reduceMul, Nat.reduceBEq, Int.reduceToNat, Int.reduceLE, Int.reduceLT, Int.reducePow]; rfl
            refine AWp.ret ?_
            refine ends_p (vs := ?vs1) (ob := ?ro1) (vs' := ?ws1) (ks := ?ks1) (ob2 := ?rp1) tab_ok (by simp) ?er1 ?eo1 ?ef1 ?eg1 ?en1 ?ek1 ?ev1
            case er1 => simp only [go_sem, kn11, rTwoF, rRightF, Try.ntmps11, reduceIte, reduceCtorEq, Nat.reduceAdd, Nat.reduceEqDiff, Nat.reduceLT, Nat.reduceLeDiff, Nat.reduceSub, Nat.reduceMul, Nat.reduceBEq, Int.reduceToNat, Int.reduceLE, Int.reduceLT, Int.reducePow, Try.results11]; rfl
            case eo1 => first | exact True.intro | simp only [go_sem, kn11, rTwoF, rRightF, Try.ntmps11, reduceIte, reduceCtorEq, Nat.reduceAdd, Nat.reduceEqDiff, Nat.reduceLT, Nat.reduceLeDiff, Nat.reduceSub, Nat.reduceMul, Nat.reduceBEq, Int.reduceToNat, Int.reduceLE, Int.reduceLT, Int.reducePow]
            case ef1 => simp only [go_sem, kn11, rTwoF, rRightF, Try.ntmps11, reduceIte, reduceCtorEq, Nat.reduceAdd, Nat.reduceEqDiff, Nat.reduceLT, Nat.reduceLeDiff, Nat.reduceSub, Nat.reduceMul, Nat.reduceBEq, Int.reduceToNat, Int.reduceLE, Int.reduceLT, Int.reducePow]; rfl
            case eg1 => first | exact True.intro | simp only [go_sem, kn11, rTwoF, rRightF, Try.ntmps11, reduceIte, reduceCtorEq, Nat.reduceAdd, Nat.reduceEqDiff, Nat.reduceLT, Nat.reduceLeDiff, Nat.reduceSub, Nat.reduceMul, Nat.reduceBEq, Int.reduceToNat, Int.reduceLE, Int.reduceLT, Int.reducePow]
            case en1 => simp only [go_sem, kn11, rTwoF, rRightF, Try.ntmps11, reduceIte, reduceCtorEq, Nat.reduceAdd, Nat.reduceEqDiff, Nat.reduceLT, Nat.reduceLeDiff, Nat.reduceSub, Nat.reduceMul, Nat.reduceBEq, Int.reduceToNat, Int.reduceLE, Int.reduceLT, Int.reducePow]
            case ek1 => simp only [go_sem, kn11, rTwoF, rRightF, Try.ntmps11, reduceIte, reduceCtorEq, Nat.reduceAdd, Nat.reduceEqDiff, Nat.reduceLT, Nat.reduceLeDiff, Nat.reduceSub, Nat.reduceMul, Nat.reduceBEq, Int.reduceToNat, Int.reduceLE, Int.reduceLT, Int.reducePow]
            case ev1 =>
              unfold reqV
              rw [if_neg (reqOk_long hx)]; rfl
          case f16 =>
            intro hb4
            have hx : sc.length ≤ 4096 ∧ fl.length ≤ 255 := by simp at hb4; omega
            refine AWp.skip ?_
            refine AWp.seq ?_
            refine AWp.reg (S1 := ?S18) (ob := ?o18) (S' := ?K18) tab_ok (knowL_ok kn11_ok) mixed [1, 2, 5] ?r18 ?h18 ?k18 ?w18
            case r18 => simp only [go_sem, kn11, rTwoF, rRightF, Try.ntmps11, reduceIte, reduceCtorEq, Nat.reduceAdd, Nat.reduceEqDiff, Nat.reduceLT, Nat.reduceLeDiff, Nat.reduceSub, Nat.reduceMul, Nat.reduceBEq, Int.reduceToNat, Int.reduceLE, Int.reduceLT, Int.reducePow]; rfl
            case h18 => first | exact True.intro | omega | (simp only [go_sem, kn11, rTwoF, rRightF, Try.ntmps11, reduceIte, reduceCtorEq, Nat.reduceAdd, Nat.reduceEqDiff, Nat.reduceLT, Nat.reduceLeDiff, Nat.reduceSub, Nat.reduceMul, Nat.reduceBEq, Int.reduceToNat, Int.reduceLE, Int.reduceLT, Int.reducePow]; done) | (simp only [go_sem, kn11, rTwoF, rRightF, Try.ntmps11, reduceIte, reduceCtorEq, Nat.reduceAdd, Nat.reduceEqDiff, Nat.reduceLT, Nat.reduceLeDiff, Nat.reduceSub, Nat.reduceMul, Nat.reduceBEq, Int.reduceToNat, Int.reduceLE, Int.reduceLT, Int.reducePow]; omega)
            case k18 => simp only [go_sem, kn11, rTwoF, rRightF, Try.ntmps11, reduceIte, reduceCtorEq, Nat.reduceAdd, Nat.reduceEqDiff, Nat.reduceLT, Nat.reduceLeDiff, Nat.reduceSub, Nat.reduceMul, Nat.reduceBEq, Int.reduceToNat, Int.reduceLE, Int.reduceLT, Int.reducePow]; rfl
            refine AWp.seq ?_
            refine AWp.reg (S1 := ?S19) (ob := ?o19) (S' := ?K19) tab_ok (knowL_ok kn11_ok) mixed [1, 2, 5] ?r19 ?h19 ?k19 ?w19
            case r19 => simp only [go_sem, kn11, rTwoF, rRightF, Try.ntmps11, reduceIte, reduceCtorEq, Nat.reduceAdd, Nat.reduceEqDiff, Nat.reduceLT, Nat.reduceLeDiff, Nat.reduceSub, Nat.reduceMul, Nat.reduceBEq, Int.reduceToNat, Int.reduceLE, Int.reduceLT, Int.reducePow]; rfl
            case h19 => first | exact True.intro | omega | (simp only [go_sem, kn11, rTwoF, rRightF, Try.ntmps11, reduceIte, reduceCtorEq, Nat.reduceAdd, Nat.reduceEqDiff, Nat.reduceLT, Nat.reduceLeDiff, Nat.reduceSub, Nat.reduceMul, Nat.reduceBEq, Int.reduceToNat, Int.reduceLE, Int.reduceLT, Int.reducePow]; done) | (simp only [go_sem, kn11, rTwoF, rRightF, Try.ntmps11, reduceIte, reduceCtorEq, Nat.reduceAdd, Nat.reduceEqDiff, Nat.reduceLT, Nat.reduceLeDiff, Nat.reduceSub, Nat.reduceMul, Nat.reduceBEq, Int.reduceToNat, Int.reduceLE, Int.reduceLT, Int.reducePow]; omega)
            case k19 => simp only [go_sem, kn11, rTwoF, rRightF, Try.ntmps11, reduceIte, reduceCtorEq, Nat.reduceAdd, Nat.reduceEqDiff, Nat.reduceLT, Nat.reduceLeDiff, Nat.reduceSub, Nat.reduceMul, Nat.reduceBEq, Int.reduceToNat, Int.reduceLE, Int.reduceLT, Int.reducePow]; rfl
            refine AWp.seq ?_
            refine AWp.reg (S1 := ?S20) (ob := ?o20) (S' := ?K20) tab_ok (knowL_ok kn11_ok) mixed [1, 2, 5] ?r20 ?h20 ?k20 ?w20
            case r20 => simp only [go_sem, kn11, rTwoF, rRightF, Try.ntmps11, reduceIte, reduceCtorEq, Nat.reduceAdd, Nat.reduceEqDiff, Nat.reduceLT, Nat.reduceLeDiff, Nat.reduceSub, Nat.reduceMul, Nat.reduceBEq, Int.reduceToNat, Int.reduceLE, Int.reduceLT, Int.reducePow]; rfl
            case h20 => first | exact True.intro | omega | (simp only [go_sem, kn11, rTwoF, rRightF, Try.ntmps11, reduceIte, reduceCtorEq, Nat.reduceAdd, Nat.reduceEqDiff, Nat.reduceLT, Nat.reduceLeDiff, Nat.reduceSub, Nat.reduceMul, Nat.reduceBEq, Int.reduceToNat, Int.reduceLE, Int.reduceLT, Int.reducePow]; done) | (simp only [go_sem, kn11, rTwoF, rRightF, Try.ntmps11, reduceIte, reduceCtorEq, Nat.reduceAdd, Nat.reduceEqDiff, Nat.reduceLT, Nat.reduceLeDiff, Nat.reduceSub, Nat.reduceMul, Nat.reduceBEq, Int.reduceToNat, Int.reduceLE, Int.reduceLT, Int.reducePow]; omega)
            case k20 => simp only [go_sem, kn11, rTwoF, rRightF, Try.ntmps11, reduceIte, reduceCtorEq, Nat.reduceAdd, Nat.reduceEqDiff, Nat.reduceLT, Nat.reduceLeDiff, Nat.reduceSub, Nat.reduceMul, Nat.reduceBEq, Int.reduceToNat, Int.reduceLE, Int.reduceLT, Int.reducePow]; rfl
            refine AWp.seq ?_
            refine AWp.reg (S1 := ?S21) (ob := ?o21) (S' := ?K21) tab_ok (knowL_ok kn11_ok) mixed [1, 2, 5] ?r21 ?h21 ?k21 ?w21
            case r21 => simp only [go_sem, kn11, rTwoF, rRightF, Try.ntmps11, reduceIte, reduceCtorEq, Nat.reduceAdd, Nat.reduceEqDiff, Nat.reduceLT, Nat.reduceLeDiff, Nat.reduceSub, Nat.reduceMul, Nat.reduceBEq, Int.reduceToNat, Int.reduceLE, Int.reduceLT, Int.reducePow]; rfl
            case h21 => first | exact True.intro | omega | (simp only [go_sem, kn11, rTwoF, rRightF, Try.ntmps11, reduceIte, reduceCtorEq, Nat.reduceAdd, Nat.reduceEqDiff, Nat.reduceLT, Nat.reduceLeDiff, Nat.reduceSub, Nat.reduceMul, Nat.reduceBEq, Int.reduceToNat, Int.reduceLE, Int.reduceLT, Int.reducePow]; done) | (simp only [go_sem, kn11, rTwoF, rRightF, Try.ntmps11, reduceIte, reduceCtorEq, Nat.reduceAdd, Nat.reduceEqDiff, Nat.reduceLT, Nat.reduceLeDiff, Nat.reduceSub, Nat.reduceMul, Nat.reduceBEq, Int.reduceToNat, Int.reduceLE, Int.reduceLT, Int.reducePow]; omega)
            case k21 => simp only [go_sem, kn11, rTwoF, rRightF, Try.ntmps11, reduceIte, reduceCtorEq, Nat.reduceAdd, Nat.reduceEqDiff, Nat.reduceLT, Nat.reduceLeDiff, Nat.reduceSub, Nat.reduceMul, Nat.reduceBEq, Int.reduceToNat, Int.reduceLE, Int.reduceLT, Int.reducePow]; rfl
            refine AWp.seq ?_
            refine AWp.seq ?_
            refine AWp.reg (S1 := ?S22) (ob := ?o22) (S' := ?K22) tab_ok (knowL_ok kn11_ok) mixed [1, 2, 5, 6] ?r22 ?h22 ?k22 ?w22
            case r22 => simp only [go_sem, kn11, rTwoF, rRightF, Try.ntmps11, reduceIte, reduceCtorEq, Nat.reduceAdd, Nat.reduceEqDiff, Nat.reduceLT, Nat.reduceLeDiff, Nat.reduceSub, Nat.reduceMul, Nat.reduceBEq, Int.reduceToNat, Int.reduceLE, Int.reduceLT, Int.reducePow]; rfl
            case h22 => first | exact True.intro | omega | (simp only [go_sem, kn11, rTwoF, rRightF, Try.ntmps11, reduceIte, reduceCtorEq, Nat.reduceAdd, Nat.reduceEqDiff, Nat.reduceLT, Nat.reduceLeDiff, Nat.reduceSub, Nat.reduceMul, Nat.reduceBEq, Int.reduceToNat, Int.reduceLE, Int.reduceLT, Int.reducePow]; done) | (simp only [go_sem, kn11, rTwoF, rRightF, Try.ntmps11, reduceIte, reduceCtorEq, Nat.reduceAdd, Nat.reduceEqDiff, Nat.reduceLT, Nat.reduceLeDiff, Nat.reduceSub, Nat.reduceMul, Nat.reduceBEq, Int.reduceToNat, Int.reduceLE, Int.reduceLT, Int.reducePow]; omega)
            case k22 => simp only [go_sem, kn11, rTwoF, rRightF, Try.ntmps11, reduceIte, reduceCtorEq, Nat.reduceAdd, Nat.reduceEqDiff, Nat.reduceLT, Nat.reduceLeDiff, Nat.reduceSub, Nat.reduceMul, Nat.reduceBEq, Int.reduceToNat, Int.reduceLE, Int.reduceLT, Int.reducePow]; rfl
            refine AWp.block ?_
            refine AWp.conv (Conv.keep [1, 2, 5, 6] [7, 1, 0] (by simp)) ?_
            refine AWp.loop (fun k S => ∃ j : Nat, j ≤ fl.length ∧ k = fl.length - j ∧ (∀ f ∈ fl.take j, f.length ≤ 255) ∧ S = ⟨[(1, .one (.s (.ptr 0 0))), (2, .one (.s (.ptr 1 0))), (5, .one (.s (.row 7 1 0 (reqPre sc qu xt ip fl ++ (fl.take j).flatMap encF).length none))), (6, .one (dv (.int .i64 (j : Int))))], [(7, .row (brow (reqPre sc qu xt ip fl ++ (fl.take j).flatMap encF)) 5), (1, .cells [.d (.int .i64 0), .d (.int .i64 0), .d (.slice (some true) 1 [])] 34), (0, .cells [.d (.int .i64 id), .d (.str sc), .d (.bool qu), .d (.bool xt), .d (.bool ip), .d (.slice z 1 (srow fl))] 24)], 8⟩) fl.length ?i1 ?n1
            case i1 =>
              refine ⟨0, by omega, rfl, by simp, ?_⟩
              simp [St.keep, keepE, lookN, reqPre, brow, markB]
              try omega
            case n1 =>
              rintro k S ⟨j, hj0, rfl, ht, rfl⟩
              refine AWp.seq ?_
              refine AWp.seq ?_
              refine AWp.reg (S1 := ?S23) (ob := ?o23) (S' := ?K23) tab_ok (knowL_ok kn11_ok) mixed [1, 2, 5, 6, 57] ?r23 ?h23 ?k23 ?w23
              case r23 => simp only [go_sem, kn11, rTwoF, rRightF, Try.ntmps11, reduceIte, reduceCtorEq, Nat.reduceAdd, Nat.reduceEqDiff, Nat.reduceLT, Nat.reduceLeDiff, Nat.reduceSub, Nat.reduceMul, Nat.reduceBEq, Int.reduceToNat, Int.reduceLE, Int.reduceLT, Int.reducePow]; rfl
              case h23 => first | exact True.intro | omega | (simp only [go_sem, kn11, rTwoF, rRightF, Try.ntmps11, reduceIte, reduceCtorEq, Nat.reduceAdd, Nat.reduceEqDiff, Nat.reduceLT, Nat.reduceLeDiff, Nat.reduceSub, Nat.reduceMul, Nat.reduceBEq, Int.reduceToNat, Int.reduceLE, Int.reduceLT, Int.reducePow]; done) | (simp only [go_sem, kn11, rTwoF, rRightF, Try.ntmps11, reduceIte, reduceCtorEq, Nat.reduceAdd, Nat.reduceEqDiff, Nat.reduceLT, Nat.reduceLeDiff, Nat.reduceSub, Nat.reduceMul, Nat.reduceBEq, Int.reduceToNat, Int.reduceLE, Int.reduceLT, Int.reducePow]; omega)
              case k23 => simp only [go_sem, kn11, rTwoF, rRightF, Try.ntmps11, reduceIte, reduceCtorEq, Nat.reduceAdd, Nat.reduceEqDiff, Nat.reduceLT, Nat.reduceLeDiff, Nat.reduceSub, Nat.reduceMul, Nat.reduceBEq, Int.reduceToNat, Int.reduceLE, Int.reduceLT, Int.reducePow]; rfl
              refine AWp.cond (b := ?b24) ?c24 ?t24 ?f24
              case c24 => simp only [go_sem, kn11, rTwoF, rRightF, Try.ntmps11, reduceIte, reduceCtorEq, Nat.reduceAdd, Nat.reduceEqDiff, Nat.reduceLT, Nat.reduceLeDiff, Nat.reduceSub, Nat.reduceMul, Nat.reduceBEq, Int.reduceToNat, Int.reduceLE, Int.reduceLT, Int.reducePow]; rfl
              case t24 =>
                intro hb5
                have hj : j < fl.length := by simp at hb5; omega
                refine AWp.skip ?_
                refine AWp.seq ?_
                refine AWp.block ?_
                refine AWp.seq ?_
                refine AWp.seq ?_
                refine AWp.reg (S1 := ?S25) (ob := ?o25) (S' := ?K25) tab_ok (knowL_ok kn11_ok) mixed [1, 2, 5, 6, 66] ?r25 ?h25 ?k25 ?w25
                case r25 => simp only [go_sem, kn11, rTwoF, rRightF, Try.ntmps11, reduceIte, reduceCtorEq, Nat.reduceAdd, Nat.reduceEqDiff, Nat.reduceLT, Nat.reduceLeDiff, Nat.reduceSub, Nat.reduceMul, Nat.reduceBEq, Int.reduceToNat, Int.reduceLE, Int.reduceLT, Int.reducePow]; rfl
                case h25 => first | exact True.intro | omega | (simp only [go_sem, kn11, rTwoF, rRightF, Try.ntmps11, reduceIte, reduceCtorEq, Nat.reduceAdd, Nat.reduceEqDiff, Nat.reduceLT, Nat.reduceLeDiff, Nat.reduceSub, Nat.reduceMul, Nat.reduceBEq, Int.reduceToNat, Int.reduceLE, Int.reduceLT, Int.reducePow]; done) | (simp only [go_sem, kn11, rTwoF, rRightF, Try.ntmps11, reduceIte, reduceCtorEq, Nat.reduceAdd, Nat.reduceEqDiff, Nat.reduceLT, Nat.reduceLeDiff, Nat.reduceSub, Nat.reduceMul, Nat.reduceBEq, Int.reduceToNat, Int.reduceLE, Int.reduceLT, Int.reducePow]; omega)
                case k25 => simp only [go_sem, kn11, rTwoF, rRightF, Try.ntmps11, reduceIte, reduceCtorEq, Nat.reduceAdd, Nat.reduceEqDiff, Nat.reduceLT, Nat.reduceLeDiff, Nat.reduceSub, Nat.reduceMul, Nat.reduceBEq, Int.reduceToNat, Int.reduceLE, Int.reduceLT, Int.reducePow]; rfl
                refine AWp.cond (b := ?b26) ?c26 ?t26 ?f26
                case c26 => simp only [go_sem, kn11, rTwoF, rRightF, Try.ntmps11, reduceIte, reduceCtorEq, Nat.reduceAdd, Nat.reduceEqDiff, Nat.reduceLT, Nat.reduceLeDiff, Nat.reduceSub, Nat.reduceMul, Nat.reduceBEq, Int.reduceToNat, Int.reduceLE, Int.reduceLT, Int.reducePow]; rfl
                case t26 =>
                  intro hb6
                  have hl : ¬ (fl.getD j []).length ≤ 255 := by simp only [decide_eq_true_eq] at hb6; omega
                  refine AWp.seq ?_
                  refine AWp.reg (S1 := ?S27) (ob := ?o27) (S' := ?K27) tab_ok (knowL_ok kn11_ok) mixed [2, 3] ?r27 ?h27 ?k27 ?w27
                  case r27 => simp only [go_sem, kn11, rTwoF, rRightF, Try.ntmps11, reduceIte, reduceCtorEq, Nat.reduceAdd, Nat.reduceEqDiff, Nat.reduceLT, Nat.reduceLeDiff, Nat.reduceSub, Nat.reduceMul, Nat.reduceBEq, Int.reduceToNat, Int.reduceLE, Int.reduceLT, Int.reducePow]; rfl
                  case h27 => first | exact True.intro | omega | (simp only [go_sem, kn11, rTwoF, rRightF, Try.ntmps11, reduceIte, reduceCtorEq, Nat.reduceAdd, Nat.reduceEqDiff, Nat.reduceLT, Nat.reduceLeDiff, Nat.reduceSub, Nat.reduceMul, Nat.reduceBEq, Int.reduceToNat, Int.reduceLE, Int.reduceLT, Int.reducePow]; done) | (simp only [go_sem, kn11, rTwoF, rRightF, Try.ntmps11, reduceIte, reduceCtorEq, Nat.reduceAdd, Nat.reduceEqDiff, Nat.reduceLT, Nat.reduceLeDiff, Nat.reduceSub, Nat.reduceMul, Nat.reduceBEq, Int.reduceToNat, Int.reduceLE, Int.reduceLT, Int.reducePow]; omega)
                  case k27 => simp only [go_sem, kn11, rTwoF, rRightF, Try.ntmps11, reduceIte, reduceCtorEq, Nat.reduceAdd, Nat.reduceEqDiff, Nat.reduceLT, Nat.reduceLeDiff, Nat.reduceSub, Nat.reduceMul, Nat.reduceBEq, Int.reduceToNat, Int.reduceLE, Int.reduceLT, Int.reducePow]; rfl
                  refine AWp.ret ?_
                  refine ends_p (vs := ?vs2) (ob := ?ro2) (vs' := ?ws2) (ks := ?ks2) (ob2 := ?rp2) tab_ok (by simp) ?er2 ?eo2 ?ef2 ?eg2 ?en2 ?ek2 ?ev2
                  case er2 => simp only [go_sem, kn11, rTwoF, rRightF, Try.ntmps11, reduceIte, reduceCtorEq, Nat.reduceAdd, Nat.reduceEqDiff, Nat.reduceLT, Nat.reduceLeDiff, Nat.reduceSub, Nat.reduceMul, Nat.reduceBEq, Int.reduceToNat, Int.reduceLE, Int.reduceLT, Int.reducePow, Try.results11]; rfl
                  case eo2 => first | exact True.intro | simp only [go_sem, kn11, rTwoF, rRightF, Try.ntmps11, reduceIte, reduceCtorEq, Nat.reduceAdd, Nat.reduceEqDiff, Nat.reduceLT, Nat.reduceLeDiff, Nat.reduceSub, Nat.reduceMul, Nat.reduceBEq, Int.reduceToNat, Int.reduceLE, Int.reduceLT, Int.reducePow]
                  case ef2 => simp only [go_sem, kn11, rTwoF, rRightF, Try.ntmps11, reduceIte, reduceCtorEq, Nat.reduceAdd, Nat.reduceEqDiff, Nat.reduceLT, Nat.reduceLeDiff, Nat.reduceSub, Nat.reduceMul, Nat.reduceBEq, Int.reduceToNat, Int.reduceLE, Int.reduceLT, Int.reducePow]; rfl
                  case eg2 => first | exact True.intro | simp only [go_sem, kn11, rTwoF, rRightF, Try.ntmps11, reduceIte, reduceCtorEq, Nat.reduceAdd, Nat.reduceEqDiff, Nat.reduceLT, Nat.reduceLeDiff, Nat.reduceSub, Nat.reduceMul, Nat.reduceBEq, Int.reduceToNat, Int.reduceLE, Int.reduceLT, Int.reducePow]
                  case en2 => simp only [go_sem, kn11, rTwoF, rRightF, Try.ntmps11, reduceIte, reduceCtorEq, Nat.reduceAdd, Nat.reduceEqDiff, Nat.reduceLT, Nat.reduceLeDiff, Nat.reduceSub, Nat.reduceMul, Nat.reduceBEq, Int.reduceToNat, Int.reduceLE, Int.reduceLT, Int.reducePow]
                  case ek2 => simp only [go_sem, kn11, rTwoF, rRightF, Try.ntmps11, reduceIte, reduceCtorEq, Nat.reduceAdd, Nat.reduceEqDiff, Nat.reduceLT, Nat.reduceLeDiff, Nat.reduceSub, Nat.reduceMul, Nat.reduceBEq, Int.reduceToNat, Int.reduceLE, Int.reduceLT, Int.reducePow]
                  case ev2 =>
                    unfold reqV
                    rw [if_neg]; rfl
                    simp only [reqOk, Bool.and_eq_true, decide_eq_true_eq, List.all_eq_true]
                    intro h
                    exact hl (h.1.1.1.2 _ (by rw [getD_lt hj]; exact List.getElem_mem _))
                case f26 =>
                  intro hb6
                  have hl : (fl.getD j []).length ≤ 255 := by simp only [decide_eq_false_iff_not] at hb6; omega
                  refine AWp.skip ?_
                  refine AWp.seq ?_
                  refine AWp.reg (S1 := ?S28) (ob := ?o28) (S' := ?K28) tab_ok (knowL_ok kn11_ok) mixed [1, 2, 5, 6] ?r28 ?h28 ?k28 ?w28
                  case r28 => simp only [go_sem, kn11, rTwoF, rRightF, Try.ntmps11, reduceIte, reduceCtorEq, Nat.reduceAdd, Nat.reduceEqDiff, Nat.reduceLT, Nat.reduceLeDiff, Nat.reduceSub, Nat.reduceMul, Nat.reduceBEq, Int.reduceToNat, Int.reduceLE, Int.reduceLT, Int.reducePow]; rfl
                  case h28 =>
                    have hb : ((fl.take j).flatMap encF).length ≤ 256 * j := by have := flat_len _ ht; simp only [List.length_take] at this; omega
                    have hp : (reqPre sc qu xt ip fl).length = sc.length + 4 := by simp [reqPre]
                    omega
                  case k28 => simp only [go_sem, kn11, rTwoF, rRightF, Try.ntmps11, reduceIte, reduceCtorEq, Nat.reduceAdd, Nat.reduceEqDiff, Nat.reduceLT, Nat.reduceLeDiff, Nat.reduceSub, Nat.reduceMul, Nat.reduceBEq, Int.reduceToNat, Int.reduceLE, Int.reduceLT, Int.reducePow]; rfl
                  refine AWp.reg (S1 := ?S29) (ob := ?o29) (S' := ?K29) tab_ok (knowL_ok kn11_ok) mixed [1, 2, 5, 6] ?r29 ?h29 ?k29 ?w29
                  case r29 => simp only [go_sem, kn11, rTwoF, rRightF, Try.ntmps11, reduceIte, reduceCtorEq, Nat.reduceAdd, Nat.reduceEqDiff, Nat.reduceLT, Nat.reduceLeDiff, Nat.reduceSub, Nat.reduceMul, Nat.reduceBEq, Int.reduceToNat, Int.reduceLE, Int.reduceLT, Int.reducePow]; rfl
                  case h29 =>
                    have hb : ((fl.take j).flatMap encF).length ≤ 256 * j := by have := flat_len _ ht; simp only [List.length_take] at this; omega
                    have hp : (reqPre sc qu xt ip fl).length = sc.length + 4 := by simp [reqPre]
                    omega
                  case k29 => simp only [go_sem, kn11, rTwoF, rRightF, Try.ntmps11, reduceIte, reduceCtorEq, Nat.reduceAdd, Nat.reduceEqDiff, Nat.reduceLT, Nat.reduceLeDiff, Nat.reduceSub, Nat.reduceMul, Nat.reduceBEq, Int.reduceToNat, Int.reduceLE, Int.reduceLT, Int.reducePow]; rfl
                  refine AWp.reg (S1 := ?S30) (ob := ?o30) (S' := ?K30) tab_ok (knowL_ok kn11_ok) mixed [1, 2, 5, 6] ?r30 ?h30 ?k30 ?w30
                  case r30 => simp only [go_sem, kn11, rTwoF, rRightF, Try.ntmps11, reduceIte, reduceCtorEq, Nat.reduceAdd, Nat.reduceEqDiff, Nat.reduceLT, Nat.reduceLeDiff, Nat.reduceSub, Nat.reduceMul, Nat.reduceBEq, Int.reduceToNat, Int.reduceLE, Int.reduceLT, Int.reducePow]; rfl
                  case h30 => first | exact True.intro | omega | (simp only [go_sem, kn11, rTwoF, rRightF, Try.ntmps11, reduceIte, reduceCtorEq, Nat.reduceAdd, Nat.reduceEqDiff, Nat.reduceLT, Nat.reduceLeDiff, Nat.reduceSub, Nat.reduceMul, Nat.reduceBEq, Int.reduceToNat, Int.reduceLE, Int.reduceLT, Int.reducePow]; done) | (simp only [go_sem, kn11, rTwoF, rRightF, Try.ntmps11, reduceIte, reduceCtorEq, Nat.reduceAdd, Nat.reduceEqDiff, Nat.reduceLT, Nat.reduceLeDiff, Nat.reduceSub, Nat.reduceMul, Nat.reduceBEq, Int.reduceToNat, Int.reduceLE, Int.reduceLT, Int.reducePow]; omega)
                  case k30 => simp only [go_sem, kn11, rTwoF, rRightF, Try.ntmps11, reduceIte, reduceCtorEq, Nat.reduceAdd, Nat.reduceEqDiff, Nat.reduceLT, Nat.reduceLeDiff, Nat.reduceSub, Nat.reduceMul, Nat.reduceBEq, Int.reduceToNat, Int.reduceLE, Int.reduceLT, Int.reducePow]; rfl
                  have hT : reqPre sc qu xt ip fl ++ (fl.take (j + 1)).flatMap encF = reqPre sc qu xt ip fl ++ (fl.take j).flatMap encF ++ u8 ((fl.getD j []).length : Int) :: fl.getD j [] := by rw [take_one hj [], List.flatMap_append, ← List.append_assoc]; simp [encF]
                  refine ⟨fl.length - (j + 1), ⟨[(1, .one (.s (.ptr 0 0))), (2, .one (.s (.ptr 1 0))), (5, .one (.s (.row 7 1 0 ((reqPre sc qu xt ip fl ++ (fl.take j).flatMap encF) ++ u8 ((fl.getD j []).length : Int) :: fl.getD j []).length none))), (6, .one (dv (.int .i64 ((j + 1 : Nat) : Int))))], [(7, .row (brow ((reqPre sc qu xt ip fl ++ (fl.take j).flatMap encF) ++ u8 ((fl.getD j []).length : Int) :: fl.getD j [])) 5), (1, .cells [.d (.int .i64 0), .d (.int .i64 0), .d (.slice (some true) 1 [])] 34), (0, .cells [.d (.int .i64 id), .d (.str sc), .d (.bool qu), .d (.bool xt), .d (.bool ip), .d (.slice z 1 (srow fl))] 24)], 8⟩, by omega, ?_, j + 1, by omega, rfl, ?_, ?_⟩
                  · refine Conv.rename (fun i => if i = 7 then 11 else i) (by simp) (by simp) ?_ ?_ ?_
                    · simp [lookN, AVal.ren, AV.ren, Sc.ren, AVal.ids, AV.ids, Sc.ids, Nat.add_assoc, Nat.add_comm 1]
                    · simp [lookN, AObj.ren, AObj.ids, Sc.ids, Sc.ren, brow_append, ← brow_cons, List.append_assoc]
                    · simp
                  · rw [take_one hj []]; intro s hs; rcases List.mem_append.1 hs with h | h; exact ht s h; simp only [List.mem_singleton] at h; subst h; exact hl
                  · rw [hT]
              case f24 =>
                intro hb5
                have hj : j = fl.length := by simp at hb5; omega
                subst hj
                refine AWp.exit ?_
                refine thenA_exit ?_
                refine thenA_exit ?_
                refine inB_eq ?_
                refine AWp.seq ?_
                have hB : reqPre sc qu xt ip fl ++ (fl.take fl.length).flatMap encF = reqBody sc qu xt ip fl := by simp [reqBody]
                rw [hB]
                refine AWp.conv (Conv.freezeAt 5 7 rfl (by simp) rfl (by simp only [brow_length, reqBody, List.length_append, List.take_length])) ?_
                refine AWp.reg (S1 := ?S31) (ob := ?o31) (S' := ?K31) tab_ok (knowL_ok kn11_ok) mixed [2, 7] ?r31 ?h31 ?k31 ?w31
                case r31 => simp only [go_sem, kn11, rTwoF, rRightF, Try.ntmps11, reduceIte, reduceCtorEq, Nat.reduceAdd, Nat.reduceEqDiff, Nat.reduceLT, Nat.reduceLeDiff, Nat.reduceSub, Nat.reduceMul, Nat.reduceBEq, Int.reduceToNat, Int.reduceLE, Int.reduceLT, Int.reducePow]; rfl
                case h31 => first | exact True.intro | omega | (simp only [go_sem, kn11, rTwoF, rRightF, Try.ntmps11, reduceIte, reduceCtorEq, Nat.reduceAdd, Nat.reduceEqDiff, Nat.reduceLT, Nat.reduceLeDiff, Nat.reduceSub, Nat.reduceMul, Nat.reduceBEq, Int.reduceToNat, Int.reduceLE, Int.reduceLT, Int.reducePow]; done) | (simp only [go_sem, kn11, rTwoF, rRightF, Try.ntmps11, reduceIte, reduceCtorEq, Nat.reduceAdd, Nat.reduceEqDiff, Nat.reduceLT, Nat.reduceLeDiff, Nat.reduceSub, Nat.reduceMul, Nat.reduceBEq, Int.reduceToNat, Int.reduceLE, Int.reduceLT, Int.reducePow]; omega)
                case k31 => simp only [go_sem, kn11, rTwoF, rRightF, Try.ntmps11, reduceIte, reduceCtorEq, Nat.reduceAdd, Nat.reduceEqDiff, Nat.reduceLT, Nat.reduceLeDiff, Nat.reduceSub, Nat.reduceMul, Nat.reduceBEq, Int.reduceToNat, Int.reduceLE, Int.reduceLT, Int.reducePow]; rfl
                refine AWp.seq ?_
                refine AWp.reg (S1 := ?S32) (ob := ?o32) (S' := ?K32) tab_ok (knowL_ok kn11_ok) mixed [2, 7, 8] ?r32 ?h32 ?k32 ?w32
                case r32 => simp only [go_sem, kn11, rTwoF, rRightF, Try.ntmps11, reduceIte, reduceCtorEq, Nat.reduceAdd, Nat.reduceEqDiff, Nat.reduceLT, Nat.reduceLeDiff, Nat.reduceSub, Nat.reduceMul, Nat.reduceBEq, Int.reduceToNat, Int.reduceLE, Int.reduceLT, Int.reducePow]; rfl
                case h32 => first | exact True.intro | omega | (simp only [go_sem, kn11, rTwoF, rRightF, Try.ntmps11, reduceIte, reduceCtorEq, Nat.reduceAdd, Nat.reduceEqDiff, Nat.reduceLT, Nat.reduceLeDiff, Nat.reduceSub, Nat.reduceMul, Nat.reduceBEq, Int.reduceToNat, Int.reduceLE, Int.reduceLT, Int.reducePow]; done) | (simp only [go_sem, kn11, rTwoF, rRightF, Try.ntmps11, reduceIte, reduceCtorEq, Nat.reduceAdd, Nat.reduceEqDiff, Nat.reduceLT, Nat.reduceLeDiff, Nat.reduceSub, Nat.reduceMul, Nat.reduceBEq, Int.reduceToNat, Int.reduceLE, Int.reduceLT, Int.reducePow]; omega)
                case k32 => simp only [go_sem, kn11, rTwoF, rRightF, Try.ntmps11, reduceIte, reduceCtorEq, Nat.reduceAdd, Nat.reduceEqDiff, Nat.reduceLT, Nat.reduceLeDiff, Nat.reduceSub, Nat.reduceMul, Nat.reduceBEq, Int.reduceToNat, Int.reduceLE, Int.reduceLT, Int.reducePow]; rfl
                refine AWp.seq ?_
                refine AWp.seq ?_
                refine AWp.reg (S1 := ?S33) (ob := ?o33) (S' := ?K33) tab_ok (knowL_ok kn11_ok) mixed [2, 7, 93] ?r33 ?h33 ?k33 ?w33
                case r33 => simp only [go_sem, kn11, rTwoF, rRightF, Try.ntmps11, reduceIte, reduceCtorEq, Nat.reduceAdd, Nat.reduceEqDiff, Nat.reduceLT, Nat.reduceLeDiff, Nat.reduceSub, Nat.reduceMul, Nat.reduceBEq, Int.reduceToNat, Int.reduceLE, Int.reduceLT, Int.reducePow]; rfl
                case h33 => first | exact True.intro | omega | (simp only [go_sem, kn11, rTwoF, rRightF, Try.ntmps11, reduceIte, reduceCtorEq, Nat.reduceAdd, Nat.reduceEqDiff, Nat.reduceLT, Nat.reduceLeDiff, Nat.reduceSub, Nat.reduceMul, Nat.reduceBEq, Int.reduceToNat, Int.reduceLE, Int.reduceLT, Int.reducePow]; done) | (simp only [go_sem, kn11, rTwoF, rRightF, Try.ntmps11, reduceIte, reduceCtorEq, Nat.reduceAdd, Nat.reduceEqDiff, Nat.reduceLT, Nat.reduceLeDiff, Nat.reduceSub, Nat.reduceMul, Nat.reduceBEq, Int.reduceToNat, Int.reduceLE, Int.reduceLT, Int.reducePow]; omega)
                case k33 => simp only [go_sem, kn11, rTwoF, rRightF, Try.ntmps11, reduceIte, reduceCtorEq, Nat.reduceAdd, Nat.reduceEqDiff, Nat.reduceLT, Nat.reduceLeDiff, Nat.reduceSub, Nat.reduceMul, Nat.reduceBEq, Int.reduceToNat, Int.reduceLE, Int.reduceLT, Int.reducePow]; rfl
                refine AWp.cond (b := ?b34) ?c34 ?t34 ?f34
                case c34 => simp only [go_sem, kn11, rTwoF, rRightF, Try.ntmps11, reduceIte, reduceCtorEq, Nat.reduceAdd, Nat.reduceEqDiff, Nat.reduceLT, Nat.reduceLeDiff, Nat.reduceSub, Nat.reduceMul, Nat.reduceBEq, Int.reduceToNat, Int.reduceLE, Int.reduceLT, Int.reducePow]; rfl
                case t34 =>
                  intro hb7
                  refine AWp.seq ?_
                  refine AWp.reg (S1 := ?S35) (ob := ?o35) (S' := ?K35) tab_ok (knowL_ok kn11_ok) mixed [2, 3] ?r35 ?h35 ?k35 ?w35
                  case r35 => simp only [go_sem, kn11, rTwoF, rRightF, Try.ntmps11, reduceIte, reduceCtorEq, Nat.reduceAdd, Nat.reduceEqDiff, Nat.reduceLT, Nat.reduceLeDiff, Nat.reduceSub, Nat.reduceMul, Nat.reduceBEq, Int.reduceToNat, Int.reduceLE, Int.reduceLT, Int.reducePow]; rfl
                  case h35 => first | exact True.intro | omega | (simp only [go_sem, kn11, rTwoF, rRightF, Try.ntmps11, reduceIte, reduceCtorEq, Nat.reduceAdd, Nat.reduceEqDiff, Nat.reduceLT, Nat.reduceLeDiff, Nat.reduceSub, Nat.reduceMul, Nat.reduceBEq, Int.reduceToNat, Int.reduceLE, Int.reduceLT, Int.reducePow]; done) | (simp only [go_sem, kn11, rTwoF, rRightF, Try.ntmps11, reduceIte, reduceCtorEq, Nat.reduceAdd, Nat.reduceEqDiff, Nat.reduceLT, Nat.reduceLeDiff, Nat.reduceSub, Nat.reduceMul, Nat.reduceBEq, Int.reduceToNat, Int.reduceLE, Int.reduceLT, Int.reducePow]; omega)
                  case k35 => simp only [go_sem, kn11, rTwoF, rRightF, Try.ntmps11, reduceIte, reduceCtorEq, Nat.reduceAdd, Nat.reduceEqDiff, Nat.reduceLT, Nat.reduceLeDiff, Nat.reduceSub, Nat.reduceMul, Nat.reduceBEq, Int.reduceToNat, Int.reduceLE, Int.reduceLT, Int.reducePow]; rfl
                  refine AWp.ret ?_
                  refine ends_p (vs := ?vs3) (ob := ?ro3) (vs' := ?ws3) (ks := ?ks3) (ob2 := ?rp3) tab_ok (by simp) ?er3 ?eo3 ?ef3 ?eg3 ?en3 ?ek3 ?ev3
                  case er3 => simp only [go_sem, kn11, rTwoF, rRightF, Try.ntmps11, reduceIte, reduceCtorEq, Nat.reduceAdd, Nat.reduceEqDiff, Nat.reduceLT, Nat.reduceLeDiff, Nat.reduceSub, Nat.reduceMul, Nat.reduceBEq, Int.reduceToNat, Int.reduceLE, Int.reduceLT, Int.reducePow, Try.results11]; rfl
                  case eo3 => first | exact True.intro | simp only [go_sem, kn11, rTwoF, rRightF, Try.ntmps11, reduceIte, reduceCtorEq, Nat.reduceAdd, Nat.reduceEqDiff, Nat.reduceLT, Nat.reduceLeDiff, Nat.reduceSub, Nat.reduceMul, Nat.reduceBEq, Int.reduceToNat, Int.reduceLE, Int.reduceLT, Int.reducePow]
                  case ef3 => simp only [go_sem, kn11, rTwoF, rRightF, Try.ntmps11, reduceIte, reduceCtorEq, Nat.reduceAdd, Nat.reduceEqDiff, Nat.reduceLT, Nat.reduceLeDiff, Nat.reduceSub, Nat.reduceMul, Nat.reduceBEq, Int.reduceToNat, Int.reduceLE, Int.reduceLT, Int.reducePow]; rfl
                  case eg3 => first | exact True.intro | simp only [go_sem, kn11, rTwoF, rRightF, Try.ntmps11, reduceIte, reduceCtorEq, Nat.reduceAdd, Nat.reduceEqDiff, Nat.reduceLT, Nat.reduceLeDiff, Nat.reduceSub, Nat.reduceMul, Nat.reduceBEq, Int.reduceToNat, Int.reduceLE, Int.reduceLT, Int.reducePow]
                  case en3 => simp only [go_sem, kn11, rTwoF, rRightF, Try.ntmps11, reduceIte, reduceCtorEq, Nat.reduceAdd, Nat.reduceEqDiff, Nat.reduceLT, Nat.reduceLeDiff, Nat.reduceSub, Nat.reduceMul, Nat.reduceBEq, Int.reduceToNat, Int.reduceLE, Int.reduceLT, Int.reducePow]
                  case ek3 => simp only [go_sem, kn11, rTwoF, rRightF, Try.ntmps11, reduceIte, reduceCtorEq, Nat.reduceAdd, Nat.reduceEqDiff, Nat.reduceLT, Nat.reduceLeDiff, Nat.reduceSub, Nat.reduceMul, Nat.reduceBEq, Int.reduceToNat, Int.reduceLE, Int.reduceLT, Int.reducePow]
                  case ev3 =>
                    unfold reqV
                    rw [if_neg]; rfl
                    intro h
                    simp only [reqOk, Bool.and_eq_true] at h
                    simp [h.1.1.2, h.1.2, h.2] at hb7
                    have := h.2; simp at this; omega
                case f34 =>
                  intro hb7
                  refine AWp.skip ?_
                  refine AWp.seq ?_
                  refine AWp.reg (S1 := ?S36) (ob := ?o36) (S' := ?K36) tab_ok (knowL_ok kn11_ok) mixed [2, 3] ?r36 ?h36 ?k36 ?w36
                  case r36 => simp only [go_sem, kn11, rTwoF, rRightF, Try.ntmps11, reduceIte, reduceCtorEq, Nat.reduceAdd, Nat.reduceEqDiff, Nat.reduceLT, Nat.reduceLeDiff, Nat.reduceSub, Nat.reduceMul, Nat.reduceBEq, Int.reduceToNat, Int.reduceLE, Int.reduceLT, Int.reducePow]; rfl
                  case h36 => first | exact True.intro | omega | (simp only [go_sem, kn11, rTwoF, rRightF, Try.ntmps11, reduceIte, reduceCtorEq, Nat.reduceAdd, Nat.reduceEqDiff, Nat.reduceLT, Nat.reduceLeDiff, Nat.reduceSub, Nat.reduceMul, Nat.reduceBEq, Int.reduceToNat, Int.reduceLE, Int.reduceLT, Int.reducePow]; done) | (simp only [go_sem, kn11, rTwoF, rRightF, Try.ntmps11, reduceIte, reduceCtorEq, Nat.reduceAdd, Nat.reduceEqDiff, Nat.reduceLT, Nat.reduceLeDiff, Nat.reduceSub, Nat.reduceMul, Nat.reduceBEq, Int.reduceToNat, Int.reduceLE, Int.reduceLT, Int.reducePow]; omega)
                  case k36 => simp only [go_sem, kn11, rTwoF, rRightF, Try.ntmps11, reduceIte, reduceCtorEq, Nat.reduceAdd, Nat.reduceEqDiff, Nat.reduceLT, Nat.reduceLeDiff, Nat.reduceSub, Nat.reduceMul, Nat.reduceBEq, Int.reduceToNat, Int.reduceLE, Int.reduceLT, Int.reducePow]; rfl
                  refine AWp.ret ?_
                  refine ends_p (vs := ?vs4) (ob := ?ro4) (vs' := ?ws4) (ks := ?ks4) (ob2 := ?rp4) tab_ok (by simp) ?er4 ?eo4 ?ef4 ?eg4 ?en4 ?ek4 ?ev4
                  case er4 => simp only [go_sem, kn11, rTwoF, rRightF, Try.ntmps11, reduceIte, reduceCtorEq, Nat.reduceAdd, Nat.reduceEqDiff, Nat.reduceLT, Nat.reduceLeDiff, Nat.reduceSub, Nat.reduceMul, Nat.reduceBEq, Int.reduceToNat, Int.reduceLE, Int.reduceLT, Int.reducePow, Try.results11]; rfl
                  case eo4 => first | exact True.intro | simp only [go_sem, kn11, rTwoF, rRightF, Try.ntmps11, reduceIte, reduceCtorEq, Nat.reduceAdd, Nat.reduceEqDiff, Nat.reduceLT, Nat.reduceLeDiff, Nat.reduceSub, Nat.reduceMul, Nat.reduceBEq, Int.reduceToNat, Int.reduceLE, Int.reduceLT, Int.reducePow]
                  case ef4 => simp only [go_sem, kn11, rTwoF, rRightF, Try.ntmps11, reduceIte, reduceCtorEq, Nat.reduceAdd, Nat.reduceEqDiff, Nat.reduceLT, Nat.reduceLeDiff, Nat.reduceSub, Nat.reduceMul, Nat.reduceBEq, Int.reduceToNat, Int.reduceLE, Int.reduceLT, Int.reducePow]; rfl
                  case eg4 => first | exact True.intro | simp only [go_sem, kn11, rTwoF, rRightF, Try.ntmps11, reduceIte, reduceCtorEq, Nat.reduceAdd, Nat.reduceEqDiff, Nat.reduceLT, Nat.reduceLeDiff, Nat.reduceSub, Nat.reduceMul, Nat.reduceBEq, Int.reduceToNat, Int.reduceLE, Int.reduceLT, Int.reducePow]
                  case en4 => simp only [go_sem, kn11, rTwoF, rRightF, Try.ntmps11, reduceIte, reduceCtorEq, Nat.reduceAdd, Nat.reduceEqDiff, Nat.reduceLT, Nat.reduceLeDiff, Nat.reduceSub, Nat.reduceMul, Nat.reduceBEq, Int.reduceToNat, Int.reduceLE, Int.reduceLT, Int.reducePow]
                  case ek4 => simp only [go_sem, kn11, rTwoF, rRightF, Try.ntmps11, reduceIte, reduceCtorEq, Nat.reduceAdd, Nat.reduceEqDiff, Nat.reduceLT, Nat.reduceLeDiff, Nat.reduceSub, Nat.reduceMul, Nat.reduceBEq, Int.reduceToNat, Int.reduceLE, Int.reduceLT, Int.reducePow]
                  case ev4 =>
                    unfold reqV
                    rw [if_pos]; rfl
                    simp only [Bool.not_eq_false', Bool.and_eq_true] at hb7
                    simp only [reqOk, Bool.and_eq_true]
                    refine ⟨⟨⟨⟨by simp; omega, ?_⟩, hb7.1.1⟩, hb7.1.2⟩, ?_⟩
                    · rw [List.all_eq_true]; intro f hf; rw [List.take_length] at ht; simpa using ht f hf
                    · have := hb7.2; simp at this ⊢; omega
  · cases hq

end Go.Proofs.Hg
