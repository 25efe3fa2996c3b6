import Derived.Test.YtcicjmhealkigaaCF10
set_option linter.unusedSimpArgs false
set_option linter.unusedVariables false
set_option maxHeartbeats 4000000
namespace Go.Proofs.Hg
open Go.RowKit
set_option maxRecDepth 100000
theorem encV_live : encV 5 (unf [[.str [102], .int .i64 2, .str [104, 105]]]) = .tup [dv (.slice none 1 [[.slice none 1 (brow [5, 0, 0, 0, 0, 0, 0, 0, 0, 0, 1, 0, 1, 102, 2, 0, 0, 0, 0, 0, 0, 0, 2, 0, 0, 0, 104, 105])]]), dv (.int .i64 0)] := by kernel_rfl
theorem unf_live : (([[.str [102], .int .i64 2, .str [104, 105]]] : List (List D)) = fdrow (unf [[.str [102], .int .i64 2, .str [104, 105]]])) = True := eq_true rfl
def aliveF : List AV → Option (AVal × Prop)
  | [] => some (.one (dv (.bool true)), True)
  | _ => none
def kn9 : List (Nat × Cont) := [(10, viewK encF)]
theorem kn9_ok : ∀ p ∈ kn9, ContOk Try.prog p.1 p.2 := by
  intro p hp
  simp only [kn9, List.mem_cons, List.not_mem_nil, or_false] at hp
  rcases hp with rfl
  · exact viewK_ok encF_ok
theorem aliveF_ok : ContOk Try.prog 9 (pureK aliveF) := by
  refine pure_ok (nargs := 0) Try.func9 rfl (by kernel_rfl) (Nat.le_of_ble_eq_true (by kernel_rfl)) ?_
  intro args q hq hob
  unfold aliveF at hq
  split at hq
  · skip
    injection hq with hq
    subst hq
    refine ⟨rfl, by simp [AV.ids, Sc.ids], by simp [AVal.ids, AV.ids, Sc.ids], by simp, ?_⟩
    show AWp Try.prog Try.f9.ntmps 0 _ _ _
    refine AWp.seq ?_
    refine AWp.reg (S1 := ?S1) (ob := ?o1) (S' := ?K1) tab_ok (knowL_ok kn9_ok) mixed [] ?r1 ?h1 ?k1 ?w1
    case r1 => simp only [go_sem, kn9, encF, encV_live, unf_live, Try.ntmps9, reduceIte, reduceCtorEq, Nat.reduceAdd, Nat.reduceEqDiff, Nat.reduceLT, Nat.reduceLeDiff, Nat.reduceSub, Nat.reduceMul, Nat.reduceBEq, Int.reduceToNat, Int.reduceLE, Int.reduceLT, Int.reducePow]; rfl
    case h1 => first | exact True.intro | omega | (simp only [go_sem, kn9, encF, encV_live, unf_live, Try.ntmps9, reduceIte, reduceCtorEq, Nat.reduceAdd, Nat.reduceEqDiff, Nat.reduceLT, Nat.reduceLeDiff, Nat.reduceSub, Nat.reduceMul, Nat.reduceBEq, Int.reduceToNat, Int.reduceLE, Int.reduceLT, Int.reducePow]; done) | (simp only [go_sem, kn9, encF, encV_live, unf_live, Try.ntmps9, reduceIte, reduceCtorEq, Nat.reduceAdd, Nat.reduceEqDiff, Nat.reduceLT, Nat.reduceLeDiff, Nat.reduceSub, Nat.reduceMul, Nat.reduceBEq, Int.reduceToNat, Int.reduceLE, Int.reduceLT, Int.reducePow]; omega)
    case k1 => simp only [go_sem, kn9, encF, encV_live, unf_live, Try.ntmps9, reduceIte, reduceCtorEq, Nat.reduceAdd, Nat.reduceEqDiff, Nat.reduceLT, Nat.reduceLeDiff, Nat.reduceSub, Nat.reduceMul, Nat.reduceBEq, Int.reduceToNat, Int.reduceLE, Int.reduceLT, Int.reducePow]; rfl
    refine AWp.seq ?_
    refine AWp.reg (S1 := ?S2) (ob := ?o2) (S' := ?K2) tab_ok (knowL_ok kn9_ok) mixed [1, 2] ?r2 ?h2 ?k2 ?w2
    case r2 => simp only [go_sem, kn9, encF, encV_live, unf_live, Try.ntmps9, reduceIte, reduceCtorEq, Nat.reduceAdd, Nat.reduceEqDiff, Nat.reduceLT, Nat.reduceLeDiff, Nat.reduceSub, Nat.reduceMul, Nat.reduceBEq, Int.reduceToNat, Int.reduceLE, Int.reduceLT, Int.reducePow]; rfl
    case h2 =>
      simp [FilesOk, unf, unf1]
    case k2 => simp only [go_sem, kn9, encF, encV_live, unf_live, Try.ntmps9, reduceIte, reduceCtorEq, Nat.reduceAdd, Nat.reduceEqDiff, Nat.reduceLT, Nat.reduceLeDiff, Nat.reduceSub, Nat.reduceMul, Nat.reduceBEq, Int.reduceToNat, Int.reduceLE, Int.reduceLT, Int.reducePow]; rfl
    refine AWp.seq ?_
    refine AWp.reg (S1 := ?S3) (ob := ?o3) (S' := ?K3) tab_ok (knowL_ok kn9_ok) mixed [0] ?r3 ?h3 ?k3 ?w3
    case r3 => simp only [go_sem, kn9, encF, encV_live, unf_live, Try.ntmps9, reduceIte, reduceCtorEq, Nat.reduceAdd, Nat.reduceEqDiff, Nat.reduceLT, Nat.reduceLeDiff, Nat.reduceSub, Nat.reduceMul, Nat.reduceBEq, Int.reduceToNat, Int.reduceLE, Int.reduceLT, Int.reducePow]; rfl
    case h3 => first | exact True.intro | omega | (simp only [go_sem, kn9, encF, encV_live, unf_live, Try.ntmps9, reduceIte, reduceCtorEq, Nat.reduceAdd, Nat.reduceEqDiff, Nat.reduceLT, Nat.reduceLeDiff, Nat.reduceSub, Nat.reduceMul, Nat.reduceBEq, Int.reduceToNat, Int.reduceLE, Int.reduceLT, Int.reducePow]; done) | (simp only [go_sem, kn9, encF, encV_live, unf_live, Try.ntmps9, reduceIte, reduceCtorEq, Nat.reduceAdd, Nat.reduceEqDiff, Nat.reduceLT, Nat.reduceLeDiff, Nat.reduceSub, Nat.reduceMul, Nat.reduceBEq, Int.reduceToNat, Int.reduceLE, Int.reduceLT, Int.reducePow]; omega)
    case k3 => simp only [go_sem, kn9, encF, encV_live, unf_live, Try.ntmps9, reduceIte, reduceCtorEq, Nat.reduceAdd, Nat.reduceEqDiff, Nat.reduceLT, Nat.reduceLeDiff, Nat.reduceSub, Nat.reduceMul, Nat.reduceBEq, Int.reduceToNat, Int.reduceLE, Int.reduceLT, Int.reducePow]; rfl
    refine AWp.ret ?_
    refine ends_p (vs := ?vs1) (ob := ?ro1) (vs' := ?ws1) (ks := ?ks1) (ob2 := ?rp1) tab_ok (by simp) ?er1 ?eo1 ?ef1 ?eg1 ?en1 ?ek1 ?ev1
    case er1 => simp only [go_sem, kn9, encF, encV_live, unf_live, Try.ntmps9, reduceIte, reduceCtorEq, Nat.reduceAdd, Nat.reduceEqDiff, Nat.reduceLT, Nat.reduceLeDiff, Nat.reduceSub, Nat.reduceMul, Nat.reduceBEq, Int.reduceToNat, Int.reduceLE, Int.reduceLT, Int.reducePow, Try.results9]; rfl
    case eo1 => first | exact True.intro | simp only [go_sem, kn9, encF, encV_live, unf_live, Try.ntmps9, reduceIte, reduceCtorEq, Nat.reduceAdd, Nat.reduceEqDiff, Nat.reduceLT, Nat.reduceLeDiff, Nat.reduceSub, Nat.reduceMul, Nat.reduceBEq, Int.reduceToNat, Int.reduceLE, Int.reduceLT, Int.reducePow]
    case ef1 => simp only [go_sem, kn9, encF, encV_live, unf_live, Try.ntmps9, reduceIte, reduceCtorEq, Nat.reduceAdd, Nat.reduceEqDiff, Nat.reduceLT, Nat.reduceLeDiff, Nat.reduceSub, Nat.reduceMul, Nat.reduceBEq, Int.reduceToNat, Int.reduceLE, Int.reduceLT, Int.reducePow]; rfl
    case eg1 => first | exact True.intro | simp only [go_sem, kn9, encF, encV_live, unf_live, Try.ntmps9, reduceIte, reduceCtorEq, Nat.reduceAdd, Nat.reduceEqDiff, Nat.reduceLT, Nat.reduceLeDiff, Nat.reduceSub, Nat.reduceMul, Nat.reduceBEq, Int.reduceToNat, Int.reduceLE, Int.reduceLT, Int.reducePow]
    case en1 => simp only [go_sem, kn9, encF, encV_live, unf_live, Try.ntmps9, reduceIte, reduceCtorEq, Nat.reduceAdd, Nat.reduceEqDiff, Nat.reduceLT, Nat.reduceLeDiff, Nat.reduceSub, Nat.reduceMul, Nat.reduceBEq, Int.reduceToNat, Int.reduceLE, Int.reduceLT, Int.reducePow]
    case ek1 => simp only [go_sem, kn9, encF, encV_live, unf_live, Try.ntmps9, reduceIte, reduceCtorEq, Nat.reduceAdd, Nat.reduceEqDiff, Nat.reduceLT, Nat.reduceLeDiff, Nat.reduceSub, Nat.reduceMul, Nat.reduceBEq, Int.reduceToNat, Int.reduceLE, Int.reduceLT, Int.reducePow]
    case ev1 =>
      rfl
  · cases hq

end Go.Proofs.Hg
