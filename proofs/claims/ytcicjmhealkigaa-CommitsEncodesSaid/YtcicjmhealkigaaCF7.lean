import Derived.Test.YtcicjmhealkigaaCF6
set_option linter.unusedSimpArgs false
set_option linter.unusedVariables false
set_option maxHeartbeats 4000000
namespace Go.Proofs.Hg
open Go.RowKit
set_option maxRecDepth 100000
def rBytesF : List AV → Option (AVal × Prop)
  | [.agg [.d (.int .i64 n), .d (.slice z e fs)]] => some (.one (dv (.slice none 1 (brow (bytesL (unf fs))))), e = 3 ∧ fs = fdrow (unf fs) ∧ FilesIn (unf fs))
  | _ => none
def kn26 : List (Nat × Cont) := [(27, pureK rLowF)]
theorem kn26_ok : ∀ p ∈ kn26, ContOk Try.prog p.1 p.2 := by
  intro p hp
  simp only [kn26, List.mem_cons, List.not_mem_nil, or_false] at hp
  rcases hp with rfl
  · exact rLowF_ok
theorem rBytesF_ok : ContOk Try.prog 26 (pureK rBytesF) := by
  refine pure_ok (nargs := 1) Try.func26 rfl (by kernel_rfl) (Nat.le_of_ble_eq_true (by kernel_rfl)) ?_
  intro args q hq hob
  unfold rBytesF at hq
  split at hq
  · rename_i n z e fs
    injection hq with hq
    subst hq
    obtain ⟨h1, h2, h3⟩ : e = 3 ∧ fs = fdrow (unf fs) ∧ FilesIn (unf fs) := hob
    generalize unf fs = fl at *
    subst h1 h2
    have hl := h3.1
    refine ⟨rfl, by simp [AV.ids, Sc.ids], by simp [AVal.ids, AV.ids, Sc.ids], by simp, ?_⟩
    refine AWp.seq ?_
    refine AWp.reg (S1 := ?S1) (ob := ?o1) (S' := ?K1) tab_ok (knowL_ok kn26_ok) mixed [1] ?r1 ?h1 ?k1 ?w1
    case r1 => simp only [go_sem, kn26, rLowF, fdrow_get, fdrow_len, fileD, lowB_len, Try.ntmps26, reduceIte, reduceCtorEq, Nat.reduceAdd, Nat.reduceEqDiff, Nat.reduceLT, Nat.reduceLeDiff, Nat.reduceSub, Nat.reduceMul, Nat.reduceBEq, Int.reduceToNat, Int.reduceLE, Int.reduceLT, Int.reducePow]; rfl
    case h1 => first | exact True.intro | omega | (simp only [go_sem, kn26, rLowF, fdrow_get, fdrow_len, fileD, lowB_len, Try.ntmps26, reduceIte, reduceCtorEq, Nat.reduceAdd, Nat.reduceEqDiff, Nat.reduceLT, Nat.reduceLeDiff, Nat.reduceSub, Nat.reduceMul, Nat.reduceBEq, Int.reduceToNat, Int.reduceLE, Int.reduceLT, Int.reducePow]; done) | (simp only [go_sem, kn26, rLowF, fdrow_get, fdrow_len, fileD, lowB_len, Try.ntmps26, reduceIte, reduceCtorEq, Nat.reduceAdd, Nat.reduceEqDiff, Nat.reduceLT, Nat.reduceLeDiff, Nat.reduceSub, Nat.reduceMul, Nat.reduceBEq, Int.reduceToNat, Int.reduceLE, Int.reduceLT, Int.reducePow]; omega)
    case k1 => simp only [go_sem, kn26, rLowF, fdrow_get, fdrow_len, fileD, lowB_len, Try.ntmps26, reduceIte, reduceCtorEq, Nat.reduceAdd, Nat.reduceEqDiff, Nat.reduceLT, Nat.reduceLeDiff, Nat.reduceSub, Nat.reduceMul, Nat.reduceBEq, Int.reduceToNat, Int.reduceLE, Int.reduceLT, Int.reducePow]; rfl
    refine AWp.seq ?_
    refine AWp.reg (S1 := ?S2) (ob := ?o2) (S' := ?K2) tab_ok (knowL_ok kn26_ok) mixed [1, 3] ?r2 ?h2 ?k2 ?w2
    case r2 => simp only [go_sem, kn26, rLowF, fdrow_get, fdrow_len, fileD, lowB_len, Try.ntmps26, reduceIte, reduceCtorEq, Nat.reduceAdd, Nat.reduceEqDiff, Nat.reduceLT, Nat.reduceLeDiff, Nat.reduceSub, Nat.reduceMul, Nat.reduceBEq, Int.reduceToNat, Int.reduceLE, Int.reduceLT, Int.reducePow]; rfl
    case h2 => first | exact True.intro | omega | (simp only [go_sem, kn26, rLowF, fdrow_get, fdrow_len, fileD, lowB_len, Try.ntmps26, reduceIte, reduceCtorEq, Nat.reduceAdd, Nat.reduceEqDiff, Nat.reduceLT, Nat.reduceLeDiff, Nat.reduceSub, Nat.reduceMul, Nat.reduceBEq, Int.reduceToNat, Int.reduceLE, Int.reduceLT, Int.reducePow]; done) | (simp only [go_sem, kn26, rLowF, fdrow_get, fdrow_len, fileD, lowB_len, Try.ntmps26, reduceIte, reduceCtorEq, Nat.reduceAdd, Nat.reduceEqDiff, Nat.reduceLT, Nat.reduceLeDiff, Nat.reduceSub, Nat.reduceMul, Nat.reduceBEq, Int.reduceToNat, Int.reduceLE, Int.reduceLT, Int.reducePow]; omega)
    case k2 => simp only [go_sem, kn26, rLowF, fdrow_get, fdrow_len, fileD, lowB_len, Try.ntmps26, reduceIte, reduceCtorEq, Nat.reduceAdd, Nat.reduceEqDiff, Nat.reduceLT, Nat.reduceLeDiff, Nat.reduceSub, Nat.reduceMul, Nat.reduceBEq, Int.reduceToNat, Int.reduceLE, Int.reduceLT, Int.reducePow]; rfl
    refine AWp.seq ?_
    refine AWp.seq ?_
    refine AWp.reg (S1 := ?S3) (ob := ?o3) (S' := ?K3) tab_ok (knowL_ok kn26_ok) mixed [1, 3, 4] ?r3 ?h3 ?k3 ?w3
    case r3 => simp only [go_sem, kn26, rLowF, fdrow_get, fdrow_len, fileD, lowB_len, Try.ntmps26, reduceIte, reduceCtorEq, Nat.reduceAdd, Nat.reduceEqDiff, Nat.reduceLT, Nat.reduceLeDiff, Nat.reduceSub, Nat.reduceMul, Nat.reduceBEq, Int.reduceToNat, Int.reduceLE, Int.reduceLT, Int.reducePow]; rfl
    case h3 => first | exact True.intro | omega | (simp only [go_sem, kn26, rLowF, fdrow_get, fdrow_len, fileD, lowB_len, Try.ntmps26, reduceIte, reduceCtorEq, Nat.reduceAdd, Nat.reduceEqDiff, Nat.reduceLT, Nat.reduceLeDiff, Nat.reduceSub, Nat.reduceMul, Nat.reduceBEq, Int.reduceToNat, Int.reduceLE, Int.reduceLT, Int.reducePow]; done) | (simp only [go_sem, kn26, rLowF, fdrow_get, fdrow_len, fileD, lowB_len, Try.ntmps26, reduceIte, reduceCtorEq, Nat.reduceAdd, Nat.reduceEqDiff, Nat.reduceLT, Nat.reduceLeDiff, Nat.reduceSub, Nat.reduceMul, Nat.reduceBEq, Int.reduceToNat, Int.reduceLE, Int.reduceLT, Int.reducePow]; omega)
    case k3 => simp only [go_sem, kn26, rLowF, fdrow_get, fdrow_len, fileD, lowB_len, Try.ntmps26, reduceIte, reduceCtorEq, Nat.reduceAdd, Nat.reduceEqDiff, Nat.reduceLT, Nat.reduceLeDiff, Nat.reduceSub, Nat.reduceMul, Nat.reduceBEq, Int.reduceToNat, Int.reduceLE, Int.reduceLT, Int.reducePow]; rfl
    refine AWp.block ?_
    refine AWp.conv (Conv.nilT 3 (e := 1) (ety := 5) rfl rfl) ?_
    refine AWp.conv (Conv.keep [1, 3, 4] [1, 0] (by simp [St.nilT])) ?_
    refine AWp.loop (fun k S => ∃ i : Nat, i ≤ fl.length ∧ k = fl.length - i ∧ S = ⟨[(1, .one (.s (.ptr 0 0))), (3, .one (.s (.row 1 1 0 ((fl.take i).flatMap fileB).length none))), (4, .one (dv (.int .i64 ((i : Nat) : Int))))], [(1, .row (brow ((fl.take i).flatMap fileB)) 5), (0, .cells [.d (.int .i64 n), .d (.slice z 3 (fdrow fl))] 34)], 2⟩) fl.length ?i1 ?n1
    case i1 =>
      exact ⟨0, by omega, rfl, by simp [St.nilT, St.keep, keepE, lookN, brow]⟩
    case n1 =>
      rintro k S ⟨i, hi0, rfl, rfl⟩
      have hT := bytes_take h3 i
      refine AWp.seq ?_
      refine AWp.seq ?_
      refine AWp.reg (S1 := ?S4) (ob := ?o4) (S' := ?K4) tab_ok (knowL_ok kn26_ok) mixed [1, 3, 4, 10] ?r4 ?h4 ?k4 ?w4
      case r4 => simp only [go_sem, kn26, rLowF, fdrow_get, fdrow_len, fileD, lowB_len, Try.ntmps26, reduceIte, reduceCtorEq, Nat.reduceAdd, Nat.reduceEqDiff, Nat.reduceLT, Nat.reduceLeDiff, Nat.reduceSub, Nat.reduceMul, Nat.reduceBEq, Int.reduceToNat, Int.reduceLE, Int.reduceLT, Int.reducePow]; rfl
      case h4 => first | exact True.intro | omega | (simp only [go_sem, kn26, rLowF, fdrow_get, fdrow_len, fileD, lowB_len, Try.ntmps26, reduceIte, reduceCtorEq, Nat.reduceAdd, Nat.reduceEqDiff, Nat.reduceLT, Nat.reduceLeDiff, Nat.reduceSub, Nat.reduceMul, Nat.reduceBEq, Int.reduceToNat, Int.reduceLE, Int.reduceLT, Int.reducePow]; done) | (simp only [go_sem, kn26, rLowF, fdrow_get, fdrow_len, fileD, lowB_len, Try.ntmps26, reduceIte, reduceCtorEq, Nat.reduceAdd, Nat.reduceEqDiff, Nat.reduceLT, Nat.reduceLeDiff, Nat.reduceSub, Nat.reduceMul, Nat.reduceBEq, Int.reduceToNat, Int.reduceLE, Int.reduceLT, Int.reducePow]; omega)
      case k4 => simp only [go_sem, kn26, rLowF, fdrow_get, fdrow_len, fileD, lowB_len, Try.ntmps26, reduceIte, reduceCtorEq, Nat.reduceAdd, Nat.reduceEqDiff, Nat.reduceLT, Nat.reduceLeDiff, Nat.reduceSub, Nat.reduceMul, Nat.reduceBEq, Int.reduceToNat, Int.reduceLE, Int.reduceLT, Int.reducePow]; rfl
      refine AWp.cond (b := ?b5) ?c5 ?t5 ?f5
      case c5 => simp only [go_sem, kn26, rLowF, fdrow_get, fdrow_len, fileD, lowB_len, Try.ntmps26, reduceIte, reduceCtorEq, Nat.reduceAdd, Nat.reduceEqDiff, Nat.reduceLT, Nat.reduceLeDiff, Nat.reduceSub, Nat.reduceMul, Nat.reduceBEq, Int.reduceToNat, Int.reduceLE, Int.reduceLT, Int.reducePow]; rfl
      case t5 =>
        intro hb1
        have hi : i < fl.length := by simp at hb1; omega
        have hp := h3.at hi
        obtain ⟨p1, p2, p3, p4⟩ := hp
        refine AWp.skip ?_
        refine AWp.seq ?_
        refine AWp.block ?_
        refine AWp.seq ?_
        refine AWp.reg (S1 := ?S6) (ob := ?o6) (S' := ?K6) tab_ok (knowL_ok kn26_ok) mixed [1, 3, 4, 5] ?r6 ?h6 ?k6 ?w6
        case r6 => simp only [go_sem, kn26, rLowF, fdrow_get, fdrow_len, fileD, lowB_len, Try.ntmps26, reduceIte, reduceCtorEq, Nat.reduceAdd, Nat.reduceEqDiff, Nat.reduceLT, Nat.reduceLeDiff, Nat.reduceSub, Nat.reduceMul, Nat.reduceBEq, Int.reduceToNat, Int.reduceLE, Int.reduceLT, Int.reducePow]; rfl
        case h6 => first | exact True.intro | omega | (simp only [go_sem, kn26, rLowF, fdrow_get, fdrow_len, fileD, lowB_len, Try.ntmps26, reduceIte, reduceCtorEq, Nat.reduceAdd, Nat.reduceEqDiff, Nat.reduceLT, Nat.reduceLeDiff, Nat.reduceSub, Nat.reduceMul, Nat.reduceBEq, Int.reduceToNat, Int.reduceLE, Int.reduceLT, Int.reducePow]; done) | (simp only [go_sem, kn26, rLowF, fdrow_get, fdrow_len, fileD, lowB_len, Try.ntmps26, reduceIte, reduceCtorEq, Nat.reduceAdd, Nat.reduceEqDiff, Nat.reduceLT, Nat.reduceLeDiff, Nat.reduceSub, Nat.reduceMul, Nat.reduceBEq, Int.reduceToNat, Int.reduceLE, Int.reduceLT, Int.reducePow]; omega)
        case k6 => simp only [go_sem, kn26, rLowF, fdrow_get, fdrow_len, fileD, lowB_len, Try.ntmps26, reduceIte, reduceCtorEq, Nat.reduceAdd, Nat.reduceEqDiff, Nat.reduceLT, Nat.reduceLeDiff, Nat.reduceSub, Nat.reduceMul, Nat.reduceBEq, Int.reduceToNat, Int.reduceLE, Int.reduceLT, Int.reducePow]; rfl
        refine AWp.seq ?_
        refine AWp.reg (S1 := ?S7) (ob := ?o7) (S' := ?K7) tab_ok (knowL_ok kn26_ok) mixed [1, 3, 4, 5] ?r7 ?h7 ?k7 ?w7
        case r7 => simp only [go_sem, kn26, rLowF, fdrow_get, fdrow_len, fileD, lowB_len, Try.ntmps26, reduceIte, reduceCtorEq, Nat.reduceAdd, Nat.reduceEqDiff, Nat.reduceLT, Nat.reduceLeDiff, Nat.reduceSub, Nat.reduceMul, Nat.reduceBEq, Int.reduceToNat, Int.reduceLE, Int.reduceLT, Int.reducePow]; rfl
        case h7 => first | exact True.intro | omega | (simp only [go_sem, kn26, rLowF, fdrow_get, fdrow_len, fileD, lowB_len, Try.ntmps26, reduceIte, reduceCtorEq, Nat.reduceAdd, Nat.reduceEqDiff, Nat.reduceLT, Nat.reduceLeDiff, Nat.reduceSub, Nat.reduceMul, Nat.reduceBEq, Int.reduceToNat, Int.reduceLE, Int.reduceLT, Int.reducePow]; done) | (simp only [go_sem, kn26, rLowF, fdrow_get, fdrow_len, fileD, lowB_len, Try.ntmps26, reduceIte, reduceCtorEq, Nat.reduceAdd, Nat.reduceEqDiff, Nat.reduceLT, Nat.reduceLeDiff, Nat.reduceSub, Nat.reduceMul, Nat.reduceBEq, Int.reduceToNat, Int.reduceLE, Int.reduceLT, Int.reducePow]; omega)
        case k7 => simp only [go_sem, kn26, rLowF, fdrow_get, fdrow_len, fileD, lowB_len, Try.ntmps26, reduceIte, reduceCtorEq, Nat.reduceAdd, Nat.reduceEqDiff, Nat.reduceLT, Nat.reduceLeDiff, Nat.reduceSub, Nat.reduceMul, Nat.reduceBEq, Int.reduceToNat, Int.reduceLE, Int.reduceLT, Int.reducePow]; rfl
        refine AWp.seq ?_
        refine AWp.reg (S1 := ?S8) (ob := ?o8) (S' := ?K8) tab_ok (knowL_ok kn26_ok) mixed [1, 3, 4, 5] ?r8 ?h8 ?k8 ?w8
        case r8 => simp only [go_sem, kn26, rLowF, fdrow_get, fdrow_len, fileD, lowB_len, Try.ntmps26, reduceIte, reduceCtorEq, Nat.reduceAdd, Nat.reduceEqDiff, Nat.reduceLT, Nat.reduceLeDiff, Nat.reduceSub, Nat.reduceMul, Nat.reduceBEq, Int.reduceToNat, Int.reduceLE, Int.reduceLT, Int.reducePow]; rfl
        case h8 => first | exact True.intro | omega | (simp only [go_sem, kn26, rLowF, fdrow_get, fdrow_len, fileD, lowB_len, Try.ntmps26, reduceIte, reduceCtorEq, Nat.reduceAdd, Nat.reduceEqDiff, Nat.reduceLT, Nat.reduceLeDiff, Nat.reduceSub, Nat.reduceMul, Nat.reduceBEq, Int.reduceToNat, Int.reduceLE, Int.reduceLT, Int.reducePow]; done) | (simp only [go_sem, kn26, rLowF, fdrow_get, fdrow_len, fileD, lowB_len, Try.ntmps26, reduceIte, reduceCtorEq, Nat.reduceAdd, Nat.reduceEqDiff, Nat.reduceLT, Nat.reduceLeDiff, Nat.reduceSub, Nat.reduceMul, Nat.reduceBEq, Int.reduceToNat, Int.reduceLE, Int.reduceLT, Int.reducePow]; omega)
        case k8 => simp only [go_sem, kn26, rLowF, fdrow_get, fdrow_len, fileD, lowB_len, Try.ntmps26, reduceIte, reduceCtorEq, Nat.reduceAdd, Nat.reduceEqDiff, Nat.reduceLT, Nat.reduceLeDiff, Nat.reduceSub, Nat.reduceMul, Nat.reduceBEq, Int.reduceToNat, Int.reduceLE, Int.reduceLT, Int.reducePow]; rfl
        refine AWp.seq ?_
        refine AWp.reg (S1 := ?S9) (ob := ?o9) (S' := ?K9) tab_ok (knowL_ok kn26_ok) mixed [1, 3, 4, 5] ?r9 ?h9 ?k9 ?w9
        case r9 => simp only [go_sem, kn26, rLowF, fdrow_get, fdrow_len, fileD, lowB_len, Try.ntmps26, reduceIte, reduceCtorEq, Nat.reduceAdd, Nat.reduceEqDiff, Nat.reduceLT, Nat.reduceLeDiff, Nat.reduceSub, Nat.reduceMul, Nat.reduceBEq, Int.reduceToNat, Int.reduceLE, Int.reduceLT, Int.reducePow]; rfl
        case h9 => first | exact True.intro | omega | (simp only [go_sem, kn26, rLowF, fdrow_get, fdrow_len, fileD, lowB_len, Try.ntmps26, reduceIte, reduceCtorEq, Nat.reduceAdd, Nat.reduceEqDiff, Nat.reduceLT, Nat.reduceLeDiff, Nat.reduceSub, Nat.reduceMul, Nat.reduceBEq, Int.reduceToNat, Int.reduceLE, Int.reduceLT, Int.reducePow]; done) | (simp only [go_sem, kn26, rLowF, fdrow_get, fdrow_len, fileD, lowB_len, Try.ntmps26, reduceIte, reduceCtorEq, Nat.reduceAdd, Nat.reduceEqDiff, Nat.reduceLT, Nat.reduceLeDiff, Nat.reduceSub, Nat.reduceMul, Nat.reduceBEq, Int.reduceToNat, Int.reduceLE, Int.reduceLT, Int.reducePow]; omega)
        case k9 => simp only [go_sem, kn26, rLowF, fdrow_get, fdrow_len, fileD, lowB_len, Try.ntmps26, reduceIte, reduceCtorEq, Nat.reduceAdd, Nat.reduceEqDiff, Nat.reduceLT, Nat.reduceLeDiff, Nat.reduceSub, Nat.reduceMul, Nat.reduceBEq, Int.reduceToNat, Int.reduceLE, Int.reduceLT, Int.reducePow]; rfl
        refine AWp.seq ?_
        refine AWp.reg (S1 := ?S10) (ob := ?o10) (S' := ?K10) tab_ok (knowL_ok kn26_ok) mixed [1, 3, 4, 5] ?r10 ?h10 ?k10 ?w10
        case r10 => simp only [go_sem, kn26, rLowF, fdrow_get, fdrow_len, fileD, lowB_len, Try.ntmps26, reduceIte, reduceCtorEq, Nat.reduceAdd, Nat.reduceEqDiff, Nat.reduceLT, Nat.reduceLeDiff, Nat.reduceSub, Nat.reduceMul, Nat.reduceBEq, Int.reduceToNat, Int.reduceLE, Int.reduceLT, Int.reducePow]; rfl
        case h10 => first | exact True.intro | omega | (simp only [go_sem, kn26, rLowF, fdrow_get, fdrow_len, fileD, lowB_len, Try.ntmps26, reduceIte, reduceCtorEq, Nat.reduceAdd, Nat.reduceEqDiff, Nat.reduceLT, Nat.reduceLeDiff, Nat.reduceSub, Nat.reduceMul, Nat.reduceBEq, Int.reduceToNat, Int.reduceLE, Int.reduceLT, Int.reducePow]; done) | (simp only [go_sem, kn26, rLowF, fdrow_get, fdrow_len, fileD, lowB_len, Try.ntmps26, reduceIte, reduceCtorEq, Nat.reduceAdd, Nat.reduceEqDiff, Nat.reduceLT, Nat.reduceLeDiff, Nat.reduceSub, Nat.reduceMul, Nat.reduceBEq, Int.reduceToNat, Int.reduceLE, Int.reduceLT, Int.reducePow]; omega)
        case k10 => simp only [go_sem, kn26, rLowF, fdrow_get, fdrow_len, fileD, lowB_len, Try.ntmps26, reduceIte, reduceCtorEq, Nat.reduceAdd, Nat.reduceEqDiff, Nat.reduceLT, Nat.reduceLeDiff, Nat.reduceSub, Nat.reduceMul, Nat.reduceBEq, Int.reduceToNat, Int.reduceLE, Int.reduceLT, Int.reducePow]; rfl
        refine AWp.reg (S1 := ?S11) (ob := ?o11) (S' := ?K11) tab_ok (knowL_ok kn26_ok) mixed [1, 3, 4] ?r11 ?h11 ?k11 ?w11
        case r11 => simp only [go_sem, kn26, rLowF, fdrow_get, fdrow_len, fileD, lowB_len, Try.ntmps26, reduceIte, reduceCtorEq, Nat.reduceAdd, Nat.reduceEqDiff, Nat.reduceLT, Nat.reduceLeDiff, Nat.reduceSub, Nat.reduceMul, Nat.reduceBEq, Int.reduceToNat, Int.reduceLE, Int.reduceLT, Int.reducePow]; rfl
        case h11 => first | exact True.intro | omega | (simp only [go_sem, kn26, rLowF, fdrow_get, fdrow_len, fileD, lowB_len, Try.ntmps26, reduceIte, reduceCtorEq, Nat.reduceAdd, Nat.reduceEqDiff, Nat.reduceLT, Nat.reduceLeDiff, Nat.reduceSub, Nat.reduceMul, Nat.reduceBEq, Int.reduceToNat, Int.reduceLE, Int.reduceLT, Int.reducePow]; done) | (simp only [go_sem, kn26, rLowF, fdrow_get, fdrow_len, fileD, lowB_len, Try.ntmps26, reduceIte, reduceCtorEq, Nat.reduceAdd, Nat.reduceEqDiff, Nat.reduceLT, Nat.reduceLeDiff, Nat.reduceSub, Nat.reduceMul, Nat.reduceBEq, Int.reduceToNat, Int.reduceLE, Int.reduceLT, Int.reducePow]; omega)
        case k11 => simp only [go_sem, kn26, rLowF, fdrow_get, fdrow_len, fileD, lowB_len, Try.ntmps26, reduceIte, reduceCtorEq, Nat.reduceAdd, Nat.reduceEqDiff, Nat.reduceLT, Nat.reduceLeDiff, Nat.reduceSub, Nat.reduceMul, Nat.reduceBEq, Int.reduceToNat, Int.reduceLE, Int.reduceLT, Int.reducePow]; rfl
        refine AWp.reg (S1 := ?S12) (ob := ?o12) (S' := ?K12) tab_ok (knowL_ok kn26_ok) mixed [1, 3, 4] ?r12 ?h12 ?k12 ?w12
        case r12 => simp only [go_sem, kn26, rLowF, fdrow_get, fdrow_len, fileD, lowB_len, Try.ntmps26, reduceIte, reduceCtorEq, Nat.reduceAdd, Nat.reduceEqDiff, Nat.reduceLT, Nat.reduceLeDiff, Nat.reduceSub, Nat.reduceMul, Nat.reduceBEq, Int.reduceToNat, Int.reduceLE, Int.reduceLT, Int.reducePow]; rfl
        case h12 => first | exact True.intro | omega | (simp only [go_sem, kn26, rLowF, fdrow_get, fdrow_len, fileD, lowB_len, Try.ntmps26, reduceIte, reduceCtorEq, Nat.reduceAdd, Nat.reduceEqDiff, Nat.reduceLT, Nat.reduceLeDiff, Nat.reduceSub, Nat.reduceMul, Nat.reduceBEq, Int.reduceToNat, Int.reduceLE, Int.reduceLT, Int.reducePow]; done) | (simp only [go_sem, kn26, rLowF, fdrow_get, fdrow_len, fileD, lowB_len, Try.ntmps26, reduceIte, reduceCtorEq, Nat.reduceAdd, Nat.reduceEqDiff, Nat.reduceLT, Nat.reduceLeDiff, Nat.reduceSub, Nat.reduceMul, Nat.reduceBEq, Int.reduceToNat, Int.reduceLE, Int.reduceLT, Int.reducePow]; omega)
        case k12 => simp only [go_sem, kn26, rLowF, fdrow_get, fdrow_len, fileD, lowB_len, Try.ntmps26, reduceIte, reduceCtorEq, Nat.reduceAdd, Nat.reduceEqDiff, Nat.reduceLT, Nat.reduceLeDiff, Nat.reduceSub, Nat.reduceMul, Nat.reduceBEq, Int.reduceToNat, Int.reduceLE, Int.reduceLT, Int.reducePow]; rfl
        have hA : (fl.take (i + 1)).flatMap fileB = (fl.take i).flatMap fileB ++ fileB (fl.getD i f0L) := by rw [take_one (by omega) f0L, List.flatMap_append]; simp
        refine ⟨fl.length - (i + 1), ⟨[(1, .one (.s (.ptr 0 0))), (3, .one (.s (.row 1 1 0 ((fl.take i).flatMap fileB ++ fileB (fl.getD i f0L)).length none))), (4, .one (dv (.int .i64 ((i + 1 : Nat) : Int))))], [(1, .row (brow ((fl.take i).flatMap fileB ++ fileB (fl.getD i f0L))) 5), (0, .cells [.d (.int .i64 n), .d (.slice z 3 (fdrow fl))] 34)], 2⟩, by omega, ?_, i + 1, by omega, rfl, by rw [hA]⟩
        exact (Conv.keep [1, 3, 4] [10, 0] (by simp)).trans (Conv.rename (fun j => if j = 1 then 10 else j) (by simp; done) (by simp; done) (by simp [St.keep, keepE, lookN, AVal.ren, AV.ren, Sc.ren, AVal.ids, AV.ids, Sc.ids, lowB_len, fileB]; omega) (by simp [St.keep, keepE, lookN, AObj.ren, AObj.ids, Sc.ids, Sc.ren, brow, fileB]; done) (by simp; done))
      case f5 =>
        intro hb1
        have hi : i = fl.length := by simp at hb1; omega
        subst hi
        rw [List.take_length] at hT
        refine AWp.exit ?_
        refine thenA_exit ?_
        refine thenA_exit ?_
        refine inB_eq ?_
        refine AWp.seq ?_
        refine AWp.reg (S1 := ?S13) (ob := ?o13) (S' := ?K13) tab_ok (knowL_ok kn26_ok) mixed [2] ?r13 ?h13 ?k13 ?w13
        case r13 => simp only [go_sem, kn26, rLowF, fdrow_get, fdrow_len, fileD, lowB_len, Try.ntmps26, reduceIte, reduceCtorEq, Nat.reduceAdd, Nat.reduceEqDiff, Nat.reduceLT, Nat.reduceLeDiff, Nat.reduceSub, Nat.reduceMul, Nat.reduceBEq, Int.reduceToNat, Int.reduceLE, Int.reduceLT, Int.reducePow]; rfl
        case h13 => first | exact True.intro | omega | (simp only [go_sem, kn26, rLowF, fdrow_get, fdrow_len, fileD, lowB_len, Try.ntmps26, reduceIte, reduceCtorEq, Nat.reduceAdd, Nat.reduceEqDiff, Nat.reduceLT, Nat.reduceLeDiff, Nat.reduceSub, Nat.reduceMul, Nat.reduceBEq, Int.reduceToNat, Int.reduceLE, Int.reduceLT, Int.reducePow]; done) | (simp only [go_sem, kn26, rLowF, fdrow_get, fdrow_len, fileD, lowB_len, Try.ntmps26, reduceIte, reduceCtorEq, Nat.reduceAdd, Nat.reduceEqDiff, Nat.reduceLT, Nat.reduceLeDiff, Nat.reduceSub, Nat.reduceMul, Nat.reduceBEq, Int.reduceToNat, Int.reduceLE, Int.reduceLT, Int.reducePow]; omega)
        case k13 => simp only [go_sem, kn26, rLowF, fdrow_get, fdrow_len, fileD, lowB_len, Try.ntmps26, reduceIte, reduceCtorEq, Nat.reduceAdd, Nat.reduceEqDiff, Nat.reduceLT, Nat.reduceLeDiff, Nat.reduceSub, Nat.reduceMul, Nat.reduceBEq, Int.reduceToNat, Int.reduceLE, Int.reduceLT, Int.reducePow]; rfl
        refine AWp.ret ?_
        refine ends_p (vs := ?vs1) (ob := ?ro1) (vs' := ?ws1) (ks := ?ks1) (ob2 := ?rp1) tab_ok (by simp) ?er1 ?eo1 ?ef1 ?eg1 ?en1 ?ek1 ?ev1
        case er1 => simp only [go_sem, kn26, rLowF, fdrow_get, fdrow_len, fileD, lowB_len, Try.ntmps26, reduceIte, reduceCtorEq, Nat.reduceAdd, Nat.reduceEqDiff, Nat.reduceLT, Nat.reduceLeDiff, Nat.reduceSub, Nat.reduceMul, Nat.reduceBEq, Int.reduceToNat, Int.reduceLE, Int.reduceLT, Int.reducePow, Try.results26]; rfl
        case eo1 => first | exact True.intro | simp only [go_sem, kn26, rLowF, fdrow_get, fdrow_len, fileD, lowB_len, Try.ntmps26, reduceIte, reduceCtorEq, Nat.reduceAdd, Nat.reduceEqDiff, Nat.reduceLT, Nat.reduceLeDiff, Nat.reduceSub, Nat.reduceMul, Nat.reduceBEq, Int.reduceToNat, Int.reduceLE, Int.reduceLT, Int.reducePow]
        case ef1 => simp only [go_sem, kn26, rLowF, fdrow_get, fdrow_len, fileD, lowB_len, Try.ntmps26, reduceIte, reduceCtorEq, Nat.reduceAdd, Nat.reduceEqDiff, Nat.reduceLT, Nat.reduceLeDiff, Nat.reduceSub, Nat.reduceMul, Nat.reduceBEq, Int.reduceToNat, Int.reduceLE, Int.reduceLT, Int.reducePow]; rfl
        case eg1 => first | exact True.intro | simp only [go_sem, kn26, rLowF, fdrow_get, fdrow_len, fileD, lowB_len, Try.ntmps26, reduceIte, reduceCtorEq, Nat.reduceAdd, Nat.reduceEqDiff, Nat.reduceLT, Nat.reduceLeDiff, Nat.reduceSub, Nat.reduceMul, Nat.reduceBEq, Int.reduceToNat, Int.reduceLE, Int.reduceLT, Int.reducePow]
        case en1 => simp only [go_sem, kn26, rLowF, fdrow_get, fdrow_len, fileD, lowB_len, Try.ntmps26, reduceIte, reduceCtorEq, Nat.reduceAdd, Nat.reduceEqDiff, Nat.reduceLT, Nat.reduceLeDiff, Nat.reduceSub, Nat.reduceMul, Nat.reduceBEq, Int.reduceToNat, Int.reduceLE, Int.reduceLT, Int.reducePow]
        case ek1 => simp only [go_sem, kn26, rLowF, fdrow_get, fdrow_len, fileD, lowB_len, Try.ntmps26, reduceIte, reduceCtorEq, Nat.reduceAdd, Nat.reduceEqDiff, Nat.reduceLT, Nat.reduceLeDiff, Nat.reduceSub, Nat.reduceMul, Nat.reduceBEq, Int.reduceToNat, Int.reduceLE, Int.reduceLT, Int.reducePow]
        case ev1 =>
          rfl
  · cases hq

end Go.Proofs.Hg
