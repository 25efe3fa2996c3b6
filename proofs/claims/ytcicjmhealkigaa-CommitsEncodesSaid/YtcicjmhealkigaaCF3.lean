import Derived.Test.YtcicjmhealkigaaCF2
set_option linter.unusedSimpArgs false
set_option linter.unusedVariables false
set_option maxHeartbeats 4000000
namespace Go.Proofs.Hg
open Go.RowKit
set_option maxRecDepth 100000
theorem ref25 (l : List FileL) (i : Nat) : (!pathB (l.getD i f0L).1 || decide ((l.getD i f0L).2.1 < 0) || decide (1099511627776 < (l.getD i f0L).2.1) || decide (65536 < ((l.getD i f0L).2.2.length : Int)) || decide (0 < (i : Int)) && !ltS (l.getD ((i : Int) - 1).toNat f0L).1 (l.getD i f0L).1) = !fileOk l i := by
  have a1 : decide ((l.getD i f0L).2.1 < 0) = !decide (0 ≤ (l.getD i f0L).2.1) := by rw [← decide_not]; exact decide_eq_decide.2 (by omega)
  have a2 : decide (1099511627776 < (l.getD i f0L).2.1) = !decide ((l.getD i f0L).2.1 ≤ 1099511627776) := by rw [← decide_not]; exact decide_eq_decide.2 (by omega)
  have a3 : decide (65536 < ((l.getD i f0L).2.2.length : Int)) = !decide (((l.getD i f0L).2.2.length : Int) ≤ 65536) := by rw [← decide_not]; exact decide_eq_decide.2 (by omega)
  have a4 : decide (0 < (i : Int)) = !decide ((i : Int) = 0) := by rw [← decide_not]; exact decide_eq_decide.2 (by omega)
  rw [a1, a2, a3, a4]
  unfold fileOk
  generalize pathB (l.getD i f0L).1 = b1
  generalize decide (0 ≤ (l.getD i f0L).2.1) = b2
  generalize decide ((l.getD i f0L).2.1 ≤ 1099511627776) = b3
  generalize decide (((l.getD i f0L).2.2.length : Int) ≤ 65536) = b4
  generalize decide ((i : Int) = 0) = b5
  generalize ltS (l.getD ((i : Int) - 1).toNat f0L).1 (l.getD i f0L).1 = b6
  cases b1 <;> cases b2 <;> cases b3 <;> cases b4 <;> cases b5 <;> cases b6 <;> rfl
def rRightF : List AV → Option (AVal × Prop)
  | [.agg [.d (.int .i64 n), .d (.slice z e fs)]] => some (.one (dv (.bool (rightL n (unf fs)))), e = 3 ∧ fs = fdrow (unf fs) ∧ FilesOk (unf fs))
  | _ => none
def kn25 : List (Nat × Cont) := [(37, pureK rPathF)]
theorem kn25_ok : ∀ p ∈ kn25, ContOk Try.prog p.1 p.2 := by
  intro p hp
  simp only [kn25, List.mem_cons, List.not_mem_nil, or_false] at hp
  rcases hp with rfl
  · exact rPathF_ok
theorem rRightF_ok : ContOk Try.prog 25 (pureK rRightF) := by
  refine pure_ok (nargs := 1) Try.func25 rfl (by kernel_rfl) (Nat.le_of_ble_eq_true (by kernel_rfl)) ?_
  intro args q hq hob
  unfold rRightF at hq
  split at hq
  · rename_i n z e fs
    injection hq with hq
    subst hq
    obtain ⟨h1, h2, h3⟩ : e = 3 ∧ fs = fdrow (unf fs) ∧ FilesOk (unf fs) := hob
    generalize unf fs = fl at *
    subst h1 h2
    have hl := h3.1
    refine ⟨rfl, by simp [AV.ids, Sc.ids], by simp [AVal.ids, AV.ids, Sc.ids], by simp, ?_⟩
    refine AWp.seq ?_
    refine AWp.reg (S1 := ?S1) (ob := ?o1) (S' := ?K1) tab_ok (knowL_ok kn25_ok) mixed [1] ?r1 ?h1 ?k1 ?w1
    case r1 => simp only [go_sem, kn25, rPathF, fdrow_get, fdrow_len, fileD, Try.ntmps25, reduceIte, reduceCtorEq, Nat.reduceAdd, Nat.reduceEqDiff, Nat.reduceLT, Nat.reduceLeDiff, Nat.reduceSub, Nat.reduceMul, Nat.reduceBEq, Int.reduceToNat, Int.reduceLE, Int.reduceLT, Int.reducePow]; rfl
    case h1 => first | exact True.intro | omega | (simp only [go_sem, kn25, rPathF, fdrow_get, fdrow_len, fileD, Try.ntmps25, reduceIte, reduceCtorEq, Nat.reduceAdd, Nat.reduceEqDiff, Nat.reduceLT, Nat.reduceLeDiff, Nat.reduceSub, Nat.reduceMul, Nat.reduceBEq, Int.reduceToNat, Int.reduceLE, Int.reduceLT, Int.reducePow]; done) | (simp only [go_sem, kn25, rPathF, fdrow_get, fdrow_len, fileD, Try.ntmps25, reduceIte, reduceCtorEq, Nat.reduceAdd, Nat.reduceEqDiff, Nat.reduceLT, Nat.reduceLeDiff, Nat.reduceSub, Nat.reduceMul, Nat.reduceBEq, Int.reduceToNat, Int.reduceLE, Int.reduceLT, Int.reducePow]; omega)
    case k1 => simp only [go_sem, kn25, rPathF, fdrow_get, fdrow_len, fileD, Try.ntmps25, reduceIte, reduceCtorEq, Nat.reduceAdd, Nat.reduceEqDiff, Nat.reduceLT, Nat.reduceLeDiff, Nat.reduceSub, Nat.reduceMul, Nat.reduceBEq, Int.reduceToNat, Int.reduceLE, Int.reduceLT, Int.reducePow]; rfl
    refine AWp.seq ?_
    refine AWp.seq ?_
    refine AWp.reg (S1 := ?S2) (ob := ?o2) (S' := ?K2) tab_ok (knowL_ok kn25_ok) mixed [1, 19] ?r2 ?h2 ?k2 ?w2
    case r2 => simp only [go_sem, kn25, rPathF, fdrow_get, fdrow_len, fileD, Try.ntmps25, reduceIte, reduceCtorEq, Nat.reduceAdd, Nat.reduceEqDiff, Nat.reduceLT, Nat.reduceLeDiff, Nat.reduceSub, Nat.reduceMul, Nat.reduceBEq, Int.reduceToNat, Int.reduceLE, Int.reduceLT, Int.reducePow]; rfl
    case h2 => first | exact True.intro | omega | (simp only [go_sem, kn25, rPathF, fdrow_get, fdrow_len, fileD, Try.ntmps25, reduceIte, reduceCtorEq, Nat.reduceAdd, Nat.reduceEqDiff, Nat.reduceLT, Nat.reduceLeDiff, Nat.reduceSub, Nat.reduceMul, Nat.reduceBEq, Int.reduceToNat, Int.reduceLE, Int.reduceLT, Int.reducePow]; done) | (simp only [go_sem, kn25, rPathF, fdrow_get, fdrow_len, fileD, Try.ntmps25, reduceIte, reduceCtorEq, Nat.reduceAdd, Nat.reduceEqDiff, Nat.reduceLT, Nat.reduceLeDiff, Nat.reduceSub, Nat.reduceMul, Nat.reduceBEq, Int.reduceToNat, Int.reduceLE, Int.reduceLT, Int.reducePow]; omega)
    case k2 => simp only [go_sem, kn25, rPathF, fdrow_get, fdrow_len, fileD, Try.ntmps25, reduceIte, reduceCtorEq, Nat.reduceAdd, Nat.reduceEqDiff, Nat.reduceLT, Nat.reduceLeDiff, Nat.reduceSub, Nat.reduceMul, Nat.reduceBEq, Int.reduceToNat, Int.reduceLE, Int.reduceLT, Int.reducePow]; rfl
    refine AWp.cond (b := ?b3) ?c3 ?t3 ?f3
    case c3 => simp only [go_sem, kn25, rPathF, fdrow_get, fdrow_len, fileD, Try.ntmps25, reduceIte, reduceCtorEq, Nat.reduceAdd, Nat.reduceEqDiff, Nat.reduceLT, Nat.reduceLeDiff, Nat.reduceSub, Nat.reduceMul, Nat.reduceBEq, Int.reduceToNat, Int.reduceLE, Int.reduceLT, Int.reducePow]; rfl
    case t3 =>
      intro hb1
      have hh : headOk n fl = false := by simp only [headOk, Bool.and_eq_false_iff, decide_eq_false_iff_not]; simp at hb1; omega
      refine AWp.seq ?_
      refine AWp.reg (S1 := ?S4) (ob := ?o4) (S' := ?K4) tab_ok (knowL_ok kn25_ok) mixed [2] ?r4 ?h4 ?k4 ?w4
      case r4 => simp only [go_sem, kn25, rPathF, fdrow_get, fdrow_len, fileD, Try.ntmps25, reduceIte, reduceCtorEq, Nat.reduceAdd, Nat.reduceEqDiff, Nat.reduceLT, Nat.reduceLeDiff, Nat.reduceSub, Nat.reduceMul, Nat.reduceBEq, Int.reduceToNat, Int.reduceLE, Int.reduceLT, Int.reducePow]; rfl
      case h4 => first | exact True.intro | omega | (simp only [go_sem, kn25, rPathF, fdrow_get, fdrow_len, fileD, Try.ntmps25, reduceIte, reduceCtorEq, Nat.reduceAdd, Nat.reduceEqDiff, Nat.reduceLT, Nat.reduceLeDiff, Nat.reduceSub, Nat.reduceMul, Nat.reduceBEq, Int.reduceToNat, Int.reduceLE, Int.reduceLT, Int.reducePow]; done) | (simp only [go_sem, kn25, rPathF, fdrow_get, fdrow_len, fileD, Try.ntmps25, reduceIte, reduceCtorEq, Nat.reduceAdd, Nat.reduceEqDiff, Nat.reduceLT, Nat.reduceLeDiff, Nat.reduceSub, Nat.reduceMul, Nat.reduceBEq, Int.reduceToNat, Int.reduceLE, Int.reduceLT, Int.reducePow]; omega)
      case k4 => simp only [go_sem, kn25, rPathF, fdrow_get, fdrow_len, fileD, Try.ntmps25, reduceIte, reduceCtorEq, Nat.reduceAdd, Nat.reduceEqDiff, Nat.reduceLT, Nat.reduceLeDiff, Nat.reduceSub, Nat.reduceMul, Nat.reduceBEq, Int.reduceToNat, Int.reduceLE, Int.reduceLT, Int.reducePow]; rfl
      refine AWp.ret ?_
      refine ends_p (vs := ?vs1) (ob := ?ro1) (vs' := ?ws1) (ks := ?ks1) (ob2 := ?rp1) tab_ok (by simp) ?er1 ?eo1 ?ef1 ?eg1 ?en1 ?ek1 ?ev1
      case er1 => simp only [go_sem, kn25, rPathF, fdrow_get, fdrow_len, fileD, Try.ntmps25, reduceIte, reduceCtorEq, Nat.reduceAdd, Nat.reduceEqDiff, Nat.reduceLT, Nat.reduceLeDiff, Nat.reduceSub, Nat.reduceMul, Nat.reduceBEq, Int.reduceToNat, Int.reduceLE, Int.reduceLT, Int.reducePow, Try.results25]; rfl
      case eo1 => first | exact True.intro | simp only [go_sem, kn25, rPathF, fdrow_get, fdrow_len, fileD, Try.ntmps25, reduceIte, reduceCtorEq, Nat.reduceAdd, Nat.reduceEqDiff, Nat.reduceLT, Nat.reduceLeDiff, Nat.reduceSub, Nat.reduceMul, Nat.reduceBEq, Int.reduceToNat, Int.reduceLE, Int.reduceLT, Int.reducePow]
      case ef1 => simp only [go_sem, kn25, rPathF, fdrow_get, fdrow_len, fileD, Try.ntmps25, reduceIte, reduceCtorEq, Nat.reduceAdd, Nat.reduceEqDiff, Nat.reduceLT, Nat.reduceLeDiff, Nat.reduceSub, Nat.reduceMul, Nat.reduceBEq, Int.reduceToNat, Int.reduceLE, Int.reduceLT, Int.reducePow]; rfl
      case eg1 => first | exact True.intro | simp only [go_sem, kn25, rPathF, fdrow_get, fdrow_len, fileD, Try.ntmps25, reduceIte, reduceCtorEq, Nat.reduceAdd, Nat.reduceEqDiff, Nat.reduceLT, Nat.reduceLeDiff, Nat.reduceSub, Nat.reduceMul, Nat.reduceBEq, Int.reduceToNat, Int.reduceLE, Int.reduceLT, Int.reducePow]
      case en1 => simp only [go_sem, kn25, rPathF, fdrow_get, fdrow_len, fileD, Try.ntmps25, reduceIte, reduceCtorEq, Nat.reduceAdd, Nat.reduceEqDiff, Nat.reduceLT, Nat.reduceLeDiff, Nat.reduceSub, Nat.reduceMul, Nat.reduceBEq, Int.reduceToNat, Int.reduceLE, Int.reduceLT, Int.reducePow]
      case ek1 => simp only [go_sem, kn25, rPathF, fdrow_get, fdrow_len, fileD, Try.ntmps25, reduceIte, reduceCtorEq, Nat.reduceAdd, Nat.reduceEqDiff, Nat.reduceLT, Nat.reduceLeDiff, Nat.reduceSub, Nat.reduceMul, Nat.reduceBEq, Int.reduceToNat, Int.reduceLE, Int.reduceLT, Int.reducePow]
      case ev1 =>
        rw [rightL_all, hh]; rfl
    case f3 =>
      intro hb1
      have hh : headOk n fl = true := by simp only [headOk, Bool.and_eq_true, decide_eq_true_eq]; simp at hb1; omega
      refine AWp.skip ?_
      refine AWp.seq ?_
      refine AWp.seq ?_
      refine AWp.reg (S1 := ?S5) (ob := ?o5) (S' := ?K5) tab_ok (knowL_ok kn25_ok) mixed [1, 3] ?r5 ?h5 ?k5 ?w5
      case r5 => simp only [go_sem, kn25, rPathF, fdrow_get, fdrow_len, fileD, Try.ntmps25, reduceIte, reduceCtorEq, Nat.reduceAdd, Nat.reduceEqDiff, Nat.reduceLT, Nat.reduceLeDiff, Nat.reduceSub, Nat.reduceMul, Nat.reduceBEq, Int.reduceToNat, Int.reduceLE, Int.reduceLT, Int.reducePow]; rfl
      case h5 => first | exact True.intro | omega | (simp only [go_sem, kn25, rPathF, fdrow_get, fdrow_len, fileD, Try.ntmps25, reduceIte, reduceCtorEq, Nat.reduceAdd, Nat.reduceEqDiff, Nat.reduceLT, Nat.reduceLeDiff, Nat.reduceSub, Nat.reduceMul, Nat.reduceBEq, Int.reduceToNat, Int.reduceLE, Int.reduceLT, Int.reducePow]; done) | (simp only [go_sem, kn25, rPathF, fdrow_get, fdrow_len, fileD, Try.ntmps25, reduceIte, reduceCtorEq, Nat.reduceAdd, Nat.reduceEqDiff, Nat.reduceLT, Nat.reduceLeDiff, Nat.reduceSub, Nat.reduceMul, Nat.reduceBEq, Int.reduceToNat, Int.reduceLE, Int.reduceLT, Int.reducePow]; omega)
      case k5 => simp only [go_sem, kn25, rPathF, fdrow_get, fdrow_len, fileD, Try.ntmps25, reduceIte, reduceCtorEq, Nat.reduceAdd, Nat.reduceEqDiff, Nat.reduceLT, Nat.reduceLeDiff, Nat.reduceSub, Nat.reduceMul, Nat.reduceBEq, Int.reduceToNat, Int.reduceLE, Int.reduceLT, Int.reducePow]; rfl
      refine AWp.block ?_
      refine AWp.loop (fun k S => ∃ i : Nat, i ≤ fl.length ∧ k = fl.length - i ∧ (List.range i).all (fileOk fl) = true ∧ S = ⟨[(1, .one (.s (.ptr 0 0))), (3, .one (dv (.int .i64 (i : Int))))], [(0, .cells [.d (.int .i64 n), .d (.slice z 3 (fdrow fl))] 34)], 1⟩) fl.length ?i1 ?n1
      case i1 =>
        exact ⟨0, by omega, rfl, by simp, rfl⟩
      case n1 =>
        rintro k S ⟨i, hi0, rfl, ht, rfl⟩
        refine AWp.seq ?_
        refine AWp.seq ?_
        refine AWp.reg (S1 := ?S6) (ob := ?o6) (S' := ?K6) tab_ok (knowL_ok kn25_ok) mixed [1, 3, 24] ?r6 ?h6 ?k6 ?w6
        case r6 => simp only [go_sem, kn25, rPathF, fdrow_get, fdrow_len, fileD, Try.ntmps25, reduceIte, reduceCtorEq, Nat.reduceAdd, Nat.reduceEqDiff, Nat.reduceLT, Nat.reduceLeDiff, Nat.reduceSub, Nat.reduceMul, Nat.reduceBEq, Int.reduceToNat, Int.reduceLE, Int.reduceLT, Int.reducePow]; rfl
        case h6 => first | exact True.intro | omega | (simp only [go_sem, kn25, rPathF, fdrow_get, fdrow_len, fileD, Try.ntmps25, reduceIte, reduceCtorEq, Nat.reduceAdd, Nat.reduceEqDiff, Nat.reduceLT, Nat.reduceLeDiff, Nat.reduceSub, Nat.reduceMul, Nat.reduceBEq, Int.reduceToNat, Int.reduceLE, Int.reduceLT, Int.reducePow]; done) | (simp only [go_sem, kn25, rPathF, fdrow_get, fdrow_len, fileD, Try.ntmps25, reduceIte, reduceCtorEq, Nat.reduceAdd, Nat.reduceEqDiff, Nat.reduceLT, Nat.reduceLeDiff, Nat.reduceSub, Nat.reduceMul, Nat.reduceBEq, Int.reduceToNat, Int.reduceLE, Int.reduceLT, Int.reducePow]; omega)
        case k6 => simp only [go_sem, kn25, rPathF, fdrow_get, fdrow_len, fileD, Try.ntmps25, reduceIte, reduceCtorEq, Nat.reduceAdd, Nat.reduceEqDiff, Nat.reduceLT, Nat.reduceLeDiff, Nat.reduceSub, Nat.reduceMul, Nat.reduceBEq, Int.reduceToNat, Int.reduceLE, Int.reduceLT, Int.reducePow]; rfl
        refine AWp.cond (b := ?b7) ?c7 ?t7 ?f7
        case c7 => simp only [go_sem, kn25, rPathF, fdrow_get, fdrow_len, fileD, Try.ntmps25, reduceIte, reduceCtorEq, Nat.reduceAdd, Nat.reduceEqDiff, Nat.reduceLT, Nat.reduceLeDiff, Nat.reduceSub, Nat.reduceMul, Nat.reduceBEq, Int.reduceToNat, Int.reduceLE, Int.reduceLT, Int.reducePow]; rfl
        case t7 =>
          intro hb2
          have hi : i < fl.length := by simp at hb2; omega
          have hp := h3.path hi
          refine AWp.skip ?_
          refine AWp.seq ?_
          refine AWp.block ?_
          refine AWp.seq ?_
          refine AWp.reg (S1 := ?S8) (ob := ?o8) (S' := ?K8) tab_ok (knowL_ok kn25_ok) mixed [1, 3, 4] ?r8 ?h8 ?k8 ?w8
          case r8 => simp only [go_sem, kn25, rPathF, fdrow_get, fdrow_len, fileD, Try.ntmps25, reduceIte, reduceCtorEq, Nat.reduceAdd, Nat.reduceEqDiff, Nat.reduceLT, Nat.reduceLeDiff, Nat.reduceSub, Nat.reduceMul, Nat.reduceBEq, Int.reduceToNat, Int.reduceLE, Int.reduceLT, Int.reducePow]; rfl
          case h8 => first | exact True.intro | omega | (simp only [go_sem, kn25, rPathF, fdrow_get, fdrow_len, fileD, Try.ntmps25, reduceIte, reduceCtorEq, Nat.reduceAdd, Nat.reduceEqDiff, Nat.reduceLT, Nat.reduceLeDiff, Nat.reduceSub, Nat.reduceMul, Nat.reduceBEq, Int.reduceToNat, Int.reduceLE, Int.reduceLT, Int.reducePow]; done) | (simp only [go_sem, kn25, rPathF, fdrow_get, fdrow_len, fileD, Try.ntmps25, reduceIte, reduceCtorEq, Nat.reduceAdd, Nat.reduceEqDiff, Nat.reduceLT, Nat.reduceLeDiff, Nat.reduceSub, Nat.reduceMul, Nat.reduceBEq, Int.reduceToNat, Int.reduceLE, Int.reduceLT, Int.reducePow]; omega)
          case k8 => simp only [go_sem, kn25, rPathF, fdrow_get, fdrow_len, fileD, Try.ntmps25, reduceIte, reduceCtorEq, Nat.reduceAdd, Nat.reduceEqDiff, Nat.reduceLT, Nat.reduceLeDiff, Nat.reduceSub, Nat.reduceMul, Nat.reduceBEq, Int.reduceToNat, Int.reduceLE, Int.reduceLT, Int.reducePow]; rfl
          refine AWp.seq ?_
          refine AWp.reg (S1 := ?S9) (ob := ?o9) (S' := ?K9) tab_ok (knowL_ok kn25_ok) mixed [1, 3, 4, 5] ?r9 ?h9 ?k9 ?w9
          case r9 => simp only [go_sem, kn25, rPathF, fdrow_get, fdrow_len, fileD, Try.ntmps25, reduceIte, reduceCtorEq, Nat.reduceAdd, Nat.reduceEqDiff, Nat.reduceLT, Nat.reduceLeDiff, Nat.reduceSub, Nat.reduceMul, Nat.reduceBEq, Int.reduceToNat, Int.reduceLE, Int.reduceLT, Int.reducePow]; rfl
          case h9 => first | exact True.intro | omega | (simp only [go_sem, kn25, rPathF, fdrow_get, fdrow_len, fileD, Try.ntmps25, reduceIte, reduceCtorEq, Nat.reduceAdd, Nat.reduceEqDiff, Nat.reduceLT, Nat.reduceLeDiff, Nat.reduceSub, Nat.reduceMul, Nat.reduceBEq, Int.reduceToNat, Int.reduceLE, Int.reduceLT, Int.reducePow]; done) | (simp only [go_sem, kn25, rPathF, fdrow_get, fdrow_len, fileD, Try.ntmps25, reduceIte, reduceCtorEq, Nat.reduceAdd, Nat.reduceEqDiff, Nat.reduceLT, Nat.reduceLeDiff, Nat.reduceSub, Nat.reduceMul, Nat.reduceBEq, Int.reduceToNat, Int.reduceLE, Int.reduceLT, Int.reducePow]; omega)
          case k9 => simp only [go_sem, kn25, rPathF, fdrow_get, fdrow_len, fileD, Try.ntmps25, reduceIte, reduceCtorEq, Nat.reduceAdd, Nat.reduceEqDiff, Nat.reduceLT, Nat.reduceLeDiff, Nat.reduceSub, Nat.reduceMul, Nat.reduceBEq, Int.reduceToNat, Int.reduceLE, Int.reduceLT, Int.reducePow]; rfl
          refine AWp.seq ?_
          refine AWp.drw (S1 := ?S10) (ob := ?o10) (lts := ?t10) (S' := ?K10) tab_ok (knowL_ok kn25_ok) mixed [1, 3, 68] ?r10 ?d10 ?h10 ?k10 ?w10
          case r10 => simp only [go_sem, kn25, rPathF, fdrow_get, fdrow_len, fileD, Try.ntmps25, reduceIte, reduceCtorEq, Nat.reduceAdd, Nat.reduceEqDiff, Nat.reduceLT, Nat.reduceLeDiff, Nat.reduceSub, Nat.reduceMul, Nat.reduceBEq, Int.reduceToNat, Int.reduceLE, Int.reduceLT, Int.reducePow]; rfl
          case d10 => first | kernel_rfl | rfl
          case h10 =>
            refine ⟨fun _ => ⟨by omega, by omega⟩, fun h => ?_, fun hX => ⟨fun _ => by rw [hX]; rfl, fun hi0 _ => by rw [hX, hi0]; rfl⟩⟩
            have : 0 < (i : Int) := by simp only [Bool.and_eq_true, decide_eq_true_eq] at h; exact h.2
            omega
          case k10 => simp only [go_sem, kn25, rPathF, fdrow_get, fdrow_len, fileD, Try.ntmps25, reduceIte, reduceCtorEq, Nat.reduceAdd, Nat.reduceEqDiff, Nat.reduceLT, Nat.reduceLeDiff, Nat.reduceSub, Nat.reduceMul, Nat.reduceBEq, Int.reduceToNat, Int.reduceLE, Int.reduceLT, Int.reducePow]; rfl
          refine AWp.cond (b := ?b11) ?c11 ?t11 ?f11
          case c11 => simp only [go_sem, kn25, rPathF, fdrow_get, fdrow_len, fileD, Try.ntmps25, reduceIte, reduceCtorEq, Nat.reduceAdd, Nat.reduceEqDiff, Nat.reduceLT, Nat.reduceLeDiff, Nat.reduceSub, Nat.reduceMul, Nat.reduceBEq, Int.reduceToNat, Int.reduceLE, Int.reduceLT, Int.reducePow]; rfl
          case t11 =>
            intro hb3
            have hc : fileOk fl i = false := by rw [ref25] at hb3; simpa using hb3
            refine AWp.seq ?_
            refine AWp.reg (S1 := ?S12) (ob := ?o12) (S' := ?K12) tab_ok (knowL_ok kn25_ok) mixed [2] ?r12 ?h12 ?k12 ?w12
            case r12 => simp only [go_sem, kn25, rPathF, fdrow_get, fdrow_len, fileD, Try.ntmps25, reduceIte, reduceCtorEq, Nat.reduceAdd, Nat.reduceEqDiff, Nat.reduceLT, Nat.reduceLeDiff, Nat.reduceSub, Nat.reduceMul, Nat.reduceBEq, Int.reduceToNat, Int.reduceLE, Int.reduceLT, Int.reducePow]; rfl
            case h12 => first | exact True.intro | omega | (simp only [go_sem, kn25, rPathF, fdrow_get, fdrow_len, fileD, Try.ntmps25, reduceIte, reduceCtorEq, Nat.reduceAdd, Nat.reduceEqDiff, Nat.reduceLT, Nat.reduceLeDiff, Nat.reduceSub, Nat.reduceMul, Nat.reduceBEq, Int.reduceToNat, Int.reduceLE, Int.reduceLT, Int.reducePow]; done) | (simp only [go_sem, kn25, rPathF, fdrow_get, fdrow_len, fileD, Try.ntmps25, reduceIte, reduceCtorEq, Nat.reduceAdd, Nat.reduceEqDiff, Nat.reduceLT, Nat.reduceLeDiff, Nat.reduceSub, Nat.reduceMul, Nat.reduceBEq, Int.reduceToNat, Int.reduceLE, Int.reduceLT, Int.reducePow]; omega)
            case k12 => simp only [go_sem, kn25, rPathF, fdrow_get, fdrow_len, fileD, Try.ntmps25, reduceIte, reduceCtorEq, Nat.reduceAdd, Nat.reduceEqDiff, Nat.reduceLT, Nat.reduceLeDiff, Nat.reduceSub, Nat.reduceMul, Nat.reduceBEq, Int.reduceToNat, Int.reduceLE, Int.reduceLT, Int.reducePow]; rfl
            refine AWp.ret ?_
            refine ends_p (vs := ?vs2) (ob := ?ro2) (vs' := ?ws2) (ks := ?ks2) (ob2 := ?rp2) tab_ok (by simp) ?er2 ?eo2 ?ef2 ?eg2 ?en2 ?ek2 ?ev2
            case er2 => simp only [go_sem, kn25, rPathF, fdrow_get, fdrow_len, fileD, Try.ntmps25, reduceIte, reduceCtorEq, Nat.reduceAdd, Nat.reduceEqDiff, Nat.reduceLT, Nat.reduceLeDiff, Nat.reduceSub, Nat.reduceMul, Nat.reduceBEq, Int.reduceToNat, Int.reduceLE, Int.reduceLT, Int.reducePow, Try.results25]; rfl
            case eo2 => first | exact True.intro | simp only [go_sem, kn25, rPathF, fdrow_get, fdrow_len, fileD, Try.ntmps25, reduceIte, reduceCtorEq, Nat.reduceAdd, Nat.reduceEqDiff, Nat.reduceLT, Nat.reduceLeDiff, Nat.reduceSub, Nat.reduceMul, Nat.reduceBEq, Int.reduceToNat, Int.reduceLE, Int.reduceLT, Int.reducePow]
            case ef2 => simp only [go_sem, kn25, rPathF, fdrow_get, fdrow_len, fileD, Try.ntmps25, reduceIte, reduceCtorEq, Nat.reduceAdd, Nat.reduceEqDiff, Nat.reduceLT, Nat.reduceLeDiff, Nat.reduceSub, Nat.reduceMul, Nat.reduceBEq, Int.reduceToNat, Int.reduceLE, Int.reduceLT, Int.reducePow]; rfl
            case eg2 => first | exact True.intro | simp only [go_sem, kn25, rPathF, fdrow_get, fdrow_len, fileD, Try.ntmps25, reduceIte, reduceCtorEq, Nat.reduceAdd, Nat.reduceEqDiff, Nat.reduceLT, Nat.reduceLeDiff, Nat.reduceSub, Nat.reduceMul, Nat.reduceBEq, Int.reduceToNat, Int.reduceLE, Int.reduceLT, Int.reducePow]
            case en2 => simp only [go_sem, kn25, rPathF, fdrow_get, fdrow_len, fileD, Try.ntmps25, reduceIte, reduceCtorEq, Nat.reduceAdd, Nat.reduceEqDiff, Nat.reduceLT, Nat.reduceLeDiff, Nat.reduceSub, Nat.reduceMul, Nat.reduceBEq, Int.reduceToNat, Int.reduceLE, Int.reduceLT, Int.reducePow]
            case ek2 => simp only [go_sem, kn25, rPathF, fdrow_get, fdrow_len, fileD, Try.ntmps25, reduceIte, reduceCtorEq, Nat.reduceAdd, Nat.reduceEqDiff, Nat.reduceLT, Nat.reduceLeDiff, Nat.reduceSub, Nat.reduceMul, Nat.reduceBEq, Int.reduceToNat, Int.reduceLE, Int.reduceLT, Int.reducePow]
            case ev2 =>
              rw [rightL_all, all_no (l := List.range fl.length) (i := i) (p := fileOk fl) (by simpa using hi) 0 (by simpa [List.getD_eq_getElem?_getD, List.getElem?_range hi] using hc), Bool.and_false]; rfl
          case f11 =>
            intro hb3
            have hc : fileOk fl i = true := by rw [ref25] at hb3; simpa using hb3
            refine AWp.skip ?_
            refine AWp.reg (S1 := ?S13) (ob := ?o13) (S' := ?K13) tab_ok (knowL_ok kn25_ok) mixed [1, 3] ?r13 ?h13 ?k13 ?w13
            case r13 => simp only [go_sem, kn25, rPathF, fdrow_get, fdrow_len, fileD, Try.ntmps25, reduceIte, reduceCtorEq, Nat.reduceAdd, Nat.reduceEqDiff, Nat.reduceLT, Nat.reduceLeDiff, Nat.reduceSub, Nat.reduceMul, Nat.reduceBEq, Int.reduceToNat, Int.reduceLE, Int.reduceLT, Int.reducePow]; rfl
            case h13 => first | exact True.intro | omega | (simp only [go_sem, kn25, rPathF, fdrow_get, fdrow_len, fileD, Try.ntmps25, reduceIte, reduceCtorEq, Nat.reduceAdd, Nat.reduceEqDiff, Nat.reduceLT, Nat.reduceLeDiff, Nat.reduceSub, Nat.reduceMul, Nat.reduceBEq, Int.reduceToNat, Int.reduceLE, Int.reduceLT, Int.reducePow]; done) | (simp only [go_sem, kn25, rPathF, fdrow_get, fdrow_len, fileD, Try.ntmps25, reduceIte, reduceCtorEq, Nat.reduceAdd, Nat.reduceEqDiff, Nat.reduceLT, Nat.reduceLeDiff, Nat.reduceSub, Nat.reduceMul, Nat.reduceBEq, Int.reduceToNat, Int.reduceLE, Int.reduceLT, Int.reducePow]; omega)
            case k13 => simp only [go_sem, kn25, rPathF, fdrow_get, fdrow_len, fileD, Try.ntmps25, reduceIte, reduceCtorEq, Nat.reduceAdd, Nat.reduceEqDiff, Nat.reduceLT, Nat.reduceLeDiff, Nat.reduceSub, Nat.reduceMul, Nat.reduceBEq, Int.reduceToNat, Int.reduceLE, Int.reduceLT, Int.reducePow]; rfl
            exact ⟨fl.length - (i + 1), _, by omega, (Conv.keep [1, 3] [0] (by simp)).trans (Conv.rename (S' := ⟨[(1, .one (.s (.ptr 0 0))), (3, .one (dv (.int .i64 ((i + 1 : Nat) : Int))))], [(0, .cells [.d (.int .i64 n), .d (.slice z 3 (fdrow fl))] 34)], 1⟩) id (by simp) (by simp) (by simp [St.keep, keepE, lookN, AVal.ren, AV.ren, Sc.ren, AVal.ids, AV.ids, Sc.ids]) (by simp [St.keep, keepE, lookN, AObj.ren, AObj.ids, Sc.ids, Sc.ren]) (by simp)), i + 1, by omega, rfl, by simp [List.range_succ, ht, hc], rfl⟩
        case f7 =>
          intro hb2
          have hi : i = fl.length := by simp at hb2; omega
          subst hi
          refine AWp.exit ?_
          refine thenA_exit ?_
          refine thenA_exit ?_
          refine inB_eq ?_
          refine AWp.seq ?_
          refine AWp.reg (S1 := ?S14) (ob := ?o14) (S' := ?K14) tab_ok (knowL_ok kn25_ok) mixed [2] ?r14 ?h14 ?k14 ?w14
          case r14 => simp only [go_sem, kn25, rPathF, fdrow_get, fdrow_len, fileD, Try.ntmps25, reduceIte, reduceCtorEq, Nat.reduceAdd, Nat.reduceEqDiff, Nat.reduceLT, Nat.reduceLeDiff, Nat.reduceSub, Nat.reduceMul, Nat.reduceBEq, Int.reduceToNat, Int.reduceLE, Int.reduceLT, Int.reducePow]; rfl
          case h14 => first | exact True.intro | omega | (simp only [go_sem, kn25, rPathF, fdrow_get, fdrow_len, fileD, Try.ntmps25, reduceIte, reduceCtorEq, Nat.reduceAdd, Nat.reduceEqDiff, Nat.reduceLT, Nat.reduceLeDiff, Nat.reduceSub, Nat.reduceMul, Nat.reduceBEq, Int.reduceToNat, Int.reduceLE, Int.reduceLT, Int.reducePow]; done) | (simp only [go_sem, kn25, rPathF, fdrow_get, fdrow_len, fileD, Try.ntmps25, reduceIte, reduceCtorEq, Nat.reduceAdd, Nat.reduceEqDiff, Nat.reduceLT, Nat.reduceLeDiff, Nat.reduceSub, Nat.reduceMul, Nat.reduceBEq, Int.reduceToNat, Int.reduceLE, Int.reduceLT, Int.reducePow]; omega)
          case k14 => simp only [go_sem, kn25, rPathF, fdrow_get, fdrow_len, fileD, Try.ntmps25, reduceIte, reduceCtorEq, Nat.reduceAdd, Nat.reduceEqDiff, Nat.reduceLT, Nat.reduceLeDiff, Nat.reduceSub, Nat.reduceMul, Nat.reduceBEq, Int.reduceToNat, Int.reduceLE, Int.reduceLT, Int.reducePow]; rfl
          refine AWp.ret ?_
          refine ends_p (vs := ?vs3) (ob := ?ro3) (vs' := ?ws3) (ks := ?ks3) (ob2 := ?rp3) tab_ok (by simp) ?er3 ?eo3 ?ef3 ?eg3 ?en3 ?ek3 ?ev3
          case er3 => simp only [go_sem, kn25, rPathF, fdrow_get, fdrow_len, fileD, Try.ntmps25, reduceIte, reduceCtorEq, Nat.reduceAdd, Nat.reduceEqDiff, Nat.reduceLT, Nat.reduceLeDiff, Nat.reduceSub, Nat.reduceMul, Nat.reduceBEq, Int.reduceToNat, Int.reduceLE, Int.reduceLT, Int.reducePow, Try.results25]; rfl
          case eo3 => first | exact True.intro | simp only [go_sem, kn25, rPathF, fdrow_get, fdrow_len, fileD, Try.ntmps25, reduceIte, reduceCtorEq, Nat.reduceAdd, Nat.reduceEqDiff, Nat.reduceLT, Nat.reduceLeDiff, Nat.reduceSub, Nat.reduceMul, Nat.reduceBEq, Int.reduceToNat, Int.reduceLE, Int.reduceLT, Int.reducePow]
          case ef3 => simp only [go_sem, kn25, rPathF, fdrow_get, fdrow_len, fileD, Try.ntmps25, reduceIte, reduceCtorEq, Nat.reduceAdd, Nat.reduceEqDiff, Nat.reduceLT, Nat.reduceLeDiff, Nat.reduceSub, Nat.reduceMul, Nat.reduceBEq, Int.reduceToNat, Int.reduceLE, Int.reduceLT, Int.reducePow]; rfl
          case eg3 => first | exact True.intro | simp only [go_sem, kn25, rPathF, fdrow_get, fdrow_len, fileD, Try.ntmps25, reduceIte, reduceCtorEq, Nat.reduceAdd, Nat.reduceEqDiff, Nat.reduceLT, Nat.reduceLeDiff, Nat.reduceSub, Nat.reduceMul, Nat.reduceBEq, Int.reduceToNat, Int.reduceLE, Int.reduceLT, Int.reducePow]
          case en3 => simp only [go_sem, kn25, rPathF, fdrow_get, fdrow_len, fileD, Try.ntmps25, reduceIte, reduceCtorEq, Nat.reduceAdd, Nat.reduceEqDiff, Nat.reduceLT, Nat.reduceLeDiff, Nat.reduceSub, Nat.reduceMul, Nat.reduceBEq, Int.reduceToNat, Int.reduceLE, Int.reduceLT, Int.reducePow]
          case ek3 => simp only [go_sem, kn25, rPathF, fdrow_get, fdrow_len, fileD, Try.ntmps25, reduceIte, reduceCtorEq, Nat.reduceAdd, Nat.reduceEqDiff, Nat.reduceLT, Nat.reduceLeDiff, Nat.reduceSub, Nat.reduceMul, Nat.reduceBEq, Int.reduceToNat, Int.reduceLE, Int.reduceLT, Int.reducePow]
          case ev3 =>
            rw [rightL_all, hh, ht]; rfl
  · cases hq

end Go.Proofs.Hg
