import Derived.Test.YtcicjmhealkigaaM6
import Derived.Test.YtcicjmhealkigaaM5
set_option linter.unusedSimpArgs false
set_option linter.unusedVariables false
set_option maxHeartbeats 4000000
namespace Go.Proofs.Hg
open Go.RowKit
set_option maxRecDepth 100000
theorem rfL_ok {s : List UInt8} (h : s.length ≤ 999999) : FilesOk (rfL s) := by
  have hm := rf_main s.length s [] (Nat.le_refl _)
  unfold rfL
  cases hE : rfEnd s with
  | none => exact ⟨by simp, fun f hf => by simp at hf⟩
  | some l =>
    have := (hm.1 l hE).2
    show FilesOk l
    rw [← this]
    exact filesEnd_ok h
theorem all_heads {L : List (List UInt8)} (h12 : ¬ (dF L).length < 12) (hn : ¬ dN L = 0) (hl : 0 < L.length) (ht : (List.range (dCnt L)).all (rHead L) = true) : dHead L = false ∧ (List.range (dCnt L)).all (dFit L) = true := by
  have hr := dN_rng L
  rw [List.all_eq_true] at ht
  have hi : ∀ i, i < dCnt L → dFit L i = true ∧ dHead L = false := fun i hi => by
    have h1 := ht i (by simpa using hi)
    rw [head_eq h12 (by unfold dCnt at hi; omega)] at h1
    simpa using h1
  refine ⟨(hi 0 (by unfold dCnt; omega)).2, ?_⟩
  rw [List.all_eq_true]
  intro i h
  exact (hi i (by simpa using h)).1
def rDecF : List AV → Option (AVal × Prop)
  | [.s (.d (.slice z e es))] => some (decV (rowsB es), (es = [] ∨ e = 1) ∧ RecsOk es)
  | _ => none
def kn15 : List (Nat × Cont) := [(25, pureK rRightF), (31, pureK rNumF), (32, pureK headF), (33, viewK rFilesF)]
theorem kn15_ok : ∀ p ∈ kn15, ContOk Try.prog p.1 p.2 := by
  intro p hp
  simp only [kn15, List.mem_cons, List.not_mem_nil, or_false] at hp
  rcases hp with rfl | rfl | rfl | rfl
  · exact rRightF_ok
  · exact rNumF_ok
  · exact headF_ok
  · exact viewK_ok rFilesF_ok
theorem rDecF_ok : ContOk Try.prog 15 (pureK rDecF) := by
  refine pure_ok (nargs := 1) Try.func15 rfl (by kernel_rfl) (Nat.le_of_ble_eq_true (by kernel_rfl)) ?_
  intro args q hq hob
  unfold rDecF at hq
  split at hq
  · rename_i z e es
    injection hq with hq
    subst hq
    obtain ⟨h1, h2, h3, h4⟩ : (es = [] ∨ e = 1) ∧ RecsOk es := hob
    have hrl := rowsB_len es
    have h5 := rows_len h4
    refine ⟨rfl, by simp [AV.ids, Sc.ids], (decV_ids _).1, (decV_ids _).2, ?_⟩
    refine AWp.seq ?_
    refine AWp.reg (S1 := ?S1) (ob := ?o1) (S' := ?K1) tab_ok (knowL_ok kn15_ok) mixed [0, 2] ?r1 ?h1 ?k1 ?w1
    case r1 => simp only [go_sem, kn15, rRightF, rNumF, headF, rFilesF, unf_fdrow, rfV_tup, Try.ntmps15, reduceIte, reduceCtorEq, Nat.reduceAdd, Nat.reduceEqDiff, Nat.reduceLT, Nat.reduceLeDiff, Nat.reduceSub, Nat.reduceMul, Nat.reduceBEq, Int.reduceToNat, Int.reduceLE, Int.reduceLT, Int.reducePow]; rfl
    case h1 => first | exact True.intro | omega | (simp only [go_sem, kn15, rRightF, rNumF, headF, rFilesF, unf_fdrow, rfV_tup, Try.ntmps15, reduceIte, reduceCtorEq, Nat.reduceAdd, Nat.reduceEqDiff, Nat.reduceLT, Nat.reduceLeDiff, Nat.reduceSub, Nat.reduceMul, Nat.reduceBEq, Int.reduceToNat, Int.reduceLE, Int.reduceLT, Int.reducePow]; done) | (simp only [go_sem, kn15, rRightF, rNumF, headF, rFilesF, unf_fdrow, rfV_tup, Try.ntmps15, reduceIte, reduceCtorEq, Nat.reduceAdd, Nat.reduceEqDiff, Nat.reduceLT, Nat.reduceLeDiff, Nat.reduceSub, Nat.reduceMul, Nat.reduceBEq, Int.reduceToNat, Int.reduceLE, Int.reduceLT, Int.reducePow]; omega)
    case k1 => simp only [go_sem, kn15, rRightF, rNumF, headF, rFilesF, unf_fdrow, rfV_tup, Try.ntmps15, reduceIte, reduceCtorEq, Nat.reduceAdd, Nat.reduceEqDiff, Nat.reduceLT, Nat.reduceLeDiff, Nat.reduceSub, Nat.reduceMul, Nat.reduceBEq, Int.reduceToNat, Int.reduceLE, Int.reduceLT, Int.reducePow]; rfl
    refine AWp.seq ?_
    refine AWp.seq ?_
    refine AWp.reg (S1 := ?S2) (ob := ?o2) (S' := ?K2) tab_ok (knowL_ok kn15_ok) mixed [0, 2, 15] ?r2 ?h2 ?k2 ?w2
    case r2 => simp only [go_sem, kn15, rRightF, rNumF, headF, rFilesF, unf_fdrow, rfV_tup, Try.ntmps15, reduceIte, reduceCtorEq, Nat.reduceAdd, Nat.reduceEqDiff, Nat.reduceLT, Nat.reduceLeDiff, Nat.reduceSub, Nat.reduceMul, Nat.reduceBEq, Int.reduceToNat, Int.reduceLE, Int.reduceLT, Int.reducePow]; rfl
    case h2 => first | exact True.intro | omega | (simp only [go_sem, kn15, rRightF, rNumF, headF, rFilesF, unf_fdrow, rfV_tup, Try.ntmps15, reduceIte, reduceCtorEq, Nat.reduceAdd, Nat.reduceEqDiff, Nat.reduceLT, Nat.reduceLeDiff, Nat.reduceSub, Nat.reduceMul, Nat.reduceBEq, Int.reduceToNat, Int.reduceLE, Int.reduceLT, Int.reducePow]; done) | (simp only [go_sem, kn15, rRightF, rNumF, headF, rFilesF, unf_fdrow, rfV_tup, Try.ntmps15, reduceIte, reduceCtorEq, Nat.reduceAdd, Nat.reduceEqDiff, Nat.reduceLT, Nat.reduceLeDiff, Nat.reduceSub, Nat.reduceMul, Nat.reduceBEq, Int.reduceToNat, Int.reduceLE, Int.reduceLT, Int.reducePow]; omega)
    case k2 => simp only [go_sem, kn15, rRightF, rNumF, headF, rFilesF, unf_fdrow, rfV_tup, Try.ntmps15, reduceIte, reduceCtorEq, Nat.reduceAdd, Nat.reduceEqDiff, Nat.reduceLT, Nat.reduceLeDiff, Nat.reduceSub, Nat.reduceMul, Nat.reduceBEq, Int.reduceToNat, Int.reduceLE, Int.reduceLT, Int.reducePow]; rfl
    refine AWp.cond (b := ?b3) ?c3 ?t3 ?f3
    case c3 => simp only [go_sem, kn15, rRightF, rNumF, headF, rFilesF, unf_fdrow, rfV_tup, Try.ntmps15, reduceIte, reduceCtorEq, Nat.reduceAdd, Nat.reduceEqDiff, Nat.reduceLT, Nat.reduceLeDiff, Nat.reduceSub, Nat.reduceMul, Nat.reduceBEq, Int.reduceToNat, Int.reduceLE, Int.reduceLT, Int.reducePow]; rfl
    case t3 =>
      intro hb1
      have h0 : (rowsB es).length = 0 := by simp only [decide_eq_true_eq] at hb1; omega
      have hE : dErr (rowsB es) = 42 := by rw [dErr, if_pos h0]
      refine AWp.seq ?_
      refine AWp.reg (S1 := ?S4) (ob := ?o4) (S' := ?K4) tab_ok (knowL_ok kn15_ok) mixed [2, 3, 4] ?r4 ?h4 ?k4 ?w4
      case r4 => simp only [go_sem, kn15, rRightF, rNumF, headF, rFilesF, unf_fdrow, rfV_tup, Try.ntmps15, reduceIte, reduceCtorEq, Nat.reduceAdd, Nat.reduceEqDiff, Nat.reduceLT, Nat.reduceLeDiff, Nat.reduceSub, Nat.reduceMul, Nat.reduceBEq, Int.reduceToNat, Int.reduceLE, Int.reduceLT, Int.reducePow]; rfl
      case h4 => first | exact True.intro | omega | (simp only [go_sem, kn15, rRightF, rNumF, headF, rFilesF, unf_fdrow, rfV_tup, Try.ntmps15, reduceIte, reduceCtorEq, Nat.reduceAdd, Nat.reduceEqDiff, Nat.reduceLT, Nat.reduceLeDiff, Nat.reduceSub, Nat.reduceMul, Nat.reduceBEq, Int.reduceToNat, Int.reduceLE, Int.reduceLT, Int.reducePow]; done) | (simp only [go_sem, kn15, rRightF, rNumF, headF, rFilesF, unf_fdrow, rfV_tup, Try.ntmps15, reduceIte, reduceCtorEq, Nat.reduceAdd, Nat.reduceEqDiff, Nat.reduceLT, Nat.reduceLeDiff, Nat.reduceSub, Nat.reduceMul, Nat.reduceBEq, Int.reduceToNat, Int.reduceLE, Int.reduceLT, Int.reducePow]; omega)
      case k4 => simp only [go_sem, kn15, rRightF, rNumF, headF, rFilesF, unf_fdrow, rfV_tup, Try.ntmps15, reduceIte, reduceCtorEq, Nat.reduceAdd, Nat.reduceEqDiff, Nat.reduceLT, Nat.reduceLeDiff, Nat.reduceSub, Nat.reduceMul, Nat.reduceBEq, Int.reduceToNat, Int.reduceLE, Int.reduceLT, Int.reducePow]; rfl
      refine AWp.ret ?_
      refine ends_p (vs := ?vs1) (ob := ?ro1) (vs' := ?ws1) (ks := ?ks1) (ob2 := ?rp1) tab_ok (by simp) ?er1 ?eo1 ?ef1 ?eg1 ?en1 ?ek1 ?ev1
      case er1 => simp only [go_sem, kn15, rRightF, rNumF, headF, rFilesF, unf_fdrow, rfV_tup, Try.ntmps15, reduceIte, reduceCtorEq, Nat.reduceAdd, Nat.reduceEqDiff, Nat.reduceLT, Nat.reduceLeDiff, Nat.reduceSub, Nat.reduceMul, Nat.reduceBEq, Int.reduceToNat, Int.reduceLE, Int.reduceLT, Int.reducePow, Try.results15]; rfl
      case eo1 => first | exact True.intro | simp only [go_sem, kn15, rRightF, rNumF, headF, rFilesF, unf_fdrow, rfV_tup, Try.ntmps15, reduceIte, reduceCtorEq, Nat.reduceAdd, Nat.reduceEqDiff, Nat.reduceLT, Nat.reduceLeDiff, Nat.reduceSub, Nat.reduceMul, Nat.reduceBEq, Int.reduceToNat, Int.reduceLE, Int.reduceLT, Int.reducePow]
      case ef1 => simp only [go_sem, kn15, rRightF, rNumF, headF, rFilesF, unf_fdrow, rfV_tup, Try.ntmps15, reduceIte, reduceCtorEq, Nat.reduceAdd, Nat.reduceEqDiff, Nat.reduceLT, Nat.reduceLeDiff, Nat.reduceSub, Nat.reduceMul, Nat.reduceBEq, Int.reduceToNat, Int.reduceLE, Int.reduceLT, Int.reducePow]; rfl
      case eg1 => first | exact True.intro | simp only [go_sem, kn15, rRightF, rNumF, headF, rFilesF, unf_fdrow, rfV_tup, Try.ntmps15, reduceIte, reduceCtorEq, Nat.reduceAdd, Nat.reduceEqDiff, Nat.reduceLT, Nat.reduceLeDiff, Nat.reduceSub, Nat.reduceMul, Nat.reduceBEq, Int.reduceToNat, Int.reduceLE, Int.reduceLT, Int.reducePow]
      case en1 => simp only [go_sem, kn15, rRightF, rNumF, headF, rFilesF, unf_fdrow, rfV_tup, Try.ntmps15, reduceIte, reduceCtorEq, Nat.reduceAdd, Nat.reduceEqDiff, Nat.reduceLT, Nat.reduceLeDiff, Nat.reduceSub, Nat.reduceMul, Nat.reduceBEq, Int.reduceToNat, Int.reduceLE, Int.reduceLT, Int.reducePow]
      case ek1 => simp only [go_sem, kn15, rRightF, rNumF, headF, rFilesF, unf_fdrow, rfV_tup, Try.ntmps15, reduceIte, reduceCtorEq, Nat.reduceAdd, Nat.reduceEqDiff, Nat.reduceLT, Nat.reduceLeDiff, Nat.reduceSub, Nat.reduceMul, Nat.reduceBEq, Int.reduceToNat, Int.reduceLE, Int.reduceLT, Int.reducePow]
      case ev1 =>
        rw [decV, if_neg (by rw [hE]; decide), hE]; rfl
    case f3 =>
      intro hb1
      have hl : 0 < es.length := by simp only [decide_eq_false_iff_not] at hb1; omega
      obtain rfl : e = 1 := h1.resolve_left (by rintro rfl; simp at hl)
      have hrow0 := h2.get hl [.slice (some true) 1 []]
      have hfd : (rowsB es).getD 0 [] = dF (rowsB es) := rfl
      rw [hfd] at hrow0
      have hrow := fun i (hi : i < es.length) => h2.get hi [.slice (some true) 1 []]
      generalize hLe : rowsB es = L at *
      have hn0 : ¬ L.length = 0 := by omega
      have hNr := dN_rng L
      have hN1 : numI (List.take 2 (List.drop 10 (dF L))) = dN L := rfl
      have hM1 : numI (List.take 8 (dF L)) = dM L := rfl
      refine AWp.skip ?_
      refine AWp.seq ?_
      refine AWp.seq ?_
      refine AWp.reg (S1 := ?S5) (ob := ?o5) (S' := ?K5) tab_ok (knowL_ok kn15_ok) mixed [0, 2, 21] ?r5 ?h5 ?k5 ?w5
      case r5 => simp only [go_sem, kn15, rRightF, rNumF, headF, rFilesF, unf_fdrow, rfV_tup, Try.ntmps15, reduceIte, reduceCtorEq, Nat.reduceAdd, Nat.reduceEqDiff, Nat.reduceLT, Nat.reduceLeDiff, Nat.reduceSub, Nat.reduceMul, Nat.reduceBEq, Int.reduceToNat, Int.reduceLE, Int.reduceLT, Int.reducePow, hrow0]; rfl
      case h5 => first | exact True.intro | omega | (simp only [go_sem, kn15, rRightF, rNumF, headF, rFilesF, unf_fdrow, rfV_tup, Try.ntmps15, reduceIte, reduceCtorEq, Nat.reduceAdd, Nat.reduceEqDiff, Nat.reduceLT, Nat.reduceLeDiff, Nat.reduceSub, Nat.reduceMul, Nat.reduceBEq, Int.reduceToNat, Int.reduceLE, Int.reduceLT, Int.reducePow]; done) | (simp only [go_sem, kn15, rRightF, rNumF, headF, rFilesF, unf_fdrow, rfV_tup, Try.ntmps15, reduceIte, reduceCtorEq, Nat.reduceAdd, Nat.reduceEqDiff, Nat.reduceLT, Nat.reduceLeDiff, Nat.reduceSub, Nat.reduceMul, Nat.reduceBEq, Int.reduceToNat, Int.reduceLE, Int.reduceLT, Int.reducePow]; omega)
      case k5 => simp only [go_sem, kn15, rRightF, rNumF, headF, rFilesF, unf_fdrow, rfV_tup, Try.ntmps15, reduceIte, reduceCtorEq, Nat.reduceAdd, Nat.reduceEqDiff, Nat.reduceLT, Nat.reduceLeDiff, Nat.reduceSub, Nat.reduceMul, Nat.reduceBEq, Int.reduceToNat, Int.reduceLE, Int.reduceLT, Int.reducePow]; rfl
      refine AWp.cond (b := ?b6) ?c6 ?t6 ?f6
      case c6 => simp only [go_sem, kn15, rRightF, rNumF, headF, rFilesF, unf_fdrow, rfV_tup, Try.ntmps15, reduceIte, reduceCtorEq, Nat.reduceAdd, Nat.reduceEqDiff, Nat.reduceLT, Nat.reduceLeDiff, Nat.reduceSub, Nat.reduceMul, Nat.reduceBEq, Int.reduceToNat, Int.reduceLE, Int.reduceLT, Int.reducePow]; rfl
      case t6 =>
        intro hb2
        have hE : dErr L = 201 := by rw [dErr, if_neg hn0, if_pos (by simp only [decide_eq_true_eq] at hb2; omega)]
        refine AWp.seq ?_
        refine AWp.reg (S1 := ?S7) (ob := ?o7) (S' := ?K7) tab_ok (knowL_ok kn15_ok) mixed [2, 3, 4] ?r7 ?h7 ?k7 ?w7
        case r7 => simp only [go_sem, kn15, rRightF, rNumF, headF, rFilesF, unf_fdrow, rfV_tup, Try.ntmps15, reduceIte, reduceCtorEq, Nat.reduceAdd, Nat.reduceEqDiff, Nat.reduceLT, Nat.reduceLeDiff, Nat.reduceSub, Nat.reduceMul, Nat.reduceBEq, Int.reduceToNat, Int.reduceLE, Int.reduceLT, Int.reducePow]; rfl
        case h7 => first | exact True.intro | omega | (simp only [go_sem, kn15, rRightF, rNumF, headF, rFilesF, unf_fdrow, rfV_tup, Try.ntmps15, reduceIte, reduceCtorEq, Nat.reduceAdd, Nat.reduceEqDiff, Nat.reduceLT, Nat.reduceLeDiff, Nat.reduceSub, Nat.reduceMul, Nat.reduceBEq, Int.reduceToNat, Int.reduceLE, Int.reduceLT, Int.reducePow]; done) | (simp only [go_sem, kn15, rRightF, rNumF, headF, rFilesF, unf_fdrow, rfV_tup, Try.ntmps15, reduceIte, reduceCtorEq, Nat.reduceAdd, Nat.reduceEqDiff, Nat.reduceLT, Nat.reduceLeDiff, Nat.reduceSub, Nat.reduceMul, Nat.reduceBEq, Int.reduceToNat, Int.reduceLE, Int.reduceLT, Int.reducePow]; omega)
        case k7 => simp only [go_sem, kn15, rRightF, rNumF, headF, rFilesF, unf_fdrow, rfV_tup, Try.ntmps15, reduceIte, reduceCtorEq, Nat.reduceAdd, Nat.reduceEqDiff, Nat.reduceLT, Nat.reduceLeDiff, Nat.reduceSub, Nat.reduceMul, Nat.reduceBEq, Int.reduceToNat, Int.reduceLE, Int.reduceLT, Int.reducePow]; rfl
        refine AWp.ret ?_
        refine ends_p (vs := ?vs2) (ob := ?ro2) (vs' := ?ws2) (ks := ?ks2) (ob2 := ?rp2) tab_ok (by simp) ?er2 ?eo2 ?ef2 ?eg2 ?en2 ?ek2 ?ev2
        case er2 => simp only [go_sem, kn15, rRightF, rNumF, headF, rFilesF, unf_fdrow, rfV_tup, Try.ntmps15, reduceIte, reduceCtorEq, Nat.reduceAdd, Nat.reduceEqDiff, Nat.reduceLT, Nat.reduceLeDiff, Nat.reduceSub, Nat.reduceMul, Nat.reduceBEq, Int.reduceToNat, Int.reduceLE, Int.reduceLT, Int.reducePow, Try.results15]; rfl
        case eo2 => first | exact True.intro | simp only [go_sem, kn15, rRightF, rNumF, headF, rFilesF, unf_fdrow, rfV_tup, Try.ntmps15, reduceIte, reduceCtorEq, Nat.reduceAdd, Nat.reduceEqDiff, Nat.reduceLT, Nat.reduceLeDiff, Nat.reduceSub, Nat.reduceMul, Nat.reduceBEq, Int.reduceToNat, Int.reduceLE, Int.reduceLT, Int.reducePow]
        case ef2 => simp only [go_sem, kn15, rRightF, rNumF, headF, rFilesF, unf_fdrow, rfV_tup, Try.ntmps15, reduceIte, reduceCtorEq, Nat.reduceAdd, Nat.reduceEqDiff, Nat.reduceLT, Nat.reduceLeDiff, Nat.reduceSub, Nat.reduceMul, Nat.reduceBEq, Int.reduceToNat, Int.reduceLE, Int.reduceLT, Int.reducePow]; rfl
        case eg2 => first | exact True.intro | simp only [go_sem, kn15, rRightF, rNumF, headF, rFilesF, unf_fdrow, rfV_tup, Try.ntmps15, reduceIte, reduceCtorEq, Nat.reduceAdd, Nat.reduceEqDiff, Nat.reduceLT, Nat.reduceLeDiff, Nat.reduceSub, Nat.reduceMul, Nat.reduceBEq, Int.reduceToNat, Int.reduceLE, Int.reduceLT, Int.reducePow]
        case en2 => simp only [go_sem, kn15, rRightF, rNumF, headF, rFilesF, unf_fdrow, rfV_tup, Try.ntmps15, reduceIte, reduceCtorEq, Nat.reduceAdd, Nat.reduceEqDiff, Nat.reduceLT, Nat.reduceLeDiff, Nat.reduceSub, Nat.reduceMul, Nat.reduceBEq, Int.reduceToNat, Int.reduceLE, Int.reduceLT, Int.reducePow]
        case ek2 => simp only [go_sem, kn15, rRightF, rNumF, headF, rFilesF, unf_fdrow, rfV_tup, Try.ntmps15, reduceIte, reduceCtorEq, Nat.reduceAdd, Nat.reduceEqDiff, Nat.reduceLT, Nat.reduceLeDiff, Nat.reduceSub, Nat.reduceMul, Nat.reduceBEq, Int.reduceToNat, Int.reduceLE, Int.reduceLT, Int.reducePow]
        case ev2 =>
          rw [decV, if_neg (by rw [hE]; decide), hE]; rfl
      case f6 =>
        intro hb2
        have h12 : ¬ (dF L).length < 12 := by simp only [decide_eq_false_iff_not] at hb2; omega
        refine AWp.skip ?_
        refine AWp.seq ?_
        refine AWp.reg (S1 := ?S8) (ob := ?o8) (S' := ?K8) tab_ok (knowL_ok kn15_ok) mixed [0, 2, 5] ?r8 ?h8 ?k8 ?w8
        case r8 => simp only [go_sem, kn15, rRightF, rNumF, headF, rFilesF, unf_fdrow, rfV_tup, Try.ntmps15, reduceIte, reduceCtorEq, Nat.reduceAdd, Nat.reduceEqDiff, Nat.reduceLT, Nat.reduceLeDiff, Nat.reduceSub, Nat.reduceMul, Nat.reduceBEq, Int.reduceToNat, Int.reduceLE, Int.reduceLT, Int.reducePow, hrow0, hN1]; rfl
        case h8 =>
          exact ⟨by omega, ⟨by omega, by omega⟩, by rw [List.length_take]; omega⟩
        case k8 => simp only [go_sem, kn15, rRightF, rNumF, headF, rFilesF, unf_fdrow, rfV_tup, Try.ntmps15, reduceIte, reduceCtorEq, Nat.reduceAdd, Nat.reduceEqDiff, Nat.reduceLT, Nat.reduceLeDiff, Nat.reduceSub, Nat.reduceMul, Nat.reduceBEq, Int.reduceToNat, Int.reduceLE, Int.reduceLT, Int.reducePow]; rfl
        refine AWp.seq ?_
        refine AWp.reg (S1 := ?S9) (ob := ?o9) (S' := ?K9) tab_ok (knowL_ok kn15_ok) mixed [0, 2, 5, 6] ?r9 ?h9 ?k9 ?w9
        case r9 => simp only [go_sem, kn15, rRightF, rNumF, headF, rFilesF, unf_fdrow, rfV_tup, Try.ntmps15, reduceIte, reduceCtorEq, Nat.reduceAdd, Nat.reduceEqDiff, Nat.reduceLT, Nat.reduceLeDiff, Nat.reduceSub, Nat.reduceMul, Nat.reduceBEq, Int.reduceToNat, Int.reduceLE, Int.reduceLT, Int.reducePow]; rfl
        case h9 => first | exact True.intro | omega | (simp only [go_sem, kn15, rRightF, rNumF, headF, rFilesF, unf_fdrow, rfV_tup, Try.ntmps15, reduceIte, reduceCtorEq, Nat.reduceAdd, Nat.reduceEqDiff, Nat.reduceLT, Nat.reduceLeDiff, Nat.reduceSub, Nat.reduceMul, Nat.reduceBEq, Int.reduceToNat, Int.reduceLE, Int.reduceLT, Int.reducePow]; done) | (simp only [go_sem, kn15, rRightF, rNumF, headF, rFilesF, unf_fdrow, rfV_tup, Try.ntmps15, reduceIte, reduceCtorEq, Nat.reduceAdd, Nat.reduceEqDiff, Nat.reduceLT, Nat.reduceLeDiff, Nat.reduceSub, Nat.reduceMul, Nat.reduceBEq, Int.reduceToNat, Int.reduceLE, Int.reduceLT, Int.reducePow]; omega)
        case k9 => simp only [go_sem, kn15, rRightF, rNumF, headF, rFilesF, unf_fdrow, rfV_tup, Try.ntmps15, reduceIte, reduceCtorEq, Nat.reduceAdd, Nat.reduceEqDiff, Nat.reduceLT, Nat.reduceLeDiff, Nat.reduceSub, Nat.reduceMul, Nat.reduceBEq, Int.reduceToNat, Int.reduceLE, Int.reduceLT, Int.reducePow]; rfl
        refine AWp.seq ?_
        refine AWp.seq ?_
        refine AWp.reg (S1 := ?S10) (ob := ?o10) (S' := ?K10) tab_ok (knowL_ok kn15_ok) mixed [0, 2, 5, 6, 7] ?r10 ?h10 ?k10 ?w10
        case r10 => simp only [go_sem, kn15, rRightF, rNumF, headF, rFilesF, unf_fdrow, rfV_tup, Try.ntmps15, reduceIte, reduceCtorEq, Nat.reduceAdd, Nat.reduceEqDiff, Nat.reduceLT, Nat.reduceLeDiff, Nat.reduceSub, Nat.reduceMul, Nat.reduceBEq, Int.reduceToNat, Int.reduceLE, Int.reduceLT, Int.reducePow]; rfl
        case h10 => first | exact True.intro | omega | (simp only [go_sem, kn15, rRightF, rNumF, headF, rFilesF, unf_fdrow, rfV_tup, Try.ntmps15, reduceIte, reduceCtorEq, Nat.reduceAdd, Nat.reduceEqDiff, Nat.reduceLT, Nat.reduceLeDiff, Nat.reduceSub, Nat.reduceMul, Nat.reduceBEq, Int.reduceToNat, Int.reduceLE, Int.reduceLT, Int.reducePow]; done) | (simp only [go_sem, kn15, rRightF, rNumF, headF, rFilesF, unf_fdrow, rfV_tup, Try.ntmps15, reduceIte, reduceCtorEq, Nat.reduceAdd, Nat.reduceEqDiff, Nat.reduceLT, Nat.reduceLeDiff, Nat.reduceSub, Nat.reduceMul, Nat.reduceBEq, Int.reduceToNat, Int.reduceLE, Int.reduceLT, Int.reducePow]; omega)
        case k10 => simp only [go_sem, kn15, rRightF, rNumF, headF, rFilesF, unf_fdrow, rfV_tup, Try.ntmps15, reduceIte, reduceCtorEq, Nat.reduceAdd, Nat.reduceEqDiff, Nat.reduceLT, Nat.reduceLeDiff, Nat.reduceSub, Nat.reduceMul, Nat.reduceBEq, Int.reduceToNat, Int.reduceLE, Int.reduceLT, Int.reducePow]; rfl
        refine AWp.block ?_
        refine AWp.conv (Conv.nilT 6 (e := 1) (ety := 5) rfl rfl) ?_
        refine AWp.conv (Conv.keep [0, 2, 5, 6, 7] [1, 0] (by simp [St.nilT])) ?_
        refine AWp.loop (fun k S => ∃ i : Nat, i ≤ dCnt L ∧ k = dCnt L - i ∧ (List.range i).all (rHead L) = true ∧ S = ⟨[(0, .one (.s (.d (.slice z 1 es)))), (2, .one (.s (.ptr 0 0))), (5, .one (dv (.int .i64 (dN L)))), (6, .one (.s (.row 1 1 0 (dBody L i).length none))), (7, .one (dv (.int .i64 ((i : Nat) : Int))))], [(1, .row (brow (dBody L i)) 5), (0, .cells [.d (.int .i64 0), .d (.slice (some true) 3 [])] 34)], 2⟩) (dCnt L) ?i1 ?n1
        case i1 =>
          exact ⟨0, by omega, rfl, by simp, by simp [St.nilT, St.keep, keepE, lookN, dBody, brow]⟩
        case n1 =>
          rintro k S ⟨i, hi0, rfl, ht, rfl⟩
          refine AWp.seq ?_
          refine AWp.seq ?_
          refine AWp.reg (S1 := ?S11) (ob := ?o11) (S' := ?K11) tab_ok (knowL_ok kn15_ok) mixed [0, 2, 5, 6, 7, 36] ?r11 ?h11 ?k11 ?w11
          case r11 => simp only [go_sem, kn15, rRightF, rNumF, headF, rFilesF, unf_fdrow, rfV_tup, Try.ntmps15, reduceIte, reduceCtorEq, Nat.reduceAdd, Nat.reduceEqDiff, Nat.reduceLT, Nat.reduceLeDiff, Nat.reduceSub, Nat.reduceMul, Nat.reduceBEq, Int.reduceToNat, Int.reduceLE, Int.reduceLT, Int.reducePow]; rfl
          case h11 => first | exact True.intro | omega | (simp only [go_sem, kn15, rRightF, rNumF, headF, rFilesF, unf_fdrow, rfV_tup, Try.ntmps15, reduceIte, reduceCtorEq, Nat.reduceAdd, Nat.reduceEqDiff, Nat.reduceLT, Nat.reduceLeDiff, Nat.reduceSub, Nat.reduceMul, Nat.reduceBEq, Int.reduceToNat, Int.reduceLE, Int.reduceLT, Int.reducePow]; done) | (simp only [go_sem, kn15, rRightF, rNumF, headF, rFilesF, unf_fdrow, rfV_tup, Try.ntmps15, reduceIte, reduceCtorEq, Nat.reduceAdd, Nat.reduceEqDiff, Nat.reduceLT, Nat.reduceLeDiff, Nat.reduceSub, Nat.reduceMul, Nat.reduceBEq, Int.reduceToNat, Int.reduceLE, Int.reduceLT, Int.reducePow]; omega)
          case k11 => simp only [go_sem, kn15, rRightF, rNumF, headF, rFilesF, unf_fdrow, rfV_tup, Try.ntmps15, reduceIte, reduceCtorEq, Nat.reduceAdd, Nat.reduceEqDiff, Nat.reduceLT, Nat.reduceLeDiff, Nat.reduceSub, Nat.reduceMul, Nat.reduceBEq, Int.reduceToNat, Int.reduceLE, Int.reduceLT, Int.reducePow]; rfl
          refine AWp.cond (b := ?b12) ?c12 ?t12 ?f12
          case c12 => simp only [go_sem, kn15, rRightF, rNumF, headF, rFilesF, unf_fdrow, rfV_tup, Try.ntmps15, reduceIte, reduceCtorEq, Nat.reduceAdd, Nat.reduceEqDiff, Nat.reduceLT, Nat.reduceLeDiff, Nat.reduceSub, Nat.reduceMul, Nat.reduceBEq, Int.reduceToNat, Int.reduceLE, Int.reduceLT, Int.reducePow]; rfl
          case t12 =>
            intro hb3
            have hi : i < dCnt L := by simp only [Bool.and_eq_true, decide_eq_true_eq] at hb3; unfold dCnt; omega
            have hin : (i : Int) < dN L := by unfold dCnt at hi; omega
            have hi2 : i < es.length := by unfold dCnt at hi; omega
            have hrw := hrow i hi2
            have hri : (L.getD i []).length ≤ 5000 := h5 _ (by rw [getD_lt (by omega)]; exact List.getElem_mem _)
            have hbl := dBody_len h5 i
            have hhe := head_eq h12 hin
            refine AWp.skip ?_
            refine AWp.seq ?_
            refine AWp.block ?_
            refine AWp.seq ?_
            refine AWp.reg (S1 := ?S13) (ob := ?o13) (S' := ?K13) tab_ok (knowL_ok kn15_ok) mixed [0, 2, 5, 6, 7, 8] ?r13 ?h13 ?k13 ?w13
            case r13 => simp only [go_sem, kn15, rRightF, rNumF, headF, rFilesF, unf_fdrow, rfV_tup, Try.ntmps15, reduceIte, reduceCtorEq, Nat.reduceAdd, Nat.reduceEqDiff, Nat.reduceLT, Nat.reduceLeDiff, Nat.reduceSub, Nat.reduceMul, Nat.reduceBEq, Int.reduceToNat, Int.reduceLE, Int.reduceLT, Int.reducePow, hLe, hfd]; rfl
            case h13 =>
              exact ⟨h2, by omega, by omega, by omega, by omega, hNr.1, hNr.2, fun r hr => Nat.le_trans (h4 r hr) (by omega)⟩
            case k13 => simp only [go_sem, kn15, rRightF, rNumF, headF, rFilesF, unf_fdrow, rfV_tup, Try.ntmps15, reduceIte, reduceCtorEq, Nat.reduceAdd, Nat.reduceEqDiff, Nat.reduceLT, Nat.reduceLeDiff, Nat.reduceSub, Nat.reduceMul, Nat.reduceBEq, Int.reduceToNat, Int.reduceLE, Int.reduceLT, Int.reducePow]; rfl
            refine AWp.seq ?_
            refine AWp.seq ?_
            refine AWp.reg (S1 := ?S14) (ob := ?o14) (S' := ?K14) tab_ok (knowL_ok kn15_ok) mixed [0, 2, 5, 6, 7, 44] ?r14 ?h14 ?k14 ?w14
            case r14 => simp only [go_sem, kn15, rRightF, rNumF, headF, rFilesF, unf_fdrow, rfV_tup, Try.ntmps15, reduceIte, reduceCtorEq, Nat.reduceAdd, Nat.reduceEqDiff, Nat.reduceLT, Nat.reduceLeDiff, Nat.reduceSub, Nat.reduceMul, Nat.reduceBEq, Int.reduceToNat, Int.reduceLE, Int.reduceLT, Int.reducePow, hLe, hfd]; rfl
            case h14 => first | exact True.intro | omega | (simp only [go_sem, kn15, rRightF, rNumF, headF, rFilesF, unf_fdrow, rfV_tup, Try.ntmps15, reduceIte, reduceCtorEq, Nat.reduceAdd, Nat.reduceEqDiff, Nat.reduceLT, Nat.reduceLeDiff, Nat.reduceSub, Nat.reduceMul, Nat.reduceBEq, Int.reduceToNat, Int.reduceLE, Int.reduceLT, Int.reducePow]; done) | (simp only [go_sem, kn15, rRightF, rNumF, headF, rFilesF, unf_fdrow, rfV_tup, Try.ntmps15, reduceIte, reduceCtorEq, Nat.reduceAdd, Nat.reduceEqDiff, Nat.reduceLT, Nat.reduceLeDiff, Nat.reduceSub, Nat.reduceMul, Nat.reduceBEq, Int.reduceToNat, Int.reduceLE, Int.reduceLT, Int.reducePow]; omega)
            case k14 => simp only [go_sem, kn15, rRightF, rNumF, headF, rFilesF, unf_fdrow, rfV_tup, Try.ntmps15, reduceIte, reduceCtorEq, Nat.reduceAdd, Nat.reduceEqDiff, Nat.reduceLT, Nat.reduceLeDiff, Nat.reduceSub, Nat.reduceMul, Nat.reduceBEq, Int.reduceToNat, Int.reduceLE, Int.reduceLT, Int.reducePow]; rfl
            refine AWp.cond (b := ?b15) ?c15 ?t15 ?f15
            case c15 => simp only [go_sem, kn15, rRightF, rNumF, headF, rFilesF, unf_fdrow, rfV_tup, Try.ntmps15, reduceIte, reduceCtorEq, Nat.reduceAdd, Nat.reduceEqDiff, Nat.reduceLT, Nat.reduceLeDiff, Nat.reduceSub, Nat.reduceMul, Nat.reduceBEq, Int.reduceToNat, Int.reduceLE, Int.reduceLT, Int.reducePow]; rfl
            case t15 =>
              intro hb4
              have hrh : rHead L i = false := by have := hb4; simp only [Bool.not_eq_true'] at this; exact this
              have hE : dErr L = 201 := by
                rw [dErr, if_neg hn0, if_neg h12]
                cases hd : dHead L with
                | true => rfl
                | false =>
                  rw [hhe, hd] at hrh
                  have hf : dFit L i = false := by simpa using hrh
                  have hall : (List.range (dCnt L)).all (dFit L) = false := all_no (l := List.range (dCnt L)) (i := i) (by simpa using hi) 0 (by simpa [List.getD_eq_getElem?_getD, List.getElem?_range hi] using hf)
                  rw [hall]; rfl
              refine AWp.seq ?_
              refine AWp.reg (S1 := ?S16) (ob := ?o16) (S' := ?K16) tab_ok (knowL_ok kn15_ok) mixed [2, 3, 4] ?r16 ?h16 ?k16 ?w16
              case r16 => simp only [go_sem, kn15, rRightF, rNumF, headF, rFilesF, unf_fdrow, rfV_tup, Try.ntmps15, reduceIte, reduceCtorEq, Nat.reduceAdd, Nat.reduceEqDiff, Nat.reduceLT, Nat.reduceLeDiff, Nat.reduceSub, Nat.reduceMul, Nat.reduceBEq, Int.reduceToNat, Int.reduceLE, Int.reduceLT, Int.reducePow]; rfl
              case h16 => first | exact True.intro | omega | (simp only [go_sem, kn15, rRightF, rNumF, headF, rFilesF, unf_fdrow, rfV_tup, Try.ntmps15, reduceIte, reduceCtorEq, Nat.reduceAdd, Nat.reduceEqDiff, Nat.reduceLT, Nat.reduceLeDiff, Nat.reduceSub, Nat.reduceMul, Nat.reduceBEq, Int.reduceToNat, Int.reduceLE, Int.reduceLT, Int.reducePow]; done) | (simp only [go_sem, kn15, rRightF, rNumF, headF, rFilesF, unf_fdrow, rfV_tup, Try.ntmps15, reduceIte, reduceCtorEq, Nat.reduceAdd, Nat.reduceEqDiff, Nat.reduceLT, Nat.reduceLeDiff, Nat.reduceSub, Nat.reduceMul, Nat.reduceBEq, Int.reduceToNat, Int.reduceLE, Int.reduceLT, Int.reducePow]; omega)
              case k16 => simp only [go_sem, kn15, rRightF, rNumF, headF, rFilesF, unf_fdrow, rfV_tup, Try.ntmps15, reduceIte, reduceCtorEq, Nat.reduceAdd, Nat.reduceEqDiff, Nat.reduceLT, Nat.reduceLeDiff, Nat.reduceSub, Nat.reduceMul, Nat.reduceBEq, Int.reduceToNat, Int.reduceLE, Int.reduceLT, Int.reducePow]; rfl
              refine AWp.ret ?_
              refine ends_p (vs := ?vs3) (ob := ?ro3) (vs' := ?ws3) (ks := ?ks3) (ob2 := ?rp3) tab_ok (by simp) ?er3 ?eo3 ?ef3 ?eg3 ?en3 ?ek3 ?ev3
              case er3 => simp only [go_sem, kn15, rRightF, rNumF, headF, rFilesF, unf_fdrow, rfV_tup, Try.ntmps15, reduceIte, reduceCtorEq, Nat.reduceAdd, Nat.reduceEqDiff, Nat.reduceLT, Nat.reduceLeDiff, Nat.reduceSub, Nat.reduceMul, Nat.reduceBEq, Int.reduceToNat, Int.reduceLE, Int.reduceLT, Int.reducePow, Try.results15]; rfl
              case eo3 => first | exact True.intro | simp only [go_sem, kn15, rRightF, rNumF, headF, rFilesF, unf_fdrow, rfV_tup, Try.ntmps15, reduceIte, reduceCtorEq, Nat.reduceAdd, Nat.reduceEqDiff, Nat.reduceLT, Nat.reduceLeDiff, Nat.reduceSub, Nat.reduceMul, Nat.reduceBEq, Int.reduceToNat, Int.reduceLE, Int.reduceLT, Int.reducePow]
              case ef3 => simp only [go_sem, kn15, rRightF, rNumF, headF, rFilesF, unf_fdrow, rfV_tup, Try.ntmps15, reduceIte, reduceCtorEq, Nat.reduceAdd, Nat.reduceEqDiff, Nat.reduceLT, Nat.reduceLeDiff, Nat.reduceSub, Nat.reduceMul, Nat.reduceBEq, Int.reduceToNat, Int.reduceLE, Int.reduceLT, Int.reducePow]; rfl
              case eg3 => first | exact True.intro | simp only [go_sem, kn15, rRightF, rNumF, headF, rFilesF, unf_fdrow, rfV_tup, Try.ntmps15, reduceIte, reduceCtorEq, Nat.reduceAdd, Nat.reduceEqDiff, Nat.reduceLT, Nat.reduceLeDiff, Nat.reduceSub, Nat.reduceMul, Nat.reduceBEq, Int.reduceToNat, Int.reduceLE, Int.reduceLT, Int.reducePow]
              case en3 => simp only [go_sem, kn15, rRightF, rNumF, headF, rFilesF, unf_fdrow, rfV_tup, Try.ntmps15, reduceIte, reduceCtorEq, Nat.reduceAdd, Nat.reduceEqDiff, Nat.reduceLT, Nat.reduceLeDiff, Nat.reduceSub, Nat.reduceMul, Nat.reduceBEq, Int.reduceToNat, Int.reduceLE, Int.reduceLT, Int.reducePow]
              case ek3 => simp only [go_sem, kn15, rRightF, rNumF, headF, rFilesF, unf_fdrow, rfV_tup, Try.ntmps15, reduceIte, reduceCtorEq, Nat.reduceAdd, Nat.reduceEqDiff, Nat.reduceLT, Nat.reduceLeDiff, Nat.reduceSub, Nat.reduceMul, Nat.reduceBEq, Int.reduceToNat, Int.reduceLE, Int.reduceLT, Int.reducePow]
              case ev3 =>
                rw [decV, if_neg (by rw [hE]; decide), hE]; rfl
            case f15 =>
              intro hb4
              have hrh : rHead L i = true := by have := hb4; simp only [Bool.not_eq_false'] at this; exact this
              have hf : dFit L i = true := by rw [hhe] at hrh; simp only [Bool.and_eq_true] at hrh; exact hrh.1
              have hr12 : 12 ≤ ((L.getD i []).length : Int) := by
                simp only [dFit, hdB, Bool.and_eq_true, Bool.not_eq_true', Bool.or_eq_false_iff, decide_eq_false_iff_not] at hf
                omega
              refine AWp.skip ?_
              refine AWp.reg (S1 := ?S17) (ob := ?o17) (S' := ?K17) tab_ok (knowL_ok kn15_ok) mixed [0, 2, 5, 6, 7] ?r17 ?h17 ?k17 ?w17
              case r17 => simp only [go_sem, kn15, rRightF, rNumF, headF, rFilesF, unf_fdrow, rfV_tup, Try.ntmps15, reduceIte, reduceCtorEq, Nat.reduceAdd, Nat.reduceEqDiff, Nat.reduceLT, Nat.reduceLeDiff, Nat.reduceSub, Nat.reduceMul, Nat.reduceBEq, Int.reduceToNat, Int.reduceLE, Int.reduceLT, Int.reducePow, hrw]; rfl
              case h17 =>
                rw [List.length_drop]
                omega
              case k17 => simp only [go_sem, kn15, rRightF, rNumF, headF, rFilesF, unf_fdrow, rfV_tup, Try.ntmps15, reduceIte, reduceCtorEq, Nat.reduceAdd, Nat.reduceEqDiff, Nat.reduceLT, Nat.reduceLeDiff, Nat.reduceSub, Nat.reduceMul, Nat.reduceBEq, Int.reduceToNat, Int.reduceLE, Int.reduceLT, Int.reducePow]; rfl
              refine AWp.reg (S1 := ?S18) (ob := ?o18) (S' := ?K18) tab_ok (knowL_ok kn15_ok) mixed [0, 2, 5, 6, 7] ?r18 ?h18 ?k18 ?w18
              case r18 => simp only [go_sem, kn15, rRightF, rNumF, headF, rFilesF, unf_fdrow, rfV_tup, Try.ntmps15, reduceIte, reduceCtorEq, Nat.reduceAdd, Nat.reduceEqDiff, Nat.reduceLT, Nat.reduceLeDiff, Nat.reduceSub, Nat.reduceMul, Nat.reduceBEq, Int.reduceToNat, Int.reduceLE, Int.reduceLT, Int.reducePow]; rfl
              case h18 => first | exact True.intro | omega | (simp only [go_sem, kn15, rRightF, rNumF, headF, rFilesF, unf_fdrow, rfV_tup, Try.ntmps15, reduceIte, reduceCtorEq, Nat.reduceAdd, Nat.reduceEqDiff, Nat.reduceLT, Nat.reduceLeDiff, Nat.reduceSub, Nat.reduceMul, Nat.reduceBEq, Int.reduceToNat, Int.reduceLE, Int.reduceLT, Int.reducePow]; done) | (simp only [go_sem, kn15, rRightF, rNumF, headF, rFilesF, unf_fdrow, rfV_tup, Try.ntmps15, reduceIte, reduceCtorEq, Nat.reduceAdd, Nat.reduceEqDiff, Nat.reduceLT, Nat.reduceLeDiff, Nat.reduceSub, Nat.reduceMul, Nat.reduceBEq, Int.reduceToNat, Int.reduceLE, Int.reduceLT, Int.reducePow]; omega)
              case k18 => simp only [go_sem, kn15, rRightF, rNumF, headF, rFilesF, unf_fdrow, rfV_tup, Try.ntmps15, reduceIte, reduceCtorEq, Nat.reduceAdd, Nat.reduceEqDiff, Nat.reduceLT, Nat.reduceLeDiff, Nat.reduceSub, Nat.reduceMul, Nat.reduceBEq, Int.reduceToNat, Int.reduceLE, Int.reduceLT, Int.reducePow]; rfl
              refine ⟨dCnt L - (i + 1), ⟨[(0, .one (.s (.d (.slice z 1 es)))), (2, .one (.s (.ptr 0 0))), (5, .one (dv (.int .i64 (dN L)))), (6, .one (.s (.row 1 1 0 (dBody L i ++ (L.getD i []).drop 12).length none))), (7, .one (dv (.int .i64 ((i + 1 : Nat) : Int))))], [(1, .row (brow (dBody L i ++ (L.getD i []).drop 12)) 5), (0, .cells [.d (.int .i64 0), .d (.slice (some true) 3 [])] 34)], 2⟩, by omega, ?_, i + 1, by omega, rfl, by simp [List.range_succ, ht, hrh], by rw [dBody_succ (by omega)]⟩
              exact (Conv.keep [0, 2, 5, 6, 7] [2, 0] (by simp)).trans (Conv.rename (fun j => if j = 1 then 2 else j) (by simp; done) (by simp; done) (by simp [-List.getD_eq_getElem?_getD, -List.length_drop, St.keep, keepE, lookN, AVal.ren, AV.ren, Sc.ren, AVal.ids, AV.ids, Sc.ids]; done) (by simp [-List.getD_eq_getElem?_getD, St.keep, keepE, lookN, AObj.ren, AObj.ids, Sc.ids, Sc.ren, brow]; done) (by simp; done))
          case f12 =>
            intro hb3
            have hi : i = dCnt L := by simp only [Bool.and_eq_false_iff, decide_eq_false_iff_not] at hb3; unfold dCnt at hi0 ⊢; omega
            subst hi
            have hbl := dBody_len h5 (dCnt L)
            have hcl2 : dCnt L ≤ 200 := by unfold dCnt; omega
            refine AWp.exit ?_
            refine thenA_exit ?_
            refine thenA_exit ?_
            refine inB_eq ?_
            refine AWp.seq ?_
            refine AWp.seq ?_
            refine AWp.reg (S1 := ?S19) (ob := ?o19) (S' := ?K19) tab_ok (knowL_ok kn15_ok) mixed [0, 2, 5, 6, 54] ?r19 ?h19 ?k19 ?w19
            case r19 => simp only [go_sem, kn15, rRightF, rNumF, headF, rFilesF, unf_fdrow, rfV_tup, Try.ntmps15, reduceIte, reduceCtorEq, Nat.reduceAdd, Nat.reduceEqDiff, Nat.reduceLT, Nat.reduceLeDiff, Nat.reduceSub, Nat.reduceMul, Nat.reduceBEq, Int.reduceToNat, Int.reduceLE, Int.reduceLT, Int.reducePow]; rfl
            case h19 => first | exact True.intro | omega | (simp only [go_sem, kn15, rRightF, rNumF, headF, rFilesF, unf_fdrow, rfV_tup, Try.ntmps15, reduceIte, reduceCtorEq, Nat.reduceAdd, Nat.reduceEqDiff, Nat.reduceLT, Nat.reduceLeDiff, Nat.reduceSub, Nat.reduceMul, Nat.reduceBEq, Int.reduceToNat, Int.reduceLE, Int.reduceLT, Int.reducePow]; done) | (simp only [go_sem, kn15, rRightF, rNumF, headF, rFilesF, unf_fdrow, rfV_tup, Try.ntmps15, reduceIte, reduceCtorEq, Nat.reduceAdd, Nat.reduceEqDiff, Nat.reduceLT, Nat.reduceLeDiff, Nat.reduceSub, Nat.reduceMul, Nat.reduceBEq, Int.reduceToNat, Int.reduceLE, Int.reduceLT, Int.reducePow]; omega)
            case k19 => simp only [go_sem, kn15, rRightF, rNumF, headF, rFilesF, unf_fdrow, rfV_tup, Try.ntmps15, reduceIte, reduceCtorEq, Nat.reduceAdd, Nat.reduceEqDiff, Nat.reduceLT, Nat.reduceLeDiff, Nat.reduceSub, Nat.reduceMul, Nat.reduceBEq, Int.reduceToNat, Int.reduceLE, Int.reduceLT, Int.reducePow]; rfl
            refine AWp.cond (b := ?b20) ?c20 ?t20 ?f20
            case c20 => simp only [go_sem, kn15, rRightF, rNumF, headF, rFilesF, unf_fdrow, rfV_tup, Try.ntmps15, reduceIte, reduceCtorEq, Nat.reduceAdd, Nat.reduceEqDiff, Nat.reduceLT, Nat.reduceLeDiff, Nat.reduceSub, Nat.reduceMul, Nat.reduceBEq, Int.reduceToNat, Int.reduceLE, Int.reduceLT, Int.reducePow]; rfl
            case t20 =>
              intro hb5
              have hd : dHead L = true := by simp only [decide_eq_true_eq] at hb5; simp [dHead, hb5]
              have hE : dErr L = 201 := by rw [dErr, if_neg hn0, if_neg h12, if_pos hd]
              refine AWp.seq ?_
              refine AWp.reg (S1 := ?S21) (ob := ?o21) (S' := ?K21) tab_ok (knowL_ok kn15_ok) mixed [2, 3, 4] ?r21 ?h21 ?k21 ?w21
              case r21 => simp only [go_sem, kn15, rRightF, rNumF, headF, rFilesF, unf_fdrow, rfV_tup, Try.ntmps15, reduceIte, reduceCtorEq, Nat.reduceAdd, Nat.reduceEqDiff, Nat.reduceLT, Nat.reduceLeDiff, Nat.reduceSub, Nat.reduceMul, Nat.reduceBEq, Int.reduceToNat, Int.reduceLE, Int.reduceLT, Int.reducePow]; rfl
              case h21 => first | exact True.intro | omega | (simp only [go_sem, kn15, rRightF, rNumF, headF, rFilesF, unf_fdrow, rfV_tup, Try.ntmps15, reduceIte, reduceCtorEq, Nat.reduceAdd, Nat.reduceEqDiff, Nat.reduceLT, Nat.reduceLeDiff, Nat.reduceSub, Nat.reduceMul, Nat.reduceBEq, Int.reduceToNat, Int.reduceLE, Int.reduceLT, Int.reducePow]; done) | (simp only [go_sem, kn15, rRightF, rNumF, headF, rFilesF, unf_fdrow, rfV_tup, Try.ntmps15, reduceIte, reduceCtorEq, Nat.reduceAdd, Nat.reduceEqDiff, Nat.reduceLT, Nat.reduceLeDiff, Nat.reduceSub, Nat.reduceMul, Nat.reduceBEq, Int.reduceToNat, Int.reduceLE, Int.reduceLT, Int.reducePow]; omega)
              case k21 => simp only [go_sem, kn15, rRightF, rNumF, headF, rFilesF, unf_fdrow, rfV_tup, Try.ntmps15, reduceIte, reduceCtorEq, Nat.reduceAdd, Nat.reduceEqDiff, Nat.reduceLT, Nat.reduceLeDiff, Nat.reduceSub, Nat.reduceMul, Nat.reduceBEq, Int.reduceToNat, Int.reduceLE, Int.reduceLT, Int.reducePow]; rfl
              refine AWp.ret ?_
              refine ends_p (vs := ?vs4) (ob := ?ro4) (vs' := ?ws4) (ks := ?ks4) (ob2 := ?rp4) tab_ok (by simp) ?er4 ?eo4 ?ef4 ?eg4 ?en4 ?ek4 ?ev4
              case er4 => simp only [go_sem, kn15, rRightF, rNumF, headF, rFilesF, unf_fdrow, rfV_tup, Try.ntmps15, reduceIte, reduceCtorEq, Nat.reduceAdd, Nat.reduceEqDiff, Nat.reduceLT, Nat.reduceLeDiff, Nat.reduceSub, Nat.reduceMul, Nat.reduceBEq, Int.reduceToNat, Int.reduceLE, Int.reduceLT, Int.reducePow, Try.results15]; rfl
              case eo4 => first | exact True.intro | simp only [go_sem, kn15, rRightF, rNumF, headF, rFilesF, unf_fdrow, rfV_tup, Try.ntmps15, reduceIte, reduceCtorEq, Nat.reduceAdd, Nat.reduceEqDiff, Nat.reduceLT, Nat.reduceLeDiff, Nat.reduceSub, Nat.reduceMul, Nat.reduceBEq, Int.reduceToNat, Int.reduceLE, Int.reduceLT, Int.reducePow]
              case ef4 => simp only [go_sem, kn15, rRightF, rNumF, headF, rFilesF, unf_fdrow, rfV_tup, Try.ntmps15, reduceIte, reduceCtorEq, Nat.reduceAdd, Nat.reduceEqDiff, Nat.reduceLT, Nat.reduceLeDiff, Nat.reduceSub, Nat.reduceMul, Nat.reduceBEq, Int.reduceToNat, Int.reduceLE, Int.reduceLT, Int.reducePow]; rfl
              case eg4 => first | exact True.intro | simp only [go_sem, kn15, rRightF, rNumF, headF, rFilesF, unf_fdrow, rfV_tup, Try.ntmps15, reduceIte, reduceCtorEq, Nat.reduceAdd, Nat.reduceEqDiff, Nat.reduceLT, Nat.reduceLeDiff, Nat.reduceSub, Nat.reduceMul, Nat.reduceBEq, Int.reduceToNat, Int.reduceLE, Int.reduceLT, Int.reducePow]
              case en4 => simp only [go_sem, kn15, rRightF, rNumF, headF, rFilesF, unf_fdrow, rfV_tup, Try.ntmps15, reduceIte, reduceCtorEq, Nat.reduceAdd, Nat.reduceEqDiff, Nat.reduceLT, Nat.reduceLeDiff, Nat.reduceSub, Nat.reduceMul, Nat.reduceBEq, Int.reduceToNat, Int.reduceLE, Int.reduceLT, Int.reducePow]
              case ek4 => simp only [go_sem, kn15, rRightF, rNumF, headF, rFilesF, unf_fdrow, rfV_tup, Try.ntmps15, reduceIte, reduceCtorEq, Nat.reduceAdd, Nat.reduceEqDiff, Nat.reduceLT, Nat.reduceLeDiff, Nat.reduceSub, Nat.reduceMul, Nat.reduceBEq, Int.reduceToNat, Int.reduceLE, Int.reduceLT, Int.reducePow]
              case ev4 =>
                rw [decV, if_neg (by rw [hE]; decide), hE]; rfl
            case f20 =>
              intro hb5
              obtain ⟨hh, hta⟩ := all_heads h12 (by simpa using hb5) (by omega) ht
              refine AWp.skip ?_
              refine AWp.seq ?_
              refine AWp.seq ?_
              refine AWp.reg (S1 := ?S22) (ob := ?o22) (S' := ?K22) tab_ok (knowL_ok kn15_ok) mixed [0, 2, 5, 6, 59] ?r22 ?h22 ?k22 ?w22
              case r22 => simp only [go_sem, kn15, rRightF, rNumF, headF, rFilesF, unf_fdrow, rfV_tup, Try.ntmps15, reduceIte, reduceCtorEq, Nat.reduceAdd, Nat.reduceEqDiff, Nat.reduceLT, Nat.reduceLeDiff, Nat.reduceSub, Nat.reduceMul, Nat.reduceBEq, Int.reduceToNat, Int.reduceLE, Int.reduceLT, Int.reducePow]; rfl
              case h22 => first | exact True.intro | omega | (simp only [go_sem, kn15, rRightF, rNumF, headF, rFilesF, unf_fdrow, rfV_tup, Try.ntmps15, reduceIte, reduceCtorEq, Nat.reduceAdd, Nat.reduceEqDiff, Nat.reduceLT, Nat.reduceLeDiff, Nat.reduceSub, Nat.reduceMul, Nat.reduceBEq, Int.reduceToNat, Int.reduceLE, Int.reduceLT, Int.reducePow]; done) | (simp only [go_sem, kn15, rRightF, rNumF, headF, rFilesF, unf_fdrow, rfV_tup, Try.ntmps15, reduceIte, reduceCtorEq, Nat.reduceAdd, Nat.reduceEqDiff, Nat.reduceLT, Nat.reduceLeDiff, Nat.reduceSub, Nat.reduceMul, Nat.reduceBEq, Int.reduceToNat, Int.reduceLE, Int.reduceLT, Int.reducePow]; omega)
              case k22 => simp only [go_sem, kn15, rRightF, rNumF, headF, rFilesF, unf_fdrow, rfV_tup, Try.ntmps15, reduceIte, reduceCtorEq, Nat.reduceAdd, Nat.reduceEqDiff, Nat.reduceLT, Nat.reduceLeDiff, Nat.reduceSub, Nat.reduceMul, Nat.reduceBEq, Int.reduceToNat, Int.reduceLE, Int.reduceLT, Int.reducePow]; rfl
              refine AWp.cond (b := ?b23) ?c23 ?t23 ?f23
              case c23 => simp only [go_sem, kn15, rRightF, rNumF, headF, rFilesF, unf_fdrow, rfV_tup, Try.ntmps15, reduceIte, reduceCtorEq, Nat.reduceAdd, Nat.reduceEqDiff, Nat.reduceLT, Nat.reduceLeDiff, Nat.reduceSub, Nat.reduceMul, Nat.reduceBEq, Int.reduceToNat, Int.reduceLE, Int.reduceLT, Int.reducePow]; rfl
              case t23 =>
                intro hb6
                have hE : dErr L = 42 := by rw [dErr, if_neg hn0, if_neg h12, if_neg (by rw [hh]; decide), if_pos hta, if_pos (by simp only [decide_eq_true_eq] at hb6; omega)]
                refine AWp.seq ?_
                refine AWp.reg (S1 := ?S24) (ob := ?o24) (S' := ?K24) tab_ok (knowL_ok kn15_ok) mixed [2, 3, 4] ?r24 ?h24 ?k24 ?w24
                case r24 => simp only [go_sem, kn15, rRightF, rNumF, headF, rFilesF, unf_fdrow, rfV_tup, Try.ntmps15, reduceIte, reduceCtorEq, Nat.reduceAdd, Nat.reduceEqDiff, Nat.reduceLT, Nat.reduceLeDiff, Nat.reduceSub, Nat.reduceMul, Nat.reduceBEq, Int.reduceToNat, Int.reduceLE, Int.reduceLT, Int.reducePow]; rfl
                case h24 => first | exact True.intro | omega | (simp only [go_sem, kn15, rRightF, rNumF, headF, rFilesF, unf_fdrow, rfV_tup, Try.ntmps15, reduceIte, reduceCtorEq, Nat.reduceAdd, Nat.reduceEqDiff, Nat.reduceLT, Nat.reduceLeDiff, Nat.reduceSub, Nat.reduceMul, Nat.reduceBEq, Int.reduceToNat, Int.reduceLE, Int.reduceLT, Int.reducePow]; done) | (simp only [go_sem, kn15, rRightF, rNumF, headF, rFilesF, unf_fdrow, rfV_tup, Try.ntmps15, reduceIte, reduceCtorEq, Nat.reduceAdd, Nat.reduceEqDiff, Nat.reduceLT, Nat.reduceLeDiff, Nat.reduceSub, Nat.reduceMul, Nat.reduceBEq, Int.reduceToNat, Int.reduceLE, Int.reduceLT, Int.reducePow]; omega)
                case k24 => simp only [go_sem, kn15, rRightF, rNumF, headF, rFilesF, unf_fdrow, rfV_tup, Try.ntmps15, reduceIte, reduceCtorEq, Nat.reduceAdd, Nat.reduceEqDiff, Nat.reduceLT, Nat.reduceLeDiff, Nat.reduceSub, Nat.reduceMul, Nat.reduceBEq, Int.reduceToNat, Int.reduceLE, Int.reduceLT, Int.reducePow]; rfl
                refine AWp.ret ?_
                refine ends_p (vs := ?vs5) (ob := ?ro5) (vs' := ?ws5) (ks := ?ks5) (ob2 := ?rp5) tab_ok (by simp) ?er5 ?eo5 ?ef5 ?eg5 ?en5 ?ek5 ?ev5
                case er5 => simp only [go_sem, kn15, rRightF, rNumF, headF, rFilesF, unf_fdrow, rfV_tup, Try.ntmps15, reduceIte, reduceCtorEq, Nat.reduceAdd, Nat.reduceEqDiff, Nat.reduceLT, Nat.reduceLeDiff, Nat.reduceSub, Nat.reduceMul, Nat.reduceBEq, Int.reduceToNat, Int.reduceLE, Int.reduceLT, Int.reducePow, Try.results15]; rfl
                case eo5 => first | exact True.intro | simp only [go_sem, kn15, rRightF, rNumF, headF, rFilesF, unf_fdrow, rfV_tup, Try.ntmps15, reduceIte, reduceCtorEq, Nat.reduceAdd, Nat.reduceEqDiff, Nat.reduceLT, Nat.reduceLeDiff, Nat.reduceSub, Nat.reduceMul, Nat.reduceBEq, Int.reduceToNat, Int.reduceLE, Int.reduceLT, Int.reducePow]
                case ef5 => simp only [go_sem, kn15, rRightF, rNumF, headF, rFilesF, unf_fdrow, rfV_tup, Try.ntmps15, reduceIte, reduceCtorEq, Nat.reduceAdd, Nat.reduceEqDiff, Nat.reduceLT, Nat.reduceLeDiff, Nat.reduceSub, Nat.reduceMul, Nat.reduceBEq, Int.reduceToNat, Int.reduceLE, Int.reduceLT, Int.reducePow]; rfl
                case eg5 => first | exact True.intro | simp only [go_sem, kn15, rRightF, rNumF, headF, rFilesF, unf_fdrow, rfV_tup, Try.ntmps15, reduceIte, reduceCtorEq, Nat.reduceAdd, Nat.reduceEqDiff, Nat.reduceLT, Nat.reduceLeDiff, Nat.reduceSub, Nat.reduceMul, Nat.reduceBEq, Int.reduceToNat, Int.reduceLE, Int.reduceLT, Int.reducePow]
                case en5 => simp only [go_sem, kn15, rRightF, rNumF, headF, rFilesF, unf_fdrow, rfV_tup, Try.ntmps15, reduceIte, reduceCtorEq, Nat.reduceAdd, Nat.reduceEqDiff, Nat.reduceLT, Nat.reduceLeDiff, Nat.reduceSub, Nat.reduceMul, Nat.reduceBEq, Int.reduceToNat, Int.reduceLE, Int.reduceLT, Int.reducePow]
                case ek5 => simp only [go_sem, kn15, rRightF, rNumF, headF, rFilesF, unf_fdrow, rfV_tup, Try.ntmps15, reduceIte, reduceCtorEq, Nat.reduceAdd, Nat.reduceEqDiff, Nat.reduceLT, Nat.reduceLeDiff, Nat.reduceSub, Nat.reduceMul, Nat.reduceBEq, Int.reduceToNat, Int.reduceLE, Int.reduceLT, Int.reducePow]
                case ev5 =>
                  rw [decV, if_neg (by rw [hE]; decide), hE]; rfl
              case f23 =>
                intro hb6
                have hln : ¬ (L.length : Int) < dN L := by simp only [decide_eq_false_iff_not] at hb6; omega
                have hsm := rf_same (dBody L (dCnt L)) (dM L)
                refine AWp.skip ?_
                refine AWp.seq ?_
                refine AWp.reg (S1 := ?S25) (ob := ?o25) (S' := ?K25) tab_ok (knowL_ok kn15_ok) mixed [0, 2, 5, 9, 10] ?r25 ?h25 ?k25 ?w25
                case r25 => simp only [go_sem, kn15, rRightF, rNumF, headF, rFilesF, unf_fdrow, rfV_tup, Try.ntmps15, reduceIte, reduceCtorEq, Nat.reduceAdd, Nat.reduceEqDiff, Nat.reduceLT, Nat.reduceLeDiff, Nat.reduceSub, Nat.reduceMul, Nat.reduceBEq, Int.reduceToNat, Int.reduceLE, Int.reduceLT, Int.reducePow, hrow0, hM1]; rfl
                case h25 => first | exact True.intro | omega | (simp only [go_sem, kn15, rRightF, rNumF, headF, rFilesF, unf_fdrow, rfV_tup, Try.ntmps15, reduceIte, reduceCtorEq, Nat.reduceAdd, Nat.reduceEqDiff, Nat.reduceLT, Nat.reduceLeDiff, Nat.reduceSub, Nat.reduceMul, Nat.reduceBEq, Int.reduceToNat, Int.reduceLE, Int.reduceLT, Int.reducePow]; done) | (simp only [go_sem, kn15, rRightF, rNumF, headF, rFilesF, unf_fdrow, rfV_tup, Try.ntmps15, reduceIte, reduceCtorEq, Nat.reduceAdd, Nat.reduceEqDiff, Nat.reduceLT, Nat.reduceLeDiff, Nat.reduceSub, Nat.reduceMul, Nat.reduceBEq, Int.reduceToNat, Int.reduceLE, Int.reduceLT, Int.reducePow]; omega)
                case k25 => simp only [go_sem, kn15, rRightF, rNumF, headF, rFilesF, unf_fdrow, rfV_tup, Try.ntmps15, reduceIte, reduceCtorEq, Nat.reduceAdd, Nat.reduceEqDiff, Nat.reduceLT, Nat.reduceLeDiff, Nat.reduceSub, Nat.reduceMul, Nat.reduceBEq, Int.reduceToNat, Int.reduceLE, Int.reduceLT, Int.reducePow]; rfl
                refine AWp.seq ?_
                refine AWp.reg (S1 := ?S26) (ob := ?o26) (S' := ?K26) tab_ok (knowL_ok kn15_ok) mixed [2, 5, 10, 11] ?r26 ?h26 ?k26 ?w26
                case r26 => simp only [go_sem, kn15, rRightF, rNumF, headF, rFilesF, unf_fdrow, rfV_tup, Try.ntmps15, reduceIte, reduceCtorEq, Nat.reduceAdd, Nat.reduceEqDiff, Nat.reduceLT, Nat.reduceLeDiff, Nat.reduceSub, Nat.reduceMul, Nat.reduceBEq, Int.reduceToNat, Int.reduceLE, Int.reduceLT, Int.reducePow, hrow0, hM1]; rfl
                case h26 =>
                  exact ⟨by omega, ⟨by omega, by omega⟩, by rw [List.length_take]; omega⟩
                case k26 => simp only [go_sem, kn15, rRightF, rNumF, headF, rFilesF, unf_fdrow, rfV_tup, Try.ntmps15, reduceIte, reduceCtorEq, Nat.reduceAdd, Nat.reduceEqDiff, Nat.reduceLT, Nat.reduceLeDiff, Nat.reduceSub, Nat.reduceMul, Nat.reduceBEq, Int.reduceToNat, Int.reduceLE, Int.reduceLT, Int.reducePow]; rfl
                refine AWp.seq ?_
                refine AWp.reg (S1 := ?S27) (ob := ?o27) (S' := ?K27) tab_ok (knowL_ok kn15_ok) mixed [2, 5, 10, 11, 12] ?r27 ?h27 ?k27 ?w27
                case r27 => simp only [go_sem, kn15, rRightF, rNumF, headF, rFilesF, unf_fdrow, rfV_tup, Try.ntmps15, reduceIte, reduceCtorEq, Nat.reduceAdd, Nat.reduceEqDiff, Nat.reduceLT, Nat.reduceLeDiff, Nat.reduceSub, Nat.reduceMul, Nat.reduceBEq, Int.reduceToNat, Int.reduceLE, Int.reduceLT, Int.reducePow]; rfl
                case h27 =>
                  exact rfL_ok (by omega)
                case k27 => simp only [go_sem, kn15, rRightF, rNumF, headF, rFilesF, unf_fdrow, rfV_tup, Try.ntmps15, reduceIte, reduceCtorEq, Nat.reduceAdd, Nat.reduceEqDiff, Nat.reduceLT, Nat.reduceLeDiff, Nat.reduceSub, Nat.reduceMul, Nat.reduceBEq, Int.reduceToNat, Int.reduceLE, Int.reduceLT, Int.reducePow]; rfl
                refine AWp.seq ?_
                refine AWp.seq ?_
                refine AWp.reg (S1 := ?S28) (ob := ?o28) (S' := ?K28) tab_ok (knowL_ok kn15_ok) mixed [2, 5, 11, 80] ?r28 ?h28 ?k28 ?w28
                case r28 => simp only [go_sem, kn15, rRightF, rNumF, headF, rFilesF, unf_fdrow, rfV_tup, Try.ntmps15, reduceIte, reduceCtorEq, Nat.reduceAdd, Nat.reduceEqDiff, Nat.reduceLT, Nat.reduceLeDiff, Nat.reduceSub, Nat.reduceMul, Nat.reduceBEq, Int.reduceToNat, Int.reduceLE, Int.reduceLT, Int.reducePow]; rfl
                case h28 => first | exact True.intro | omega | (simp only [go_sem, kn15, rRightF, rNumF, headF, rFilesF, unf_fdrow, rfV_tup, Try.ntmps15, reduceIte, reduceCtorEq, Nat.reduceAdd, Nat.reduceEqDiff, Nat.reduceLT, Nat.reduceLeDiff, Nat.reduceSub, Nat.reduceMul, Nat.reduceBEq, Int.reduceToNat, Int.reduceLE, Int.reduceLT, Int.reducePow]; done) | (simp only [go_sem, kn15, rRightF, rNumF, headF, rFilesF, unf_fdrow, rfV_tup, Try.ntmps15, reduceIte, reduceCtorEq, Nat.reduceAdd, Nat.reduceEqDiff, Nat.reduceLT, Nat.reduceLeDiff, Nat.reduceSub, Nat.reduceMul, Nat.reduceBEq, Int.reduceToNat, Int.reduceLE, Int.reduceLT, Int.reducePow]; omega)
                case k28 => simp only [go_sem, kn15, rRightF, rNumF, headF, rFilesF, unf_fdrow, rfV_tup, Try.ntmps15, reduceIte, reduceCtorEq, Nat.reduceAdd, Nat.reduceEqDiff, Nat.reduceLT, Nat.reduceLeDiff, Nat.reduceSub, Nat.reduceMul, Nat.reduceBEq, Int.reduceToNat, Int.reduceLE, Int.reduceLT, Int.reducePow]; rfl
                refine AWp.cond (b := ?b29) ?c29 ?t29 ?f29
                case c29 => simp only [go_sem, kn15, rRightF, rNumF, headF, rFilesF, unf_fdrow, rfV_tup, Try.ntmps15, reduceIte, reduceCtorEq, Nat.reduceAdd, Nat.reduceEqDiff, Nat.reduceLT, Nat.reduceLeDiff, Nat.reduceSub, Nat.reduceMul, Nat.reduceBEq, Int.reduceToNat, Int.reduceLE, Int.reduceLT, Int.reducePow]; rfl
                case t29 =>
                  intro hb7
                  have hE : dErr L = 201 := by
                    rw [dErr, if_neg hn0, if_neg h12, if_neg (by rw [hh]; decide), if_pos hta, if_neg hln, if_neg]
                    show ¬ ((filesEnd (dBody L (dCnt L))).1.1 && rightL (dM L) (filesEnd (dBody L (dCnt L))).2) = true
                    rw [← hsm.1]
                    intro h
                    simp only [Bool.and_eq_true] at h
                    rw [h.1, h.2] at hb7
                    cases hb7
                  refine AWp.seq ?_
                  refine AWp.reg (S1 := ?S30) (ob := ?o30) (S' := ?K30) tab_ok (knowL_ok kn15_ok) mixed [2, 3, 4] ?r30 ?h30 ?k30 ?w30
                  case r30 => simp only [go_sem, kn15, rRightF, rNumF, headF, rFilesF, unf_fdrow, rfV_tup, Try.ntmps15, reduceIte, reduceCtorEq, Nat.reduceAdd, Nat.reduceEqDiff, Nat.reduceLT, Nat.reduceLeDiff, Nat.reduceSub, Nat.reduceMul, Nat.reduceBEq, Int.reduceToNat, Int.reduceLE, Int.reduceLT, Int.reducePow]; rfl
                  case h30 => first | exact True.intro | omega | (simp only [go_sem, kn15, rRightF, rNumF, headF, rFilesF, unf_fdrow, rfV_tup, Try.ntmps15, reduceIte, reduceCtorEq, Nat.reduceAdd, Nat.reduceEqDiff, Nat.reduceLT, Nat.reduceLeDiff, Nat.reduceSub, Nat.reduceMul, Nat.reduceBEq, Int.reduceToNat, Int.reduceLE, Int.reduceLT, Int.reducePow]; done) | (simp only [go_sem, kn15, rRightF, rNumF, headF, rFilesF, unf_fdrow, rfV_tup, Try.ntmps15, reduceIte, reduceCtorEq, Nat.reduceAdd, Nat.reduceEqDiff, Nat.reduceLT, Nat.reduceLeDiff, Nat.reduceSub, Nat.reduceMul, Nat.reduceBEq, Int.reduceToNat, Int.reduceLE, Int.reduceLT, Int.reducePow]; omega)
                  case k30 => simp only [go_sem, kn15, rRightF, rNumF, headF, rFilesF, unf_fdrow, rfV_tup, Try.ntmps15, reduceIte, reduceCtorEq, Nat.reduceAdd, Nat.reduceEqDiff, Nat.reduceLT, Nat.reduceLeDiff, Nat.reduceSub, Nat.reduceMul, Nat.reduceBEq, Int.reduceToNat, Int.reduceLE, Int.reduceLT, Int.reducePow]; rfl
                  refine AWp.ret ?_
                  refine ends_p (vs := ?vs6) (ob := ?ro6) (vs' := ?ws6) (ks := ?ks6) (ob2 := ?rp6) tab_ok (by simp) ?er6 ?eo6 ?ef6 ?eg6 ?en6 ?ek6 ?ev6
                  case er6 => simp only [go_sem, kn15, rRightF, rNumF, headF, rFilesF, unf_fdrow, rfV_tup, Try.ntmps15, reduceIte, reduceCtorEq, Nat.reduceAdd, Nat.reduceEqDiff, Nat.reduceLT, Nat.reduceLeDiff, Nat.reduceSub, Nat.reduceMul, Nat.reduceBEq, Int.reduceToNat, Int.reduceLE, Int.reduceLT, Int.reducePow, Try.results15]; rfl
                  case eo6 => first | exact True.intro | simp only [go_sem, kn15, rRightF, rNumF, headF, rFilesF, unf_fdrow, rfV_tup, Try.ntmps15, reduceIte, reduceCtorEq, Nat.reduceAdd, Nat.reduceEqDiff, Nat.reduceLT, Nat.reduceLeDiff, Nat.reduceSub, Nat.reduceMul, Nat.reduceBEq, Int.reduceToNat, Int.reduceLE, Int.reduceLT, Int.reducePow]
                  case ef6 => simp only [go_sem, kn15, rRightF, rNumF, headF, rFilesF, unf_fdrow, rfV_tup, Try.ntmps15, reduceIte, reduceCtorEq, Nat.reduceAdd, Nat.reduceEqDiff, Nat.reduceLT, Nat.reduceLeDiff, Nat.reduceSub, Nat.reduceMul, Nat.reduceBEq, Int.reduceToNat, Int.reduceLE, Int.reduceLT, Int.reducePow]; rfl
                  case eg6 => first | exact True.intro | simp only [go_sem, kn15, rRightF, rNumF, headF, rFilesF, unf_fdrow, rfV_tup, Try.ntmps15, reduceIte, reduceCtorEq, Nat.reduceAdd, Nat.reduceEqDiff, Nat.reduceLT, Nat.reduceLeDiff, Nat.reduceSub, Nat.reduceMul, Nat.reduceBEq, Int.reduceToNat, Int.reduceLE, Int.reduceLT, Int.reducePow]
                  case en6 => simp only [go_sem, kn15, rRightF, rNumF, headF, rFilesF, unf_fdrow, rfV_tup, Try.ntmps15, reduceIte, reduceCtorEq, Nat.reduceAdd, Nat.reduceEqDiff, Nat.reduceLT, Nat.reduceLeDiff, Nat.reduceSub, Nat.reduceMul, Nat.reduceBEq, Int.reduceToNat, Int.reduceLE, Int.reduceLT, Int.reducePow]
                  case ek6 => simp only [go_sem, kn15, rRightF, rNumF, headF, rFilesF, unf_fdrow, rfV_tup, Try.ntmps15, reduceIte, reduceCtorEq, Nat.reduceAdd, Nat.reduceEqDiff, Nat.reduceLT, Nat.reduceLeDiff, Nat.reduceSub, Nat.reduceMul, Nat.reduceBEq, Int.reduceToNat, Int.reduceLE, Int.reduceLT, Int.reducePow]
                  case ev6 =>
                    rw [decV, if_neg (by rw [hE]; decide), hE]; rfl
                case f29 =>
                  intro hb7
                  have hE : dErr L = 0 := by
                    rw [dErr, if_neg hn0, if_neg h12, if_neg (by rw [hh]; decide), if_pos hta, if_neg hln, if_pos]
                    show ((filesEnd (dBody L (dCnt L))).1.1 && rightL (dM L) (filesEnd (dBody L (dCnt L))).2) = true
                    rw [← hsm.1]
                    simp only [Bool.or_eq_false_iff, Bool.not_eq_false'] at hb7
                    rw [hb7.1, hb7.2]; rfl
                  refine AWp.skip ?_
                  refine AWp.seq ?_
                  refine AWp.reg (S1 := ?S31) (ob := ?o31) (S' := ?K31) tab_ok (knowL_ok kn15_ok) mixed [2, 3, 4] ?r31 ?h31 ?k31 ?w31
                  case r31 => simp only [go_sem, kn15, rRightF, rNumF, headF, rFilesF, unf_fdrow, rfV_tup, Try.ntmps15, reduceIte, reduceCtorEq, Nat.reduceAdd, Nat.reduceEqDiff, Nat.reduceLT, Nat.reduceLeDiff, Nat.reduceSub, Nat.reduceMul, Nat.reduceBEq, Int.reduceToNat, Int.reduceLE, Int.reduceLT, Int.reducePow]; rfl
                  case h31 => first | exact True.intro | omega | (simp only [go_sem, kn15, rRightF, rNumF, headF, rFilesF, unf_fdrow, rfV_tup, Try.ntmps15, reduceIte, reduceCtorEq, Nat.reduceAdd, Nat.reduceEqDiff, Nat.reduceLT, Nat.reduceLeDiff, Nat.reduceSub, Nat.reduceMul, Nat.reduceBEq, Int.reduceToNat, Int.reduceLE, Int.reduceLT, Int.reducePow]; done) | (simp only [go_sem, kn15, rRightF, rNumF, headF, rFilesF, unf_fdrow, rfV_tup, Try.ntmps15, reduceIte, reduceCtorEq, Nat.reduceAdd, Nat.reduceEqDiff, Nat.reduceLT, Nat.reduceLeDiff, Nat.reduceSub, Nat.reduceMul, Nat.reduceBEq, Int.reduceToNat, Int.reduceLE, Int.reduceLT, Int.reducePow]; omega)
                  case k31 => simp only [go_sem, kn15, rRightF, rNumF, headF, rFilesF, unf_fdrow, rfV_tup, Try.ntmps15, reduceIte, reduceCtorEq, Nat.reduceAdd, Nat.reduceEqDiff, Nat.reduceLT, Nat.reduceLeDiff, Nat.reduceSub, Nat.reduceMul, Nat.reduceBEq, Int.reduceToNat, Int.reduceLE, Int.reduceLT, Int.reducePow]; rfl
                  refine AWp.ret ?_
                  refine ends_p (vs := ?vs7) (ob := ?ro7) (vs' := ?ws7) (ks := ?ks7) (ob2 := ?rp7) tab_ok (by simp) ?er7 ?eo7 ?ef7 ?eg7 ?en7 ?ek7 ?ev7
                  case er7 => simp only [go_sem, kn15, rRightF, rNumF, headF, rFilesF, unf_fdrow, rfV_tup, Try.ntmps15, reduceIte, reduceCtorEq, Nat.reduceAdd, Nat.reduceEqDiff, Nat.reduceLT, Nat.reduceLeDiff, Nat.reduceSub, Nat.reduceMul, Nat.reduceBEq, Int.reduceToNat, Int.reduceLE, Int.reduceLT, Int.reducePow, Try.results15]; rfl
                  case eo7 => first | exact True.intro | simp only [go_sem, kn15, rRightF, rNumF, headF, rFilesF, unf_fdrow, rfV_tup, Try.ntmps15, reduceIte, reduceCtorEq, Nat.reduceAdd, Nat.reduceEqDiff, Nat.reduceLT, Nat.reduceLeDiff, Nat.reduceSub, Nat.reduceMul, Nat.reduceBEq, Int.reduceToNat, Int.reduceLE, Int.reduceLT, Int.reducePow]
                  case ef7 => simp only [go_sem, kn15, rRightF, rNumF, headF, rFilesF, unf_fdrow, rfV_tup, Try.ntmps15, reduceIte, reduceCtorEq, Nat.reduceAdd, Nat.reduceEqDiff, Nat.reduceLT, Nat.reduceLeDiff, Nat.reduceSub, Nat.reduceMul, Nat.reduceBEq, Int.reduceToNat, Int.reduceLE, Int.reduceLT, Int.reducePow]; rfl
                  case eg7 => first | exact True.intro | simp only [go_sem, kn15, rRightF, rNumF, headF, rFilesF, unf_fdrow, rfV_tup, Try.ntmps15, reduceIte, reduceCtorEq, Nat.reduceAdd, Nat.reduceEqDiff, Nat.reduceLT, Nat.reduceLeDiff, Nat.reduceSub, Nat.reduceMul, Nat.reduceBEq, Int.reduceToNat, Int.reduceLE, Int.reduceLT, Int.reducePow]
                  case en7 => simp only [go_sem, kn15, rRightF, rNumF, headF, rFilesF, unf_fdrow, rfV_tup, Try.ntmps15, reduceIte, reduceCtorEq, Nat.reduceAdd, Nat.reduceEqDiff, Nat.reduceLT, Nat.reduceLeDiff, Nat.reduceSub, Nat.reduceMul, Nat.reduceBEq, Int.reduceToNat, Int.reduceLE, Int.reduceLT, Int.reducePow]
                  case ek7 => simp only [go_sem, kn15, rRightF, rNumF, headF, rFilesF, unf_fdrow, rfV_tup, Try.ntmps15, reduceIte, reduceCtorEq, Nat.reduceAdd, Nat.reduceEqDiff, Nat.reduceLT, Nat.reduceLeDiff, Nat.reduceSub, Nat.reduceMul, Nat.reduceBEq, Int.reduceToNat, Int.reduceLE, Int.reduceLT, Int.reducePow]
                  case ev7 =>
                    have hrk : (rfK (dBody L (dCnt L)) && rightL (dM L) (rfL (dBody L (dCnt L)))) = true := by simp only [Bool.or_eq_false_iff, Bool.not_eq_false'] at hb7; rw [hb7.1, hb7.2]; rfl
                    rw [hsm.2 hrk, decV, if_pos hE]; rfl
  · cases hq

end Go.Proofs.Hg

set_option linter.unusedSimpArgs false
set_option linter.unusedVariables false
set_option maxHeartbeats 4000000
namespace Go.Proofs.Hg
open Go.RowKit
set_option maxRecDepth 100000
def dcM (L : List (List UInt8)) : Int := if dErr L = 0 then dM L else 0
def dcF (L : List (List UInt8)) : List FileL := if dErr L = 0 then (dEnd L).2 else []
def dcZ (L : List (List UInt8)) : Option Bool := if dErr L = 0 then none else some true
def dcN (L : List (List UInt8)) : Int := if dErr L = 0 then dN L else 0
theorem decV_tup (L : List (List UInt8)) : decV L = .tup [.agg [.d (.int .i64 (dcM L)), .d (.slice (dcZ L) 3 (fdrow (dcF L)))], dv (.int .i64 (dcN L)), dv (.int .i64 (dErr L))] := by
  unfold decV dcM dcF dcZ dcN
  split
  · rename_i h; rw [h]
  · rfl
theorem dErr_zero {L : List (List UInt8)} (h : dErr L = 0) : 0 < L.length ∧ 1 ≤ dN L ∧ dN L ≤ L.length ∧ ¬ (dF L).length < 12 ∧ dHead L = false ∧ (List.range (dCnt L)).all (dFit L) = true ∧ (dEnd L).1.1 = true ∧ rightL (dM L) (dEnd L).2 = true := by
  have hr := dN_rng L
  unfold dErr at h
  by_cases h0 : L.length = 0
  · rw [if_pos h0] at h; cases h
  rw [if_neg h0] at h
  by_cases h12 : (dF L).length < 12
  · rw [if_pos h12] at h; cases h
  rw [if_neg h12] at h
  by_cases hd : dHead L = true
  · rw [if_pos hd] at h; cases h
  rw [if_neg hd] at h
  by_cases ha : (List.range (dCnt L)).all (dFit L) = true
  · rw [if_pos ha] at h
    by_cases hl : (L.length : Int) < dN L
    · rw [if_pos hl] at h; cases h
    rw [if_neg hl] at h
    by_cases hk : ((dEnd L).1.1 && rightL (dM L) (dEnd L).2) = true
    · simp only [Bool.and_eq_true] at hk
      have hd' : dHead L = false := by simpa using hd
      refine ⟨by omega, ?_, by omega, h12, hd', ha, hk.1, hk.2⟩
      simp only [dHead, Bool.or_eq_false_iff, decide_eq_false_iff_not] at hd'
      omega
    · rw [if_neg hk] at h; cases h
  · rw [if_neg ha] at h; cases h
abbrev CommL := Int × List FileL
def allP : Nat → List (List UInt8) → List CommL
  | 0, _ => []
  | k + 1, L => if dErr L = 0 then (dM L, (dEnd L).2) :: allP k (L.drop (dN L).toNat) else []
def allL (L : List (List UInt8)) : List CommL := allP L.length L
theorem dErr_nil {L : List (List UInt8)} (h : L.length = 0) : dErr L = 42 := by rw [dErr, if_pos h]
theorem allP_more : ∀ (n : Nat) (L : List (List UInt8)), L.length ≤ n → allP n L = allL L
  | 0, L, h => by rw [allL, Nat.le_zero.1 h]
  | n + 1, L, h => by
    by_cases hE : dErr L = 0
    · obtain ⟨h1, h2, h3, _⟩ := dErr_zero hE
      obtain ⟨m, hm⟩ : ∃ m, L.length = m + 1 := ⟨L.length - 1, by omega⟩
      have hd : (L.drop (dN L).toNat).length ≤ m := by rw [List.length_drop]; omega
      rw [allL, hm]
      simp only [allP, if_pos hE]
      rw [allP_more n _ (by omega)]
      by_cases he : m = n
      · rw [he, allP_more n _ (by omega)]
      · have : m < n := by omega
        rw [allP_more m _ hd]
    · have e : ∀ k, allP k L = [] := fun k => by
        cases k with
        | zero => rfl
        | succ k => simp only [allP, if_neg hE]
      rw [allL, e, e]
theorem allL_step {L : List (List UInt8)} (h : dErr L = 0) : allL L = (dM L, (dEnd L).2) :: allL (L.drop (dN L).toNat) := by
  obtain ⟨h1, h2, h3, _⟩ := dErr_zero h
  obtain ⟨m, hm⟩ : ∃ m, L.length = m + 1 := ⟨L.length - 1, by omega⟩
  rw [allL, hm]
  simp only [allP, if_pos h]
  rw [allP_more m _ (by rw [List.length_drop]; omega)]
theorem allL_stop {L : List (List UInt8)} (h : ¬ dErr L = 0) : allL L = [] := by
  rw [allL]
  cases L.length with
  | zero => rfl
  | succ k => simp only [allP, if_neg h]
def cmD (c : CommL) : List D := [.int .i64 c.1, .slice none 3 (fdrow c.2)]
def cmrow (l : List CommL) : List (List D) := l.map cmD
theorem cmrow_len (l : List CommL) : (cmrow l).length = l.length := by simp [cmrow]
theorem RecsOk.drop {es : List (List D)} (h : RecsOk es) (a : Nat) : RecsOk (es.drop a) :=
  ⟨fun r hr => h.1 r (List.mem_of_mem_drop hr), by rw [List.length_drop]; have := h.2.1; omega, fun r hr => h.2.2 r (List.mem_of_mem_drop hr)⟩
theorem rowsB_drop (es : List (List D)) (a : Nat) : rowsB (es.drop a) = (rowsB es).drop a := by simp [rowsB]
def allF : List AV → Option (AVal × Prop)
  | [.s (.d (.slice z e es))] => some (.one (dv (.slice none 2 (cmrow (allL (rowsB es))))), (es = [] ∨ e = 1) ∧ RecsOk es)
  | _ => none
def kn16 : List (Nat × Cont) := [(14, pureK decF)]
theorem kn16_ok : ∀ p ∈ kn16, ContOk Try.prog p.1 p.2 := by
  intro p hp
  simp only [kn16, List.mem_cons, List.not_mem_nil, or_false] at hp
  rcases hp with rfl
  · exact decF_ok
theorem allF_ok : ContOk Try.prog 16 (pureK allF) := by
  refine pure_ok (nargs := 1) Try.func16 rfl (by kernel_rfl) (Nat.le_of_ble_eq_true (by kernel_rfl)) ?_
  intro args q hq hob
  unfold allF at hq
  split at hq
  · rename_i z e es
    injection hq with hq
    subst hq
    obtain ⟨h1, h2⟩ : (es = [] ∨ e = 1) ∧ RecsOk es := hob
    have hrl := rowsB_len es
    have h200 := h2.2.1
    refine ⟨rfl, by simp [AV.ids, Sc.ids], by simp [AVal.ids, AV.ids, Sc.ids], by simp, ?_⟩
    refine AWp.seq ?_
    refine AWp.reg (S1 := ?S1) (ob := ?o1) (S' := ?K1) tab_ok (knowL_ok kn16_ok) mixed [0] ?r1 ?h1 ?k1 ?w1
    case r1 => simp only [go_sem, kn16, decF, decV_tup, Try.ntmps16, reduceIte, reduceCtorEq, Nat.reduceAdd, Nat.reduceEqDiff, Nat.reduceLT, Nat.reduceLeDiff, Nat.reduceSub, Nat.reduceMul, Nat.reduceBEq, Int.reduceToNat, Int.reduceLE, Int.reduceLT, Int.reducePow]; rfl
    case h1 => first | exact True.intro | omega | (simp only [go_sem, kn16, decF, decV_tup, Try.ntmps16, reduceIte, reduceCtorEq, Nat.reduceAdd, Nat.reduceEqDiff, Nat.reduceLT, Nat.reduceLeDiff, Nat.reduceSub, Nat.reduceMul, Nat.reduceBEq, Int.reduceToNat, Int.reduceLE, Int.reduceLT, Int.reducePow]; done) | (simp only [go_sem, kn16, decF, decV_tup, Try.ntmps16, reduceIte, reduceCtorEq, Nat.reduceAdd, Nat.reduceEqDiff, Nat.reduceLT, Nat.reduceLeDiff, Nat.reduceSub, Nat.reduceMul, Nat.reduceBEq, Int.reduceToNat, Int.reduceLE, Int.reduceLT, Int.reducePow]; omega)
    case k1 => simp only [go_sem, kn16, decF, decV_tup, Try.ntmps16, reduceIte, reduceCtorEq, Nat.reduceAdd, Nat.reduceEqDiff, Nat.reduceLT, Nat.reduceLeDiff, Nat.reduceSub, Nat.reduceMul, Nat.reduceBEq, Int.reduceToNat, Int.reduceLE, Int.reduceLT, Int.reducePow]; rfl
    refine AWp.seq ?_
    refine AWp.reg (S1 := ?S2) (ob := ?o2) (S' := ?K2) tab_ok (knowL_ok kn16_ok) mixed [0, 3] ?r2 ?h2 ?k2 ?w2
    case r2 => simp only [go_sem, kn16, decF, decV_tup, Try.ntmps16, reduceIte, reduceCtorEq, Nat.reduceAdd, Nat.reduceEqDiff, Nat.reduceLT, Nat.reduceLeDiff, Nat.reduceSub, Nat.reduceMul, Nat.reduceBEq, Int.reduceToNat, Int.reduceLE, Int.reduceLT, Int.reducePow]; rfl
    case h2 => first | exact True.intro | omega | (simp only [go_sem, kn16, decF, decV_tup, Try.ntmps16, reduceIte, reduceCtorEq, Nat.reduceAdd, Nat.reduceEqDiff, Nat.reduceLT, Nat.reduceLeDiff, Nat.reduceSub, Nat.reduceMul, Nat.reduceBEq, Int.reduceToNat, Int.reduceLE, Int.reduceLT, Int.reducePow]; done) | (simp only [go_sem, kn16, decF, decV_tup, Try.ntmps16, reduceIte, reduceCtorEq, Nat.reduceAdd, Nat.reduceEqDiff, Nat.reduceLT, Nat.reduceLeDiff, Nat.reduceSub, Nat.reduceMul, Nat.reduceBEq, Int.reduceToNat, Int.reduceLE, Int.reduceLT, Int.reducePow]; omega)
    case k2 => simp only [go_sem, kn16, decF, decV_tup, Try.ntmps16, reduceIte, reduceCtorEq, Nat.reduceAdd, Nat.reduceEqDiff, Nat.reduceLT, Nat.reduceLeDiff, Nat.reduceSub, Nat.reduceMul, Nat.reduceBEq, Int.reduceToNat, Int.reduceLE, Int.reduceLT, Int.reducePow]; rfl
    refine AWp.block ?_
    refine AWp.conv (Conv.nilT 3 (e := 2) (ety := 32) rfl rfl) ?_
    refine AWp.conv (Conv.keep [0, 3] [0] (by simp [St.nilT])) ?_
    refine AWp.loop (fun k S => ∃ (a : Nat) (cs : List CommL), a ≤ es.length ∧ k = es.length - a ∧ cs.length ≤ a ∧ cs ++ allL ((rowsB es).drop a) = allL (rowsB es) ∧ S = ⟨[(0, .one (.s (.d (.slice z e (es.drop a))))), (3, .one (.s (.row 0 2 0 cs.length none)))], [(0, .row (cmrow cs) 32)], 1⟩) es.length ?i1 ?n1
    case i1 =>
      exact ⟨0, [], by omega, rfl, by simp, rfl, by simp [St.nilT, St.keep, keepE, lookN, cmrow]⟩
    case n1 =>
      rintro k S ⟨a, cs, ha, rfl, hlen, hE, rfl⟩
      have hO := h2.drop a
      have hL := rowsB_drop es a
      have hsub : es.drop a = [] ∨ e = 1 := by rcases h1 with rfl | h; exact .inl (by simp); exact .inr h
      generalize hD : (rowsB es).drop a = L at *
      refine AWp.block ?_
      refine AWp.seq ?_
      refine AWp.reg (S1 := ?S3) (ob := ?o3) (S' := ?K3) tab_ok (knowL_ok kn16_ok) mixed [0, 3, 4, 5, 6] ?r3 ?h3 ?k3 ?w3
      case r3 => simp only [go_sem, kn16, decF, decV_tup, Try.ntmps16, reduceIte, reduceCtorEq, Nat.reduceAdd, Nat.reduceEqDiff, Nat.reduceLT, Nat.reduceLeDiff, Nat.reduceSub, Nat.reduceMul, Nat.reduceBEq, Int.reduceToNat, Int.reduceLE, Int.reduceLT, Int.reducePow, hL]; rfl
      case h3 =>
        exact ⟨hsub, hO⟩
      case k3 => simp only [go_sem, kn16, decF, decV_tup, Try.ntmps16, reduceIte, reduceCtorEq, Nat.reduceAdd, Nat.reduceEqDiff, Nat.reduceLT, Nat.reduceLeDiff, Nat.reduceSub, Nat.reduceMul, Nat.reduceBEq, Int.reduceToNat, Int.reduceLE, Int.reduceLT, Int.reducePow]; rfl
      refine AWp.seq ?_
      refine AWp.seq ?_
      refine AWp.reg (S1 := ?S4) (ob := ?o4) (S' := ?K4) tab_ok (knowL_ok kn16_ok) mixed [0, 3, 4, 5, 14] ?r4 ?h4 ?k4 ?w4
      case r4 => simp only [go_sem, kn16, decF, decV_tup, Try.ntmps16, reduceIte, reduceCtorEq, Nat.reduceAdd, Nat.reduceEqDiff, Nat.reduceLT, Nat.reduceLeDiff, Nat.reduceSub, Nat.reduceMul, Nat.reduceBEq, Int.reduceToNat, Int.reduceLE, Int.reduceLT, Int.reducePow, hL]; rfl
      case h4 => first | exact True.intro | omega | (simp only [go_sem, kn16, decF, decV_tup, Try.ntmps16, reduceIte, reduceCtorEq, Nat.reduceAdd, Nat.reduceEqDiff, Nat.reduceLT, Nat.reduceLeDiff, Nat.reduceSub, Nat.reduceMul, Nat.reduceBEq, Int.reduceToNat, Int.reduceLE, Int.reduceLT, Int.reducePow]; done) | (simp only [go_sem, kn16, decF, decV_tup, Try.ntmps16, reduceIte, reduceCtorEq, Nat.reduceAdd, Nat.reduceEqDiff, Nat.reduceLT, Nat.reduceLeDiff, Nat.reduceSub, Nat.reduceMul, Nat.reduceBEq, Int.reduceToNat, Int.reduceLE, Int.reduceLT, Int.reducePow]; omega)
      case k4 => simp only [go_sem, kn16, decF, decV_tup, Try.ntmps16, reduceIte, reduceCtorEq, Nat.reduceAdd, Nat.reduceEqDiff, Nat.reduceLT, Nat.reduceLeDiff, Nat.reduceSub, Nat.reduceMul, Nat.reduceBEq, Int.reduceToNat, Int.reduceLE, Int.reduceLT, Int.reducePow]; rfl
      refine AWp.cond (b := ?b5) ?c5 ?t5 ?f5
      case c5 => simp only [go_sem, kn16, decF, decV_tup, Try.ntmps16, reduceIte, reduceCtorEq, Nat.reduceAdd, Nat.reduceEqDiff, Nat.reduceLT, Nat.reduceLeDiff, Nat.reduceSub, Nat.reduceMul, Nat.reduceBEq, Int.reduceToNat, Int.reduceLE, Int.reduceLT, Int.reducePow]; rfl
      case t5 =>
        intro hb1
        have hne : ¬ dErr L = 0 := by simpa using hb1
        refine AWp.seq ?_
        refine AWp.reg (S1 := ?S6) (ob := ?o6) (S' := ?K6) tab_ok (knowL_ok kn16_ok) mixed [2] ?r6 ?h6 ?k6 ?w6
        case r6 => simp only [go_sem, kn16, decF, decV_tup, Try.ntmps16, reduceIte, reduceCtorEq, Nat.reduceAdd, Nat.reduceEqDiff, Nat.reduceLT, Nat.reduceLeDiff, Nat.reduceSub, Nat.reduceMul, Nat.reduceBEq, Int.reduceToNat, Int.reduceLE, Int.reduceLT, Int.reducePow, hL]; rfl
        case h6 => first | exact True.intro | omega | (simp only [go_sem, kn16, decF, decV_tup, Try.ntmps16, reduceIte, reduceCtorEq, Nat.reduceAdd, Nat.reduceEqDiff, Nat.reduceLT, Nat.reduceLeDiff, Nat.reduceSub, Nat.reduceMul, Nat.reduceBEq, Int.reduceToNat, Int.reduceLE, Int.reduceLT, Int.reducePow]; done) | (simp only [go_sem, kn16, decF, decV_tup, Try.ntmps16, reduceIte, reduceCtorEq, Nat.reduceAdd, Nat.reduceEqDiff, Nat.reduceLT, Nat.reduceLeDiff, Nat.reduceSub, Nat.reduceMul, Nat.reduceBEq, Int.reduceToNat, Int.reduceLE, Int.reduceLT, Int.reducePow]; omega)
        case k6 => simp only [go_sem, kn16, decF, decV_tup, Try.ntmps16, reduceIte, reduceCtorEq, Nat.reduceAdd, Nat.reduceEqDiff, Nat.reduceLT, Nat.reduceLeDiff, Nat.reduceSub, Nat.reduceMul, Nat.reduceBEq, Int.reduceToNat, Int.reduceLE, Int.reduceLT, Int.reducePow]; rfl
        refine AWp.ret ?_
        refine ends_p (vs := ?vs1) (ob := ?ro1) (vs' := ?ws1) (ks := ?ks1) (ob2 := ?rp1) tab_ok (by simp) ?er1 ?eo1 ?ef1 ?eg1 ?en1 ?ek1 ?ev1
        case er1 => simp only [go_sem, kn16, decF, decV_tup, Try.ntmps16, reduceIte, reduceCtorEq, Nat.reduceAdd, Nat.reduceEqDiff, Nat.reduceLT, Nat.reduceLeDiff, Nat.reduceSub, Nat.reduceMul, Nat.reduceBEq, Int.reduceToNat, Int.reduceLE, Int.reduceLT, Int.reducePow, Try.results16]; rfl
        case eo1 => first | exact True.intro | simp only [go_sem, kn16, decF, decV_tup, Try.ntmps16, reduceIte, reduceCtorEq, Nat.reduceAdd, Nat.reduceEqDiff, Nat.reduceLT, Nat.reduceLeDiff, Nat.reduceSub, Nat.reduceMul, Nat.reduceBEq, Int.reduceToNat, Int.reduceLE, Int.reduceLT, Int.reducePow]
        case ef1 => simp only [go_sem, kn16, decF, decV_tup, Try.ntmps16, reduceIte, reduceCtorEq, Nat.reduceAdd, Nat.reduceEqDiff, Nat.reduceLT, Nat.reduceLeDiff, Nat.reduceSub, Nat.reduceMul, Nat.reduceBEq, Int.reduceToNat, Int.reduceLE, Int.reduceLT, Int.reducePow]; rfl
        case eg1 => simp [cmrow_len]
        case en1 => simp only [go_sem, kn16, decF, decV_tup, Try.ntmps16, reduceIte, reduceCtorEq, Nat.reduceAdd, Nat.reduceEqDiff, Nat.reduceLT, Nat.reduceLeDiff, Nat.reduceSub, Nat.reduceMul, Nat.reduceBEq, Int.reduceToNat, Int.reduceLE, Int.reduceLT, Int.reducePow]
        case ek1 => simp only [go_sem, kn16, decF, decV_tup, Try.ntmps16, reduceIte, reduceCtorEq, Nat.reduceAdd, Nat.reduceEqDiff, Nat.reduceLT, Nat.reduceLeDiff, Nat.reduceSub, Nat.reduceMul, Nat.reduceBEq, Int.reduceToNat, Int.reduceLE, Int.reduceLT, Int.reducePow]
        case ev1 =>
          rw [← hE, allL_stop hne, List.append_nil]; rfl
      case f5 =>
        intro hb1
        have h0 : dErr L = 0 := by simpa using hb1
        obtain ⟨z1, z2, z3, _⟩ := dErr_zero h0
        have hlen2 : L.length = es.length - a := by rw [← hL, rowsB_len, List.length_drop]
        obtain rfl : e = 1 := hsub.resolve_left (by intro hx; rw [← hL, hx] at z1; simp [rowsB] at z1)
        have hM : dcM L = dM L := if_pos h0
        have hF : dcF L = (dEnd L).2 := if_pos h0
        have hZ : dcZ L = none := if_pos h0
        have hN : dcN L = dN L := if_pos h0
        refine AWp.skip ?_
        refine AWp.seq ?_
        refine AWp.reg (S1 := ?S7) (ob := ?o7) (S' := ?K7) tab_ok (knowL_ok kn16_ok) mixed [0, 3, 5] ?r7 ?h7 ?k7 ?w7
        case r7 => simp only [go_sem, kn16, decF, decV_tup, Try.ntmps16, reduceIte, reduceCtorEq, Nat.reduceAdd, Nat.reduceEqDiff, Nat.reduceLT, Nat.reduceLeDiff, Nat.reduceSub, Nat.reduceMul, Nat.reduceBEq, Int.reduceToNat, Int.reduceLE, Int.reduceLT, Int.reducePow, hL, hM, hF, hZ, hN]; rfl
        case h7 =>
          rw [cmrow_len]
          omega
        case k7 => simp only [go_sem, kn16, decF, decV_tup, Try.ntmps16, reduceIte, reduceCtorEq, Nat.reduceAdd, Nat.reduceEqDiff, Nat.reduceLT, Nat.reduceLeDiff, Nat.reduceSub, Nat.reduceMul, Nat.reduceBEq, Int.reduceToNat, Int.reduceLE, Int.reduceLT, Int.reducePow]; rfl
        refine AWp.reg (S1 := ?S8) (ob := ?o8) (S' := ?K8) tab_ok (knowL_ok kn16_ok) mixed [0, 3] ?r8 ?h8 ?k8 ?w8
        case r8 => simp only [go_sem, kn16, decF, decV_tup, Try.ntmps16, reduceIte, reduceCtorEq, Nat.reduceAdd, Nat.reduceEqDiff, Nat.reduceLT, Nat.reduceLeDiff, Nat.reduceSub, Nat.reduceMul, Nat.reduceBEq, Int.reduceToNat, Int.reduceLE, Int.reduceLT, Int.reducePow, hL, hM, hF, hZ, hN]; rfl
        case h8 =>
          rw [List.length_drop]
          omega
        case k8 => simp only [go_sem, kn16, decF, decV_tup, Try.ntmps16, reduceIte, reduceCtorEq, Nat.reduceAdd, Nat.reduceEqDiff, Nat.reduceLT, Nat.reduceLeDiff, Nat.reduceSub, Nat.reduceMul, Nat.reduceBEq, Int.reduceToNat, Int.reduceLE, Int.reduceLT, Int.reducePow]; rfl
        refine ⟨es.length - (a + (dN L).toNat), ⟨[(0, .one (.s (.d (.slice z 1 (es.drop (a + (dN L).toNat)))))), (3, .one (.s (.row 0 2 0 (cs ++ [(dM L, (dEnd L).2)]).length none)))], [(0, .row (cmrow (cs ++ [(dM L, (dEnd L).2)])) 32)], 1⟩, by omega, ?_, _, _, by omega, rfl, by rw [List.length_append]; simp only [List.length_cons, List.length_nil]; omega, by rw [← List.drop_drop, hD, List.append_assoc, ← hE, allL_step h0]; rfl, rfl⟩
        rw [← List.drop_drop]
        exact (Conv.keep [0, 3] [3] (by simp)).trans (Conv.rename (fun j => if j = 0 then 3 else j) (by simp; done) (by simp; done) (by simp [-List.drop_drop, St.keep, keepE, lookN, AVal.ren, AV.ren, Sc.ren, AVal.ids, AV.ids, Sc.ids, cmrow_len]; done) (by simp [St.keep, keepE, lookN, AObj.ren, AObj.ids, Sc.ids, Sc.ren, cmrow, cmD]; done) (by simp; done))
  · cases hq

def rAllF : List AV → Option (AVal × Prop)
  | [.s (.d (.slice z e es))] => some (.one (dv (.slice none 2 (cmrow (allL (rowsB es))))), (es = [] ∨ e = 1) ∧ RecsOk es)
  | _ => none
def kn17 : List (Nat × Cont) := [(15, pureK rDecF)]
theorem kn17_ok : ∀ p ∈ kn17, ContOk Try.prog p.1 p.2 := by
  intro p hp
  simp only [kn17, List.mem_cons, List.not_mem_nil, or_false] at hp
  rcases hp with rfl
  · exact rDecF_ok
theorem rAllF_ok : ContOk Try.prog 17 (pureK rAllF) := by
  refine pure_ok (nargs := 1) Try.func17 rfl (by kernel_rfl) (Nat.le_of_ble_eq_true (by kernel_rfl)) ?_
  intro args q hq hob
  unfold rAllF at hq
  split at hq
  · rename_i z e es
    injection hq with hq
    subst hq
    obtain ⟨h1, h2⟩ : (es = [] ∨ e = 1) ∧ RecsOk es := hob
    have hrl := rowsB_len es
    have h200 := h2.2.1
    refine ⟨rfl, by simp [AV.ids, Sc.ids], by simp [AVal.ids, AV.ids, Sc.ids], by simp, ?_⟩
    refine AWp.seq ?_
    refine AWp.reg (S1 := ?S1) (ob := ?o1) (S' := ?K1) tab_ok (knowL_ok kn17_ok) mixed [0] ?r1 ?h1 ?k1 ?w1
    case r1 => simp only [go_sem, kn17, rDecF, decV_tup, Try.ntmps17, reduceIte, reduceCtorEq, Nat.reduceAdd, Nat.reduceEqDiff, Nat.reduceLT, Nat.reduceLeDiff, Nat.reduceSub, Nat.reduceMul, Nat.reduceBEq, Int.reduceToNat, Int.reduceLE, Int.reduceLT, Int.reducePow]; rfl
    case h1 => first | exact True.intro | omega | (simp only [go_sem, kn17, rDecF, decV_tup, Try.ntmps17, reduceIte, reduceCtorEq, Nat.reduceAdd, Nat.reduceEqDiff, Nat.reduceLT, Nat.reduceLeDiff, Nat.reduceSub, Nat.reduceMul, Nat.reduceBEq, Int.reduceToNat, Int.reduceLE, Int.reduceLT, Int.reducePow]; done) | (simp only [go_sem, kn17, rDecF, decV_tup, Try.ntmps17, reduceIte, reduceCtorEq, Nat.reduceAdd, Nat.reduceEqDiff, Nat.reduceLT, Nat.reduceLeDiff, Nat.reduceSub, Nat.reduceMul, Nat.reduceBEq, Int.reduceToNat, Int.reduceLE, Int.reduceLT, Int.reducePow]; omega)
    case k1 => simp only [go_sem, kn17, rDecF, decV_tup, Try.ntmps17, reduceIte, reduceCtorEq, Nat.reduceAdd, Nat.reduceEqDiff, Nat.reduceLT, Nat.reduceLeDiff, Nat.reduceSub, Nat.reduceMul, Nat.reduceBEq, Int.reduceToNat, Int.reduceLE, Int.reduceLT, Int.reducePow]; rfl
    refine AWp.seq ?_
    refine AWp.reg (S1 := ?S2) (ob := ?o2) (S' := ?K2) tab_ok (knowL_ok kn17_ok) mixed [0, 3] ?r2 ?h2 ?k2 ?w2
    case r2 => simp only [go_sem, kn17, rDecF, decV_tup, Try.ntmps17, reduceIte, reduceCtorEq, Nat.reduceAdd, Nat.reduceEqDiff, Nat.reduceLT, Nat.reduceLeDiff, Nat.reduceSub, Nat.reduceMul, Nat.reduceBEq, Int.reduceToNat, Int.reduceLE, Int.reduceLT, Int.reducePow]; rfl
    case h2 => first | exact True.intro | omega | (simp only [go_sem, kn17, rDecF, decV_tup, Try.ntmps17, reduceIte, reduceCtorEq, Nat.reduceAdd, Nat.reduceEqDiff, Nat.reduceLT, Nat.reduceLeDiff, Nat.reduceSub, Nat.reduceMul, Nat.reduceBEq, Int.reduceToNat, Int.reduceLE, Int.reduceLT, Int.reducePow]; done) | (simp only [go_sem, kn17, rDecF, decV_tup, Try.ntmps17, reduceIte, reduceCtorEq, Nat.reduceAdd, Nat.reduceEqDiff, Nat.reduceLT, Nat.reduceLeDiff, Nat.reduceSub, Nat.reduceMul, Nat.reduceBEq, Int.reduceToNat, Int.reduceLE, Int.reduceLT, Int.reducePow]; omega)
    case k2 => simp only [go_sem, kn17, rDecF, decV_tup, Try.ntmps17, reduceIte, reduceCtorEq, Nat.reduceAdd, Nat.reduceEqDiff, Nat.reduceLT, Nat.reduceLeDiff, Nat.reduceSub, Nat.reduceMul, Nat.reduceBEq, Int.reduceToNat, Int.reduceLE, Int.reduceLT, Int.reducePow]; rfl
    refine AWp.seq ?_
    refine AWp.block ?_
    refine AWp.conv (Conv.nilT 3 (e := 2) (ety := 34) rfl rfl) ?_
    refine AWp.conv (Conv.keep [0, 3] [0] (by simp [St.nilT])) ?_
    refine AWp.loop (fun k S => ∃ (a : Nat) (cs : List CommL), a ≤ es.length ∧ k = es.length - a ∧ cs.length ≤ a ∧ cs ++ allL ((rowsB es).drop a) = allL (rowsB es) ∧ S = ⟨[(0, .one (.s (.d (.slice z e (es.drop a))))), (3, .one (.s (.row 0 2 0 cs.length none)))], [(0, .row (cmrow cs) 34)], 1⟩) es.length ?i1 ?n1
    case i1 =>
      exact ⟨0, [], by omega, rfl, by simp, rfl, by simp [St.nilT, St.keep, keepE, lookN, cmrow]⟩
    case n1 =>
      rintro k S ⟨a, cs, ha, rfl, hlen, hE, rfl⟩
      have hO := h2.drop a
      have hL := rowsB_drop es a
      have hsub : es.drop a = [] ∨ e = 1 := by rcases h1 with rfl | h; exact .inl (by simp); exact .inr h
      generalize hD : (rowsB es).drop a = L at *
      refine AWp.seq ?_
      refine AWp.seq ?_
      refine AWp.reg (S1 := ?S3) (ob := ?o3) (S' := ?K3) tab_ok (knowL_ok kn17_ok) mixed [0, 3, 9] ?r3 ?h3 ?k3 ?w3
      case r3 => simp only [go_sem, kn17, rDecF, decV_tup, Try.ntmps17, reduceIte, reduceCtorEq, Nat.reduceAdd, Nat.reduceEqDiff, Nat.reduceLT, Nat.reduceLeDiff, Nat.reduceSub, Nat.reduceMul, Nat.reduceBEq, Int.reduceToNat, Int.reduceLE, Int.reduceLT, Int.reducePow, hL]; rfl
      case h3 => first | exact True.intro | omega | (simp only [go_sem, kn17, rDecF, decV_tup, Try.ntmps17, reduceIte, reduceCtorEq, Nat.reduceAdd, Nat.reduceEqDiff, Nat.reduceLT, Nat.reduceLeDiff, Nat.reduceSub, Nat.reduceMul, Nat.reduceBEq, Int.reduceToNat, Int.reduceLE, Int.reduceLT, Int.reducePow]; done) | (simp only [go_sem, kn17, rDecF, decV_tup, Try.ntmps17, reduceIte, reduceCtorEq, Nat.reduceAdd, Nat.reduceEqDiff, Nat.reduceLT, Nat.reduceLeDiff, Nat.reduceSub, Nat.reduceMul, Nat.reduceBEq, Int.reduceToNat, Int.reduceLE, Int.reduceLT, Int.reducePow]; omega)
      case k3 => simp only [go_sem, kn17, rDecF, decV_tup, Try.ntmps17, reduceIte, reduceCtorEq, Nat.reduceAdd, Nat.reduceEqDiff, Nat.reduceLT, Nat.reduceLeDiff, Nat.reduceSub, Nat.reduceMul, Nat.reduceBEq, Int.reduceToNat, Int.reduceLE, Int.reduceLT, Int.reducePow]; rfl
      refine AWp.cond (b := ?b4) ?c4 ?t4 ?f4
      case c4 => simp only [go_sem, kn17, rDecF, decV_tup, Try.ntmps17, reduceIte, reduceCtorEq, Nat.reduceAdd, Nat.reduceEqDiff, Nat.reduceLT, Nat.reduceLeDiff, Nat.reduceSub, Nat.reduceMul, Nat.reduceBEq, Int.reduceToNat, Int.reduceLE, Int.reduceLT, Int.reducePow]; rfl
      case t4 =>
        intro hb1
        have hpos : 0 < L.length := by simp only [decide_eq_true_eq] at hb1; rw [← hL, rowsB_len]; omega
        refine AWp.skip ?_
        refine AWp.block ?_
        refine AWp.seq ?_
        refine AWp.reg (S1 := ?S5) (ob := ?o5) (S' := ?K5) tab_ok (knowL_ok kn17_ok) mixed [0, 3, 4, 5, 6] ?r5 ?h5 ?k5 ?w5
        case r5 => simp only [go_sem, kn17, rDecF, decV_tup, Try.ntmps17, reduceIte, reduceCtorEq, Nat.reduceAdd, Nat.reduceEqDiff, Nat.reduceLT, Nat.reduceLeDiff, Nat.reduceSub, Nat.reduceMul, Nat.reduceBEq, Int.reduceToNat, Int.reduceLE, Int.reduceLT, Int.reducePow, hL]; rfl
        case h5 =>
          exact ⟨hsub, hO⟩
        case k5 => simp only [go_sem, kn17, rDecF, decV_tup, Try.ntmps17, reduceIte, reduceCtorEq, Nat.reduceAdd, Nat.reduceEqDiff, Nat.reduceLT, Nat.reduceLeDiff, Nat.reduceSub, Nat.reduceMul, Nat.reduceBEq, Int.reduceToNat, Int.reduceLE, Int.reduceLT, Int.reducePow]; rfl
        refine AWp.seq ?_
        refine AWp.seq ?_
        refine AWp.reg (S1 := ?S6) (ob := ?o6) (S' := ?K6) tab_ok (knowL_ok kn17_ok) mixed [0, 3, 4, 5, 17] ?r6 ?h6 ?k6 ?w6
        case r6 => simp only [go_sem, kn17, rDecF, decV_tup, Try.ntmps17, reduceIte, reduceCtorEq, Nat.reduceAdd, Nat.reduceEqDiff, Nat.reduceLT, Nat.reduceLeDiff, Nat.reduceSub, Nat.reduceMul, Nat.reduceBEq, Int.reduceToNat, Int.reduceLE, Int.reduceLT, Int.reducePow, hL]; rfl
        case h6 => first | exact True.intro | omega | (simp only [go_sem, kn17, rDecF, decV_tup, Try.ntmps17, reduceIte, reduceCtorEq, Nat.reduceAdd, Nat.reduceEqDiff, Nat.reduceLT, Nat.reduceLeDiff, Nat.reduceSub, Nat.reduceMul, Nat.reduceBEq, Int.reduceToNat, Int.reduceLE, Int.reduceLT, Int.reducePow]; done) | (simp only [go_sem, kn17, rDecF, decV_tup, Try.ntmps17, reduceIte, reduceCtorEq, Nat.reduceAdd, Nat.reduceEqDiff, Nat.reduceLT, Nat.reduceLeDiff, Nat.reduceSub, Nat.reduceMul, Nat.reduceBEq, Int.reduceToNat, Int.reduceLE, Int.reduceLT, Int.reducePow]; omega)
        case k6 => simp only [go_sem, kn17, rDecF, decV_tup, Try.ntmps17, reduceIte, reduceCtorEq, Nat.reduceAdd, Nat.reduceEqDiff, Nat.reduceLT, Nat.reduceLeDiff, Nat.reduceSub, Nat.reduceMul, Nat.reduceBEq, Int.reduceToNat, Int.reduceLE, Int.reduceLT, Int.reducePow]; rfl
        refine AWp.cond (b := ?b7) ?c7 ?t7 ?f7
        case c7 => simp only [go_sem, kn17, rDecF, decV_tup, Try.ntmps17, reduceIte, reduceCtorEq, Nat.reduceAdd, Nat.reduceEqDiff, Nat.reduceLT, Nat.reduceLeDiff, Nat.reduceSub, Nat.reduceMul, Nat.reduceBEq, Int.reduceToNat, Int.reduceLE, Int.reduceLT, Int.reducePow]; rfl
        case t7 =>
          intro hb2
          have hne : ¬ dErr L = 0 := by simpa using hb2
          refine AWp.exit ?_
          refine thenA_exit ?_
          refine inB_ne rfl ?_
          refine thenA_exit ?_
          refine inB_eq ?_
          refine AWp.seq ?_
          refine AWp.reg (S1 := ?S8) (ob := ?o8) (S' := ?K8) tab_ok (knowL_ok kn17_ok) mixed [2] ?r8 ?h8 ?k8 ?w8
          case r8 => simp only [go_sem, kn17, rDecF, decV_tup, Try.ntmps17, reduceIte, reduceCtorEq, Nat.reduceAdd, Nat.reduceEqDiff, Nat.reduceLT, Nat.reduceLeDiff, Nat.reduceSub, Nat.reduceMul, Nat.reduceBEq, Int.reduceToNat, Int.reduceLE, Int.reduceLT, Int.reducePow]; rfl
          case h8 => first | exact True.intro | omega | (simp only [go_sem, kn17, rDecF, decV_tup, Try.ntmps17, reduceIte, reduceCtorEq, Nat.reduceAdd, Nat.reduceEqDiff, Nat.reduceLT, Nat.reduceLeDiff, Nat.reduceSub, Nat.reduceMul, Nat.reduceBEq, Int.reduceToNat, Int.reduceLE, Int.reduceLT, Int.reducePow]; done) | (simp only [go_sem, kn17, rDecF, decV_tup, Try.ntmps17, reduceIte, reduceCtorEq, Nat.reduceAdd, Nat.reduceEqDiff, Nat.reduceLT, Nat.reduceLeDiff, Nat.reduceSub, Nat.reduceMul, Nat.reduceBEq, Int.reduceToNat, Int.reduceLE, Int.reduceLT, Int.reducePow]; omega)
          case k8 => simp only [go_sem, kn17, rDecF, decV_tup, Try.ntmps17, reduceIte, reduceCtorEq, Nat.reduceAdd, Nat.reduceEqDiff, Nat.reduceLT, Nat.reduceLeDiff, Nat.reduceSub, Nat.reduceMul, Nat.reduceBEq, Int.reduceToNat, Int.reduceLE, Int.reduceLT, Int.reducePow]; rfl
          refine AWp.ret ?_
          refine ends_p (vs := ?vs1) (ob := ?ro1) (vs' := ?ws1) (ks := ?ks1) (ob2 := ?rp1) tab_ok (by simp) ?er1 ?eo1 ?ef1 ?eg1 ?en1 ?ek1 ?ev1
          case er1 => simp only [go_sem, kn17, rDecF, decV_tup, Try.ntmps17, reduceIte, reduceCtorEq, Nat.reduceAdd, Nat.reduceEqDiff, Nat.reduceLT, Nat.reduceLeDiff, Nat.reduceSub, Nat.reduceMul, Nat.reduceBEq, Int.reduceToNat, Int.reduceLE, Int.reduceLT, Int.reducePow, Try.results17]; rfl
          case eo1 => first | exact True.intro | simp only [go_sem, kn17, rDecF, decV_tup, Try.ntmps17, reduceIte, reduceCtorEq, Nat.reduceAdd, Nat.reduceEqDiff, Nat.reduceLT, Nat.reduceLeDiff, Nat.reduceSub, Nat.reduceMul, Nat.reduceBEq, Int.reduceToNat, Int.reduceLE, Int.reduceLT, Int.reducePow]
          case ef1 => simp only [go_sem, kn17, rDecF, decV_tup, Try.ntmps17, reduceIte, reduceCtorEq, Nat.reduceAdd, Nat.reduceEqDiff, Nat.reduceLT, Nat.reduceLeDiff, Nat.reduceSub, Nat.reduceMul, Nat.reduceBEq, Int.reduceToNat, Int.reduceLE, Int.reduceLT, Int.reducePow]; rfl
          case eg1 => simp [cmrow_len]
          case en1 => simp only [go_sem, kn17, rDecF, decV_tup, Try.ntmps17, reduceIte, reduceCtorEq, Nat.reduceAdd, Nat.reduceEqDiff, Nat.reduceLT, Nat.reduceLeDiff, Nat.reduceSub, Nat.reduceMul, Nat.reduceBEq, Int.reduceToNat, Int.reduceLE, Int.reduceLT, Int.reducePow]
          case ek1 => simp only [go_sem, kn17, rDecF, decV_tup, Try.ntmps17, reduceIte, reduceCtorEq, Nat.reduceAdd, Nat.reduceEqDiff, Nat.reduceLT, Nat.reduceLeDiff, Nat.reduceSub, Nat.reduceMul, Nat.reduceBEq, Int.reduceToNat, Int.reduceLE, Int.reduceLT, Int.reducePow]
          case ev1 =>
            rw [← hE, allL_stop hne, List.append_nil]; rfl
        case f7 =>
          intro hb2
          have h0 : dErr L = 0 := by simpa using hb2
          obtain ⟨z1, z2, z3, _⟩ := dErr_zero h0
          have hlen2 : L.length = es.length - a := by rw [← hL, rowsB_len, List.length_drop]
          obtain rfl : e = 1 := hsub.resolve_left (by intro hx; rw [← hL, hx] at z1; simp [rowsB] at z1)
          have hM : dcM L = dM L := if_pos h0
          have hF : dcF L = (dEnd L).2 := if_pos h0
          have hZ : dcZ L = none := if_pos h0
          have hN : dcN L = dN L := if_pos h0
          refine AWp.skip ?_
          refine AWp.seq ?_
          refine AWp.reg (S1 := ?S9) (ob := ?o9) (S' := ?K9) tab_ok (knowL_ok kn17_ok) mixed [0, 3, 5] ?r9 ?h9 ?k9 ?w9
          case r9 => simp only [go_sem, kn17, rDecF, decV_tup, Try.ntmps17, reduceIte, reduceCtorEq, Nat.reduceAdd, Nat.reduceEqDiff, Nat.reduceLT, Nat.reduceLeDiff, Nat.reduceSub, Nat.reduceMul, Nat.reduceBEq, Int.reduceToNat, Int.reduceLE, Int.reduceLT, Int.reducePow, hL, hM, hF, hZ, hN]; rfl
          case h9 =>
            rw [cmrow_len]
            omega
          case k9 => simp only [go_sem, kn17, rDecF, decV_tup, Try.ntmps17, reduceIte, reduceCtorEq, Nat.reduceAdd, Nat.reduceEqDiff, Nat.reduceLT, Nat.reduceLeDiff, Nat.reduceSub, Nat.reduceMul, Nat.reduceBEq, Int.reduceToNat, Int.reduceLE, Int.reduceLT, Int.reducePow]; rfl
          refine AWp.reg (S1 := ?S10) (ob := ?o10) (S' := ?K10) tab_ok (knowL_ok kn17_ok) mixed [0, 3] ?r10 ?h10 ?k10 ?w10
          case r10 => simp only [go_sem, kn17, rDecF, decV_tup, Try.ntmps17, reduceIte, reduceCtorEq, Nat.reduceAdd, Nat.reduceEqDiff, Nat.reduceLT, Nat.reduceLeDiff, Nat.reduceSub, Nat.reduceMul, Nat.reduceBEq, Int.reduceToNat, Int.reduceLE, Int.reduceLT, Int.reducePow, hL, hM, hF, hZ, hN]; rfl
          case h10 =>
            rw [List.length_drop]
            omega
          case k10 => simp only [go_sem, kn17, rDecF, decV_tup, Try.ntmps17, reduceIte, reduceCtorEq, Nat.reduceAdd, Nat.reduceEqDiff, Nat.reduceLT, Nat.reduceLeDiff, Nat.reduceSub, Nat.reduceMul, Nat.reduceBEq, Int.reduceToNat, Int.reduceLE, Int.reduceLT, Int.reducePow]; rfl
          refine ⟨es.length - (a + (dN L).toNat), ⟨[(0, .one (.s (.d (.slice z 1 (es.drop (a + (dN L).toNat)))))), (3, .one (.s (.row 0 2 0 (cs ++ [(dM L, (dEnd L).2)]).length none)))], [(0, .row (cmrow (cs ++ [(dM L, (dEnd L).2)])) 34)], 1⟩, by omega, ?_, _, _, by omega, rfl, by rw [List.length_append]; simp only [List.length_cons, List.length_nil]; omega, by rw [← List.drop_drop, hD, List.append_assoc, ← hE, allL_step h0]; rfl, rfl⟩
          rw [← List.drop_drop]
          exact (Conv.keep [0, 3] [3] (by simp)).trans (Conv.rename (fun j => if j = 0 then 3 else j) (by simp; done) (by simp; done) (by simp [-List.drop_drop, St.keep, keepE, lookN, AVal.ren, AV.ren, Sc.ren, AVal.ids, AV.ids, Sc.ids, cmrow_len]; done) (by simp [St.keep, keepE, lookN, AObj.ren, AObj.ids, Sc.ids, Sc.ren, cmrow, cmD]; done) (by simp; done))
      case f4 =>
        intro hb1
        have hnil : L.length = 0 := by simp only [decide_eq_false_iff_not] at hb1; rw [← hL, rowsB_len]; omega
        have hne : ¬ dErr L = 0 := by rw [dErr_nil hnil]; decide
        refine AWp.exit ?_
        refine thenA_exit ?_
        refine thenA_exit ?_
        refine inB_eq ?_
        refine AWp.seq ?_
        refine AWp.reg (S1 := ?S11) (ob := ?o11) (S' := ?K11) tab_ok (knowL_ok kn17_ok) mixed [2] ?r11 ?h11 ?k11 ?w11
        case r11 => simp only [go_sem, kn17, rDecF, decV_tup, Try.ntmps17, reduceIte, reduceCtorEq, Nat.reduceAdd, Nat.reduceEqDiff, Nat.reduceLT, Nat.reduceLeDiff, Nat.reduceSub, Nat.reduceMul, Nat.reduceBEq, Int.reduceToNat, Int.reduceLE, Int.reduceLT, Int.reducePow]; rfl
        case h11 => first | exact True.intro | omega | (simp only [go_sem, kn17, rDecF, decV_tup, Try.ntmps17, reduceIte, reduceCtorEq, Nat.reduceAdd, Nat.reduceEqDiff, Nat.reduceLT, Nat.reduceLeDiff, Nat.reduceSub, Nat.reduceMul, Nat.reduceBEq, Int.reduceToNat, Int.reduceLE, Int.reduceLT, Int.reducePow]; done) | (simp only [go_sem, kn17, rDecF, decV_tup, Try.ntmps17, reduceIte, reduceCtorEq, Nat.reduceAdd, Nat.reduceEqDiff, Nat.reduceLT, Nat.reduceLeDiff, Nat.reduceSub, Nat.reduceMul, Nat.reduceBEq, Int.reduceToNat, Int.reduceLE, Int.reduceLT, Int.reducePow]; omega)
        case k11 => simp only [go_sem, kn17, rDecF, decV_tup, Try.ntmps17, reduceIte, reduceCtorEq, Nat.reduceAdd, Nat.reduceEqDiff, Nat.reduceLT, Nat.reduceLeDiff, Nat.reduceSub, Nat.reduceMul, Nat.reduceBEq, Int.reduceToNat, Int.reduceLE, Int.reduceLT, Int.reducePow]; rfl
        refine AWp.ret ?_
        refine ends_p (vs := ?vs2) (ob := ?ro2) (vs' := ?ws2) (ks := ?ks2) (ob2 := ?rp2) tab_ok (by simp) ?er2 ?eo2 ?ef2 ?eg2 ?en2 ?ek2 ?ev2
        case er2 => simp only [go_sem, kn17, rDecF, decV_tup, Try.ntmps17, reduceIte, reduceCtorEq, Nat.reduceAdd, Nat.reduceEqDiff, Nat.reduceLT, Nat.reduceLeDiff, Nat.reduceSub, Nat.reduceMul, Nat.reduceBEq, Int.reduceToNat, Int.reduceLE, Int.reduceLT, Int.reducePow, Try.results17]; rfl
        case eo2 => first | exact True.intro | simp only [go_sem, kn17, rDecF, decV_tup, Try.ntmps17, reduceIte, reduceCtorEq, Nat.reduceAdd, Nat.reduceEqDiff, Nat.reduceLT, Nat.reduceLeDiff, Nat.reduceSub, Nat.reduceMul, Nat.reduceBEq, Int.reduceToNat, Int.reduceLE, Int.reduceLT, Int.reducePow]
        case ef2 => simp only [go_sem, kn17, rDecF, decV_tup, Try.ntmps17, reduceIte, reduceCtorEq, Nat.reduceAdd, Nat.reduceEqDiff, Nat.reduceLT, Nat.reduceLeDiff, Nat.reduceSub, Nat.reduceMul, Nat.reduceBEq, Int.reduceToNat, Int.reduceLE, Int.reduceLT, Int.reducePow]; rfl
        case eg2 => simp [cmrow_len]
        case en2 => simp only [go_sem, kn17, rDecF, decV_tup, Try.ntmps17, reduceIte, reduceCtorEq, Nat.reduceAdd, Nat.reduceEqDiff, Nat.reduceLT, Nat.reduceLeDiff, Nat.reduceSub, Nat.reduceMul, Nat.reduceBEq, Int.reduceToNat, Int.reduceLE, Int.reduceLT, Int.reducePow]
        case ek2 => simp only [go_sem, kn17, rDecF, decV_tup, Try.ntmps17, reduceIte, reduceCtorEq, Nat.reduceAdd, Nat.reduceEqDiff, Nat.reduceLT, Nat.reduceLeDiff, Nat.reduceSub, Nat.reduceMul, Nat.reduceBEq, Int.reduceToNat, Int.reduceLE, Int.reduceLT, Int.reducePow]
        case ev2 =>
          rw [← hE, allL_stop hne, List.append_nil]; rfl
  · cases hq

end Go.Proofs.Hg

set_option linter.unusedSimpArgs false
set_option linter.unusedVariables false
set_option maxHeartbeats 4000000
namespace Go.Proofs.Hg
open Go.RowKit
set_option maxRecDepth 100000
def same4F : List AV → Option (AVal × Prop)
  | [.s (.d (.slice z e es)), .s (.d (.slice z2 e2 fs))] => some (.one (dv (.bool (decide (rowsB es = rowsB fs)))), (es = [] ∨ e = 1) ∧ (fs = [] ∨ e2 = 1) ∧ RowsOk es ∧ RowsOk fs ∧ es.length ≤ 1000000000)
  | _ => none
theorem same4F_ok : ContOk Try.prog 18 (pureK same4F) := by
  refine pure_ok (nargs := 2) Try.func18 rfl (by kernel_rfl) (Nat.le_of_ble_eq_true (by kernel_rfl)) ?_
  intro args q hq hob
  unfold same4F at hq
  split at hq
  · rename_i z e es z2 e2 fs
    injection hq with hq
    subst hq
    obtain ⟨h1, h2, h3, h4, hlen⟩ : (es = [] ∨ e = 1) ∧ (fs = [] ∨ e2 = 1) ∧ RowsOk es ∧ RowsOk fs ∧ es.length ≤ 1000000000 := hob
    have la := rowsB_len es
    have lb := rowsB_len fs
    refine ⟨rfl, by simp [AV.ids, Sc.ids], by simp [AVal.ids, AV.ids, Sc.ids], by simp, ?_⟩
    refine AWp.seq ?_
    refine AWp.reg (S1 := ?S1) (ob := ?o1) (S' := ?K1) tab_ok (noKnow _) mixed [0, 1] ?r1 ?h1 ?k1 ?w1
    case r1 => simp only [go_sem, Try.ntmps18, reduceIte, reduceCtorEq, Nat.reduceAdd, Nat.reduceEqDiff, Nat.reduceLT, Nat.reduceLeDiff, Nat.reduceSub, Nat.reduceMul, Nat.reduceBEq, Int.reduceToNat, Int.reduceLE, Int.reduceLT, Int.reducePow]; rfl
    case h1 => first | exact True.intro | omega | (simp only [go_sem, Try.ntmps18, reduceIte, reduceCtorEq, Nat.reduceAdd, Nat.reduceEqDiff, Nat.reduceLT, Nat.reduceLeDiff, Nat.reduceSub, Nat.reduceMul, Nat.reduceBEq, Int.reduceToNat, Int.reduceLE, Int.reduceLT, Int.reducePow]; done) | (simp only [go_sem, Try.ntmps18, reduceIte, reduceCtorEq, Nat.reduceAdd, Nat.reduceEqDiff, Nat.reduceLT, Nat.reduceLeDiff, Nat.reduceSub, Nat.reduceMul, Nat.reduceBEq, Int.reduceToNat, Int.reduceLE, Int.reduceLT, Int.reducePow]; omega)
    case k1 => simp only [go_sem, Try.ntmps18, reduceIte, reduceCtorEq, Nat.reduceAdd, Nat.reduceEqDiff, Nat.reduceLT, Nat.reduceLeDiff, Nat.reduceSub, Nat.reduceMul, Nat.reduceBEq, Int.reduceToNat, Int.reduceLE, Int.reduceLT, Int.reducePow]; rfl
    refine AWp.seq ?_
    refine AWp.seq ?_
    refine AWp.reg (S1 := ?S2) (ob := ?o2) (S' := ?K2) tab_ok (noKnow _) mixed [0, 1, 10] ?r2 ?h2 ?k2 ?w2
    case r2 => simp only [go_sem, Try.ntmps18, reduceIte, reduceCtorEq, Nat.reduceAdd, Nat.reduceEqDiff, Nat.reduceLT, Nat.reduceLeDiff, Nat.reduceSub, Nat.reduceMul, Nat.reduceBEq, Int.reduceToNat, Int.reduceLE, Int.reduceLT, Int.reducePow]; rfl
    case h2 => first | exact True.intro | omega | (simp only [go_sem, Try.ntmps18, reduceIte, reduceCtorEq, Nat.reduceAdd, Nat.reduceEqDiff, Nat.reduceLT, Nat.reduceLeDiff, Nat.reduceSub, Nat.reduceMul, Nat.reduceBEq, Int.reduceToNat, Int.reduceLE, Int.reduceLT, Int.reducePow]; done) | (simp only [go_sem, Try.ntmps18, reduceIte, reduceCtorEq, Nat.reduceAdd, Nat.reduceEqDiff, Nat.reduceLT, Nat.reduceLeDiff, Nat.reduceSub, Nat.reduceMul, Nat.reduceBEq, Int.reduceToNat, Int.reduceLE, Int.reduceLT, Int.reducePow]; omega)
    case k2 => simp only [go_sem, Try.ntmps18, reduceIte, reduceCtorEq, Nat.reduceAdd, Nat.reduceEqDiff, Nat.reduceLT, Nat.reduceLeDiff, Nat.reduceSub, Nat.reduceMul, Nat.reduceBEq, Int.reduceToNat, Int.reduceLE, Int.reduceLT, Int.reducePow]; rfl
    refine AWp.cond (b := ?b3) ?c3 ?t3 ?f3
    case c3 => simp only [go_sem, Try.ntmps18, reduceIte, reduceCtorEq, Nat.reduceAdd, Nat.reduceEqDiff, Nat.reduceLT, Nat.reduceLeDiff, Nat.reduceSub, Nat.reduceMul, Nat.reduceBEq, Int.reduceToNat, Int.reduceLE, Int.reduceLT, Int.reducePow]; rfl
    case t3 =>
      intro hb1
      have hl : ¬ es.length = fs.length := by simp at hb1; omega
      refine AWp.seq ?_
      refine AWp.reg (S1 := ?S4) (ob := ?o4) (S' := ?K4) tab_ok (noKnow _) mixed [4] ?r4 ?h4 ?k4 ?w4
      case r4 => simp only [go_sem, Try.ntmps18, reduceIte, reduceCtorEq, Nat.reduceAdd, Nat.reduceEqDiff, Nat.reduceLT, Nat.reduceLeDiff, Nat.reduceSub, Nat.reduceMul, Nat.reduceBEq, Int.reduceToNat, Int.reduceLE, Int.reduceLT, Int.reducePow]; rfl
      case h4 => first | exact True.intro | omega | (simp only [go_sem, Try.ntmps18, reduceIte, reduceCtorEq, Nat.reduceAdd, Nat.reduceEqDiff, Nat.reduceLT, Nat.reduceLeDiff, Nat.reduceSub, Nat.reduceMul, Nat.reduceBEq, Int.reduceToNat, Int.reduceLE, Int.reduceLT, Int.reducePow]; done) | (simp only [go_sem, Try.ntmps18, reduceIte, reduceCtorEq, Nat.reduceAdd, Nat.reduceEqDiff, Nat.reduceLT, Nat.reduceLeDiff, Nat.reduceSub, Nat.reduceMul, Nat.reduceBEq, Int.reduceToNat, Int.reduceLE, Int.reduceLT, Int.reducePow]; omega)
      case k4 => simp only [go_sem, Try.ntmps18, reduceIte, reduceCtorEq, Nat.reduceAdd, Nat.reduceEqDiff, Nat.reduceLT, Nat.reduceLeDiff, Nat.reduceSub, Nat.reduceMul, Nat.reduceBEq, Int.reduceToNat, Int.reduceLE, Int.reduceLT, Int.reducePow]; rfl
      refine AWp.ret ?_
      refine ends_p (vs := ?vs1) (ob := ?ro1) (vs' := ?ws1) (ks := ?ks1) (ob2 := ?rp1) tab_ok (by simp) ?er1 ?eo1 ?ef1 ?eg1 ?en1 ?ek1 ?ev1
      case er1 => simp only [go_sem, Try.ntmps18, reduceIte, reduceCtorEq, Nat.reduceAdd, Nat.reduceEqDiff, Nat.reduceLT, Nat.reduceLeDiff, Nat.reduceSub, Nat.reduceMul, Nat.reduceBEq, Int.reduceToNat, Int.reduceLE, Int.reduceLT, Int.reducePow, Try.results18]; rfl
      case eo1 => first | exact True.intro | simp only [go_sem, Try.ntmps18, reduceIte, reduceCtorEq, Nat.reduceAdd, Nat.reduceEqDiff, Nat.reduceLT, Nat.reduceLeDiff, Nat.reduceSub, Nat.reduceMul, Nat.reduceBEq, Int.reduceToNat, Int.reduceLE, Int.reduceLT, Int.reducePow]
      case ef1 => simp only [go_sem, Try.ntmps18, reduceIte, reduceCtorEq, Nat.reduceAdd, Nat.reduceEqDiff, Nat.reduceLT, Nat.reduceLeDiff, Nat.reduceSub, Nat.reduceMul, Nat.reduceBEq, Int.reduceToNat, Int.reduceLE, Int.reduceLT, Int.reducePow]; rfl
      case eg1 => first | exact True.intro | simp only [go_sem, Try.ntmps18, reduceIte, reduceCtorEq, Nat.reduceAdd, Nat.reduceEqDiff, Nat.reduceLT, Nat.reduceLeDiff, Nat.reduceSub, Nat.reduceMul, Nat.reduceBEq, Int.reduceToNat, Int.reduceLE, Int.reduceLT, Int.reducePow]
      case en1 => simp only [go_sem, Try.ntmps18, reduceIte, reduceCtorEq, Nat.reduceAdd, Nat.reduceEqDiff, Nat.reduceLT, Nat.reduceLeDiff, Nat.reduceSub, Nat.reduceMul, Nat.reduceBEq, Int.reduceToNat, Int.reduceLE, Int.reduceLT, Int.reducePow]
      case ek1 => simp only [go_sem, Try.ntmps18, reduceIte, reduceCtorEq, Nat.reduceAdd, Nat.reduceEqDiff, Nat.reduceLT, Nat.reduceLeDiff, Nat.reduceSub, Nat.reduceMul, Nat.reduceBEq, Int.reduceToNat, Int.reduceLE, Int.reduceLT, Int.reducePow]
      case ev1 =>
        show AVal.one (dv (.bool (decide (rowsB es = rowsB fs)))) = .one (dv (.bool false))
        rw [decide_eq_false (fun h => hl (by rw [← la, ← lb, h]))]
    case f3 =>
      intro hb1
      have hl : es.length = fs.length := by simp at hb1; omega
      refine AWp.skip ?_
      refine AWp.seq ?_
      refine AWp.seq ?_
      refine AWp.reg (S1 := ?S5) (ob := ?o5) (S' := ?K5) tab_ok (noKnow _) mixed [0, 1, 5] ?r5 ?h5 ?k5 ?w5
      case r5 => simp only [go_sem, Try.ntmps18, reduceIte, reduceCtorEq, Nat.reduceAdd, Nat.reduceEqDiff, Nat.reduceLT, Nat.reduceLeDiff, Nat.reduceSub, Nat.reduceMul, Nat.reduceBEq, Int.reduceToNat, Int.reduceLE, Int.reduceLT, Int.reducePow]; rfl
      case h5 => first | exact True.intro | omega | (simp only [go_sem, Try.ntmps18, reduceIte, reduceCtorEq, Nat.reduceAdd, Nat.reduceEqDiff, Nat.reduceLT, Nat.reduceLeDiff, Nat.reduceSub, Nat.reduceMul, Nat.reduceBEq, Int.reduceToNat, Int.reduceLE, Int.reduceLT, Int.reducePow]; done) | (simp only [go_sem, Try.ntmps18, reduceIte, reduceCtorEq, Nat.reduceAdd, Nat.reduceEqDiff, Nat.reduceLT, Nat.reduceLeDiff, Nat.reduceSub, Nat.reduceMul, Nat.reduceBEq, Int.reduceToNat, Int.reduceLE, Int.reduceLT, Int.reducePow]; omega)
      case k5 => simp only [go_sem, Try.ntmps18, reduceIte, reduceCtorEq, Nat.reduceAdd, Nat.reduceEqDiff, Nat.reduceLT, Nat.reduceLeDiff, Nat.reduceSub, Nat.reduceMul, Nat.reduceBEq, Int.reduceToNat, Int.reduceLE, Int.reduceLT, Int.reducePow]; rfl
      refine AWp.block ?_
      refine AWp.loop (fun k S => ∃ i : Nat, i ≤ es.length ∧ k = es.length - i ∧ (rowsB es).take i = (rowsB fs).take i ∧ S = ⟨[(0, .one (.s (.d (.slice z e es)))), (1, .one (.s (.d (.slice z2 e2 fs)))), (5, .one (dv (.int .i64 (i : Int))))], [], 0⟩) es.length ?i1 ?n1
      case i1 =>
        exact ⟨0, by omega, rfl, by simp, rfl⟩
      case n1 =>
        rintro k S ⟨i, hi0, rfl, ht, rfl⟩
        refine AWp.seq ?_
        refine AWp.seq ?_
        refine AWp.reg (S1 := ?S6) (ob := ?o6) (S' := ?K6) tab_ok (noKnow _) mixed [0, 1, 5, 14] ?r6 ?h6 ?k6 ?w6
        case r6 => simp only [go_sem, Try.ntmps18, reduceIte, reduceCtorEq, Nat.reduceAdd, Nat.reduceEqDiff, Nat.reduceLT, Nat.reduceLeDiff, Nat.reduceSub, Nat.reduceMul, Nat.reduceBEq, Int.reduceToNat, Int.reduceLE, Int.reduceLT, Int.reducePow]; rfl
        case h6 => first | exact True.intro | omega | (simp only [go_sem, Try.ntmps18, reduceIte, reduceCtorEq, Nat.reduceAdd, Nat.reduceEqDiff, Nat.reduceLT, Nat.reduceLeDiff, Nat.reduceSub, Nat.reduceMul, Nat.reduceBEq, Int.reduceToNat, Int.reduceLE, Int.reduceLT, Int.reducePow]; done) | (simp only [go_sem, Try.ntmps18, reduceIte, reduceCtorEq, Nat.reduceAdd, Nat.reduceEqDiff, Nat.reduceLT, Nat.reduceLeDiff, Nat.reduceSub, Nat.reduceMul, Nat.reduceBEq, Int.reduceToNat, Int.reduceLE, Int.reduceLT, Int.reducePow]; omega)
        case k6 => simp only [go_sem, Try.ntmps18, reduceIte, reduceCtorEq, Nat.reduceAdd, Nat.reduceEqDiff, Nat.reduceLT, Nat.reduceLeDiff, Nat.reduceSub, Nat.reduceMul, Nat.reduceBEq, Int.reduceToNat, Int.reduceLE, Int.reduceLT, Int.reducePow]; rfl
        refine AWp.cond (b := ?b7) ?c7 ?t7 ?f7
        case c7 => simp only [go_sem, Try.ntmps18, reduceIte, reduceCtorEq, Nat.reduceAdd, Nat.reduceEqDiff, Nat.reduceLT, Nat.reduceLeDiff, Nat.reduceSub, Nat.reduceMul, Nat.reduceBEq, Int.reduceToNat, Int.reduceLE, Int.reduceLT, Int.reducePow]; rfl
        case t7 =>
          intro hb2
          have hi : i < es.length := by simp at hb2; omega
          obtain rfl : e = 1 := h1.resolve_left (by rintro rfl; simp at hi)
          obtain rfl : e2 = 1 := h2.resolve_left (by rintro rfl; simp at hl; simp [hl] at hi)
          have hrow1 := h3.get hi [.slice (some true) 1 []]
          have hrow2 := h4.get (i := i) (by omega) [.slice (some true) 1 []]
          refine AWp.skip ?_
          refine AWp.seq ?_
          refine AWp.block ?_
          refine AWp.seq ?_
          refine AWp.drw (S1 := ?S8) (ob := ?o8) (lts := ?t8) (S' := ?K8) tab_ok (noKnow _) mixed [0, 1, 5, 27] ?r8 ?d8 ?h8 ?k8 ?w8
          case r8 => simp only [go_sem, Try.ntmps18, reduceIte, reduceCtorEq, Nat.reduceAdd, Nat.reduceEqDiff, Nat.reduceLT, Nat.reduceLeDiff, Nat.reduceSub, Nat.reduceMul, Nat.reduceBEq, Int.reduceToNat, Int.reduceLE, Int.reduceLT, Int.reducePow, hrow1, hrow2]; rfl
          case d8 => first | kernel_rfl | rfl
          case h8 => first | exact True.intro | omega | (simp only [go_sem, Try.ntmps18, reduceIte, reduceCtorEq, Nat.reduceAdd, Nat.reduceEqDiff, Nat.reduceLT, Nat.reduceLeDiff, Nat.reduceSub, Nat.reduceMul, Nat.reduceBEq, Int.reduceToNat, Int.reduceLE, Int.reduceLT, Int.reducePow]; done) | (simp only [go_sem, Try.ntmps18, reduceIte, reduceCtorEq, Nat.reduceAdd, Nat.reduceEqDiff, Nat.reduceLT, Nat.reduceLeDiff, Nat.reduceSub, Nat.reduceMul, Nat.reduceBEq, Int.reduceToNat, Int.reduceLE, Int.reduceLT, Int.reducePow]; omega)
          case k8 => simp only [go_sem, Try.ntmps18, reduceIte, reduceCtorEq, Nat.reduceAdd, Nat.reduceEqDiff, Nat.reduceLT, Nat.reduceLeDiff, Nat.reduceSub, Nat.reduceMul, Nat.reduceBEq, Int.reduceToNat, Int.reduceLE, Int.reduceLT, Int.reducePow]; rfl
          refine AWp.cond (b := ?b9) ?c9 ?t9 ?f9
          case c9 => simp only [go_sem, Try.ntmps18, reduceIte, reduceCtorEq, Nat.reduceAdd, Nat.reduceEqDiff, Nat.reduceLT, Nat.reduceLeDiff, Nat.reduceSub, Nat.reduceMul, Nat.reduceBEq, Int.reduceToNat, Int.reduceLE, Int.reduceLT, Int.reducePow]; rfl
          case t9 =>
            intro hb3
            refine AWp.seq ?_
            refine AWp.reg (S1 := ?S10) (ob := ?o10) (S' := ?K10) tab_ok (noKnow _) mixed [4] ?r10 ?h10 ?k10 ?w10
            case r10 => simp only [go_sem, Try.ntmps18, reduceIte, reduceCtorEq, Nat.reduceAdd, Nat.reduceEqDiff, Nat.reduceLT, Nat.reduceLeDiff, Nat.reduceSub, Nat.reduceMul, Nat.reduceBEq, Int.reduceToNat, Int.reduceLE, Int.reduceLT, Int.reducePow]; rfl
            case h10 => first | exact True.intro | omega | (simp only [go_sem, Try.ntmps18, reduceIte, reduceCtorEq, Nat.reduceAdd, Nat.reduceEqDiff, Nat.reduceLT, Nat.reduceLeDiff, Nat.reduceSub, Nat.reduceMul, Nat.reduceBEq, Int.reduceToNat, Int.reduceLE, Int.reduceLT, Int.reducePow]; done) | (simp only [go_sem, Try.ntmps18, reduceIte, reduceCtorEq, Nat.reduceAdd, Nat.reduceEqDiff, Nat.reduceLT, Nat.reduceLeDiff, Nat.reduceSub, Nat.reduceMul, Nat.reduceBEq, Int.reduceToNat, Int.reduceLE, Int.reduceLT, Int.reducePow]; omega)
            case k10 => simp only [go_sem, Try.ntmps18, reduceIte, reduceCtorEq, Nat.reduceAdd, Nat.reduceEqDiff, Nat.reduceLT, Nat.reduceLeDiff, Nat.reduceSub, Nat.reduceMul, Nat.reduceBEq, Int.reduceToNat, Int.reduceLE, Int.reduceLT, Int.reducePow]; rfl
            refine AWp.ret ?_
            refine ends_p (vs := ?vs2) (ob := ?ro2) (vs' := ?ws2) (ks := ?ks2) (ob2 := ?rp2) tab_ok (by simp) ?er2 ?eo2 ?ef2 ?eg2 ?en2 ?ek2 ?ev2
            case er2 => simp only [go_sem, Try.ntmps18, reduceIte, reduceCtorEq, Nat.reduceAdd, Nat.reduceEqDiff, Nat.reduceLT, Nat.reduceLeDiff, Nat.reduceSub, Nat.reduceMul, Nat.reduceBEq, Int.reduceToNat, Int.reduceLE, Int.reduceLT, Int.reducePow, Try.results18]; rfl
            case eo2 => first | exact True.intro | simp only [go_sem, Try.ntmps18, reduceIte, reduceCtorEq, Nat.reduceAdd, Nat.reduceEqDiff, Nat.reduceLT, Nat.reduceLeDiff, Nat.reduceSub, Nat.reduceMul, Nat.reduceBEq, Int.reduceToNat, Int.reduceLE, Int.reduceLT, Int.reducePow]
            case ef2 => simp only [go_sem, Try.ntmps18, reduceIte, reduceCtorEq, Nat.reduceAdd, Nat.reduceEqDiff, Nat.reduceLT, Nat.reduceLeDiff, Nat.reduceSub, Nat.reduceMul, Nat.reduceBEq, Int.reduceToNat, Int.reduceLE, Int.reduceLT, Int.reducePow]; rfl
            case eg2 => first | exact True.intro | simp only [go_sem, Try.ntmps18, reduceIte, reduceCtorEq, Nat.reduceAdd, Nat.reduceEqDiff, Nat.reduceLT, Nat.reduceLeDiff, Nat.reduceSub, Nat.reduceMul, Nat.reduceBEq, Int.reduceToNat, Int.reduceLE, Int.reduceLT, Int.reducePow]
            case en2 => simp only [go_sem, Try.ntmps18, reduceIte, reduceCtorEq, Nat.reduceAdd, Nat.reduceEqDiff, Nat.reduceLT, Nat.reduceLeDiff, Nat.reduceSub, Nat.reduceMul, Nat.reduceBEq, Int.reduceToNat, Int.reduceLE, Int.reduceLT, Int.reducePow]
            case ek2 => simp only [go_sem, Try.ntmps18, reduceIte, reduceCtorEq, Nat.reduceAdd, Nat.reduceEqDiff, Nat.reduceLT, Nat.reduceLeDiff, Nat.reduceSub, Nat.reduceMul, Nat.reduceBEq, Int.reduceToNat, Int.reduceLE, Int.reduceLT, Int.reducePow]
            case ev2 =>
              show AVal.one (dv (.bool (decide (rowsB es = rowsB fs)))) = .one (dv (.bool false))
              have he : ¬ rowsB es = rowsB fs := fun h => by rw [h] at hb3; simp at hb3
              rw [decide_eq_false he]
          case f9 =>
            intro hb3
            refine AWp.skip ?_
            refine AWp.reg (S1 := ?S11) (ob := ?o11) (S' := ?K11) tab_ok (noKnow _) mixed [0, 1, 5] ?r11 ?h11 ?k11 ?w11
            case r11 => simp only [go_sem, Try.ntmps18, reduceIte, reduceCtorEq, Nat.reduceAdd, Nat.reduceEqDiff, Nat.reduceLT, Nat.reduceLeDiff, Nat.reduceSub, Nat.reduceMul, Nat.reduceBEq, Int.reduceToNat, Int.reduceLE, Int.reduceLT, Int.reducePow]; rfl
            case h11 => first | exact True.intro | omega | (simp only [go_sem, Try.ntmps18, reduceIte, reduceCtorEq, Nat.reduceAdd, Nat.reduceEqDiff, Nat.reduceLT, Nat.reduceLeDiff, Nat.reduceSub, Nat.reduceMul, Nat.reduceBEq, Int.reduceToNat, Int.reduceLE, Int.reduceLT, Int.reducePow]; done) | (simp only [go_sem, Try.ntmps18, reduceIte, reduceCtorEq, Nat.reduceAdd, Nat.reduceEqDiff, Nat.reduceLT, Nat.reduceLeDiff, Nat.reduceSub, Nat.reduceMul, Nat.reduceBEq, Int.reduceToNat, Int.reduceLE, Int.reduceLT, Int.reducePow]; omega)
            case k11 => simp only [go_sem, Try.ntmps18, reduceIte, reduceCtorEq, Nat.reduceAdd, Nat.reduceEqDiff, Nat.reduceLT, Nat.reduceLeDiff, Nat.reduceSub, Nat.reduceMul, Nat.reduceBEq, Int.reduceToNat, Int.reduceLE, Int.reduceLT, Int.reducePow]; rfl
            exact ⟨es.length - (i + 1), _, by omega, Conv.keep [0, 1, 5] [] (by simp), i + 1, by omega, rfl, by rw [take_one (i := i) (by omega) [], take_one (i := i) (by omega) [], ht]; simpa using hb3, rfl⟩
        case f7 =>
          intro hb2
          have hi : ¬ i < es.length := by simp at hb2; omega
          refine AWp.exit ?_
          refine thenA_exit ?_
          refine thenA_exit ?_
          refine inB_eq ?_
          refine AWp.seq ?_
          refine AWp.reg (S1 := ?S12) (ob := ?o12) (S' := ?K12) tab_ok (noKnow _) mixed [4] ?r12 ?h12 ?k12 ?w12
          case r12 => simp only [go_sem, Try.ntmps18, reduceIte, reduceCtorEq, Nat.reduceAdd, Nat.reduceEqDiff, Nat.reduceLT, Nat.reduceLeDiff, Nat.reduceSub, Nat.reduceMul, Nat.reduceBEq, Int.reduceToNat, Int.reduceLE, Int.reduceLT, Int.reducePow]; rfl
          case h12 => first | exact True.intro | omega | (simp only [go_sem, Try.ntmps18, reduceIte, reduceCtorEq, Nat.reduceAdd, Nat.reduceEqDiff, Nat.reduceLT, Nat.reduceLeDiff, Nat.reduceSub, Nat.reduceMul, Nat.reduceBEq, Int.reduceToNat, Int.reduceLE, Int.reduceLT, Int.reducePow]; done) | (simp only [go_sem, Try.ntmps18, reduceIte, reduceCtorEq, Nat.reduceAdd, Nat.reduceEqDiff, Nat.reduceLT, Nat.reduceLeDiff, Nat.reduceSub, Nat.reduceMul, Nat.reduceBEq, Int.reduceToNat, Int.reduceLE, Int.reduceLT, Int.reducePow]; omega)
          case k12 => simp only [go_sem, Try.ntmps18, reduceIte, reduceCtorEq, Nat.reduceAdd, Nat.reduceEqDiff, Nat.reduceLT, Nat.reduceLeDiff, Nat.reduceSub, Nat.reduceMul, Nat.reduceBEq, Int.reduceToNat, Int.reduceLE, Int.reduceLT, Int.reducePow]; rfl
          refine AWp.ret ?_
          refine ends_p (vs := ?vs3) (ob := ?ro3) (vs' := ?ws3) (ks := ?ks3) (ob2 := ?rp3) tab_ok (by simp) ?er3 ?eo3 ?ef3 ?eg3 ?en3 ?ek3 ?ev3
          case er3 => simp only [go_sem, Try.ntmps18, reduceIte, reduceCtorEq, Nat.reduceAdd, Nat.reduceEqDiff, Nat.reduceLT, Nat.reduceLeDiff, Nat.reduceSub, Nat.reduceMul, Nat.reduceBEq, Int.reduceToNat, Int.reduceLE, Int.reduceLT, Int.reducePow, Try.results18]; rfl
          case eo3 => first | exact True.intro | simp only [go_sem, Try.ntmps18, reduceIte, reduceCtorEq, Nat.reduceAdd, Nat.reduceEqDiff, Nat.reduceLT, Nat.reduceLeDiff, Nat.reduceSub, Nat.reduceMul, Nat.reduceBEq, Int.reduceToNat, Int.reduceLE, Int.reduceLT, Int.reducePow]
          case ef3 => simp only [go_sem, Try.ntmps18, reduceIte, reduceCtorEq, Nat.reduceAdd, Nat.reduceEqDiff, Nat.reduceLT, Nat.reduceLeDiff, Nat.reduceSub, Nat.reduceMul, Nat.reduceBEq, Int.reduceToNat, Int.reduceLE, Int.reduceLT, Int.reducePow]; rfl
          case eg3 => first | exact True.intro | simp only [go_sem, Try.ntmps18, reduceIte, reduceCtorEq, Nat.reduceAdd, Nat.reduceEqDiff, Nat.reduceLT, Nat.reduceLeDiff, Nat.reduceSub, Nat.reduceMul, Nat.reduceBEq, Int.reduceToNat, Int.reduceLE, Int.reduceLT, Int.reducePow]
          case en3 => simp only [go_sem, Try.ntmps18, reduceIte, reduceCtorEq, Nat.reduceAdd, Nat.reduceEqDiff, Nat.reduceLT, Nat.reduceLeDiff, Nat.reduceSub, Nat.reduceMul, Nat.reduceBEq, Int.reduceToNat, Int.reduceLE, Int.reduceLT, Int.reducePow]
          case ek3 => simp only [go_sem, Try.ntmps18, reduceIte, reduceCtorEq, Nat.reduceAdd, Nat.reduceEqDiff, Nat.reduceLT, Nat.reduceLeDiff, Nat.reduceSub, Nat.reduceMul, Nat.reduceBEq, Int.reduceToNat, Int.reduceLE, Int.reduceLT, Int.reducePow]
          case ev3 =>
            show AVal.one (dv (.bool (decide (rowsB es = rowsB fs)))) = .one (dv (.bool true))
            have he : rowsB es = rowsB fs := by rw [← List.take_of_length_le (i := i) (l := rowsB es) (by omega), ht, List.take_of_length_le (by omega)]
            rw [decide_eq_true he]
  · cases hq

def same7F : List AV → Option (AVal × Prop)
  | [.s (.d (.slice z e es)), .s (.d (.slice z2 e2 fs))] => some (.one (dv (.bool (decide (unf es = unf fs)))), (es = [] ∨ e = 3) ∧ (fs = [] ∨ e2 = 3) ∧ es = fdrow (unf es) ∧ fs = fdrow (unf fs) ∧ es.length ≤ 1000000000)
  | _ => none
theorem same7F_ok : ContOk Try.prog 19 (pureK same7F) := by
  refine pure_ok (nargs := 2) Try.func19 rfl (by kernel_rfl) (Nat.le_of_ble_eq_true (by kernel_rfl)) ?_
  intro args q hq hob
  unfold same7F at hq
  split at hq
  · rename_i z e es z2 e2 fs
    injection hq with hq
    subst hq
    obtain ⟨h1, h2, h3, h4, hlen⟩ : (es = [] ∨ e = 3) ∧ (fs = [] ∨ e2 = 3) ∧ es = fdrow (unf es) ∧ fs = fdrow (unf fs) ∧ es.length ≤ 1000000000 := hob
    generalize unf es = fl at *
    generalize unf fs = gl at *
    subst h3 h4
    rw [fdrow_len] at hlen
    refine ⟨rfl, by simp [AV.ids, Sc.ids], by simp [AVal.ids, AV.ids, Sc.ids], by simp, ?_⟩
    refine AWp.seq ?_
    refine AWp.reg (S1 := ?S1) (ob := ?o1) (S' := ?K1) tab_ok (noKnow _) mixed [0, 1] ?r1 ?h1 ?k1 ?w1
    case r1 => simp only [go_sem, fdrow_get, fdrow_len, fileD, Try.ntmps19, reduceIte, reduceCtorEq, Nat.reduceAdd, Nat.reduceEqDiff, Nat.reduceLT, Nat.reduceLeDiff, Nat.reduceSub, Nat.reduceMul, Nat.reduceBEq, Int.reduceToNat, Int.reduceLE, Int.reduceLT, Int.reducePow]; rfl
    case h1 => first | exact True.intro | omega | (simp only [go_sem, fdrow_get, fdrow_len, fileD, Try.ntmps19, reduceIte, reduceCtorEq, Nat.reduceAdd, Nat.reduceEqDiff, Nat.reduceLT, Nat.reduceLeDiff, Nat.reduceSub, Nat.reduceMul, Nat.reduceBEq, Int.reduceToNat, Int.reduceLE, Int.reduceLT, Int.reducePow]; done) | (simp only [go_sem, fdrow_get, fdrow_len, fileD, Try.ntmps19, reduceIte, reduceCtorEq, Nat.reduceAdd, Nat.reduceEqDiff, Nat.reduceLT, Nat.reduceLeDiff, Nat.reduceSub, Nat.reduceMul, Nat.reduceBEq, Int.reduceToNat, Int.reduceLE, Int.reduceLT, Int.reducePow]; omega)
    case k1 => simp only [go_sem, fdrow_get, fdrow_len, fileD, Try.ntmps19, reduceIte, reduceCtorEq, Nat.reduceAdd, Nat.reduceEqDiff, Nat.reduceLT, Nat.reduceLeDiff, Nat.reduceSub, Nat.reduceMul, Nat.reduceBEq, Int.reduceToNat, Int.reduceLE, Int.reduceLT, Int.reducePow]; rfl
    refine AWp.seq ?_
    refine AWp.seq ?_
    refine AWp.reg (S1 := ?S2) (ob := ?o2) (S' := ?K2) tab_ok (noKnow _) mixed [0, 1, 10] ?r2 ?h2 ?k2 ?w2
    case r2 => simp only [go_sem, fdrow_get, fdrow_len, fileD, Try.ntmps19, reduceIte, reduceCtorEq, Nat.reduceAdd, Nat.reduceEqDiff, Nat.reduceLT, Nat.reduceLeDiff, Nat.reduceSub, Nat.reduceMul, Nat.reduceBEq, Int.reduceToNat, Int.reduceLE, Int.reduceLT, Int.reducePow]; rfl
    case h2 => first | exact True.intro | omega | (simp only [go_sem, fdrow_get, fdrow_len, fileD, Try.ntmps19, reduceIte, reduceCtorEq, Nat.reduceAdd, Nat.reduceEqDiff, Nat.reduceLT, Nat.reduceLeDiff, Nat.reduceSub, Nat.reduceMul, Nat.reduceBEq, Int.reduceToNat, Int.reduceLE, Int.reduceLT, Int.reducePow]; done) | (simp only [go_sem, fdrow_get, fdrow_len, fileD, Try.ntmps19, reduceIte, reduceCtorEq, Nat.reduceAdd, Nat.reduceEqDiff, Nat.reduceLT, Nat.reduceLeDiff, Nat.reduceSub, Nat.reduceMul, Nat.reduceBEq, Int.reduceToNat, Int.reduceLE, Int.reduceLT, Int.reducePow]; omega)
    case k2 => simp only [go_sem, fdrow_get, fdrow_len, fileD, Try.ntmps19, reduceIte, reduceCtorEq, Nat.reduceAdd, Nat.reduceEqDiff, Nat.reduceLT, Nat.reduceLeDiff, Nat.reduceSub, Nat.reduceMul, Nat.reduceBEq, Int.reduceToNat, Int.reduceLE, Int.reduceLT, Int.reducePow]; rfl
    refine AWp.cond (b := ?b3) ?c3 ?t3 ?f3
    case c3 => simp only [go_sem, fdrow_get, fdrow_len, fileD, Try.ntmps19, reduceIte, reduceCtorEq, Nat.reduceAdd, Nat.reduceEqDiff, Nat.reduceLT, Nat.reduceLeDiff, Nat.reduceSub, Nat.reduceMul, Nat.reduceBEq, Int.reduceToNat, Int.reduceLE, Int.reduceLT, Int.reducePow]; rfl
    case t3 =>
      intro hb1
      have hl : ¬ fl.length = gl.length := by simp only [Bool.not_eq_true', decide_eq_false_iff_not] at hb1; omega
      refine AWp.seq ?_
      refine AWp.reg (S1 := ?S4) (ob := ?o4) (S' := ?K4) tab_ok (noKnow _) mixed [4] ?r4 ?h4 ?k4 ?w4
      case r4 => simp only [go_sem, fdrow_get, fdrow_len, fileD, Try.ntmps19, reduceIte, reduceCtorEq, Nat.reduceAdd, Nat.reduceEqDiff, Nat.reduceLT, Nat.reduceLeDiff, Nat.reduceSub, Nat.reduceMul, Nat.reduceBEq, Int.reduceToNat, Int.reduceLE, Int.reduceLT, Int.reducePow]; rfl
      case h4 => first | exact True.intro | omega | (simp only [go_sem, fdrow_get, fdrow_len, fileD, Try.ntmps19, reduceIte, reduceCtorEq, Nat.reduceAdd, Nat.reduceEqDiff, Nat.reduceLT, Nat.reduceLeDiff, Nat.reduceSub, Nat.reduceMul, Nat.reduceBEq, Int.reduceToNat, Int.reduceLE, Int.reduceLT, Int.reducePow]; done) | (simp only [go_sem, fdrow_get, fdrow_len, fileD, Try.ntmps19, reduceIte, reduceCtorEq, Nat.reduceAdd, Nat.reduceEqDiff, Nat.reduceLT, Nat.reduceLeDiff, Nat.reduceSub, Nat.reduceMul, Nat.reduceBEq, Int.reduceToNat, Int.reduceLE, Int.reduceLT, Int.reducePow]; omega)
      case k4 => simp only [go_sem, fdrow_get, fdrow_len, fileD, Try.ntmps19, reduceIte, reduceCtorEq, Nat.reduceAdd, Nat.reduceEqDiff, Nat.reduceLT, Nat.reduceLeDiff, Nat.reduceSub, Nat.reduceMul, Nat.reduceBEq, Int.reduceToNat, Int.reduceLE, Int.reduceLT, Int.reducePow]; rfl
      refine AWp.ret ?_
      refine ends_p (vs := ?vs1) (ob := ?ro1) (vs' := ?ws1) (ks := ?ks1) (ob2 := ?rp1) tab_ok (by simp) ?er1 ?eo1 ?ef1 ?eg1 ?en1 ?ek1 ?ev1
      case er1 => simp only [go_sem, fdrow_get, fdrow_len, fileD, Try.ntmps19, reduceIte, reduceCtorEq, Nat.reduceAdd, Nat.reduceEqDiff, Nat.reduceLT, Nat.reduceLeDiff, Nat.reduceSub, Nat.reduceMul, Nat.reduceBEq, Int.reduceToNat, Int.reduceLE, Int.reduceLT, Int.reducePow, Try.results19]; rfl
      case eo1 => first | exact True.intro | simp only [go_sem, fdrow_get, fdrow_len, fileD, Try.ntmps19, reduceIte, reduceCtorEq, Nat.reduceAdd, Nat.reduceEqDiff, Nat.reduceLT, Nat.reduceLeDiff, Nat.reduceSub, Nat.reduceMul, Nat.reduceBEq, Int.reduceToNat, Int.reduceLE, Int.reduceLT, Int.reducePow]
      case ef1 => simp only [go_sem, fdrow_get, fdrow_len, fileD, Try.ntmps19, reduceIte, reduceCtorEq, Nat.reduceAdd, Nat.reduceEqDiff, Nat.reduceLT, Nat.reduceLeDiff, Nat.reduceSub, Nat.reduceMul, Nat.reduceBEq, Int.reduceToNat, Int.reduceLE, Int.reduceLT, Int.reducePow]; rfl
      case eg1 => first | exact True.intro | simp only [go_sem, fdrow_get, fdrow_len, fileD, Try.ntmps19, reduceIte, reduceCtorEq, Nat.reduceAdd, Nat.reduceEqDiff, Nat.reduceLT, Nat.reduceLeDiff, Nat.reduceSub, Nat.reduceMul, Nat.reduceBEq, Int.reduceToNat, Int.reduceLE, Int.reduceLT, Int.reducePow]
      case en1 => simp only [go_sem, fdrow_get, fdrow_len, fileD, Try.ntmps19, reduceIte, reduceCtorEq, Nat.reduceAdd, Nat.reduceEqDiff, Nat.reduceLT, Nat.reduceLeDiff, Nat.reduceSub, Nat.reduceMul, Nat.reduceBEq, Int.reduceToNat, Int.reduceLE, Int.reduceLT, Int.reducePow]
      case ek1 => simp only [go_sem, fdrow_get, fdrow_len, fileD, Try.ntmps19, reduceIte, reduceCtorEq, Nat.reduceAdd, Nat.reduceEqDiff, Nat.reduceLT, Nat.reduceLeDiff, Nat.reduceSub, Nat.reduceMul, Nat.reduceBEq, Int.reduceToNat, Int.reduceLE, Int.reduceLT, Int.reducePow]
      case ev1 =>
        show AVal.one (dv (.bool (decide (fl = gl)))) = .one (dv (.bool false))
        rw [decide_eq_false (fun h => hl (by rw [h]))]
    case f3 =>
      intro hb1
      have hl : fl.length = gl.length := by simp only [Bool.not_eq_false', decide_eq_true_eq] at hb1; omega
      refine AWp.skip ?_
      refine AWp.seq ?_
      refine AWp.seq ?_
      refine AWp.reg (S1 := ?S5) (ob := ?o5) (S' := ?K5) tab_ok (noKnow _) mixed [0, 1, 5] ?r5 ?h5 ?k5 ?w5
      case r5 => simp only [go_sem, fdrow_get, fdrow_len, fileD, Try.ntmps19, reduceIte, reduceCtorEq, Nat.reduceAdd, Nat.reduceEqDiff, Nat.reduceLT, Nat.reduceLeDiff, Nat.reduceSub, Nat.reduceMul, Nat.reduceBEq, Int.reduceToNat, Int.reduceLE, Int.reduceLT, Int.reducePow]; rfl
      case h5 => first | exact True.intro | omega | (simp only [go_sem, fdrow_get, fdrow_len, fileD, Try.ntmps19, reduceIte, reduceCtorEq, Nat.reduceAdd, Nat.reduceEqDiff, Nat.reduceLT, Nat.reduceLeDiff, Nat.reduceSub, Nat.reduceMul, Nat.reduceBEq, Int.reduceToNat, Int.reduceLE, Int.reduceLT, Int.reducePow]; done) | (simp only [go_sem, fdrow_get, fdrow_len, fileD, Try.ntmps19, reduceIte, reduceCtorEq, Nat.reduceAdd, Nat.reduceEqDiff, Nat.reduceLT, Nat.reduceLeDiff, Nat.reduceSub, Nat.reduceMul, Nat.reduceBEq, Int.reduceToNat, Int.reduceLE, Int.reduceLT, Int.reducePow]; omega)
      case k5 => simp only [go_sem, fdrow_get, fdrow_len, fileD, Try.ntmps19, reduceIte, reduceCtorEq, Nat.reduceAdd, Nat.reduceEqDiff, Nat.reduceLT, Nat.reduceLeDiff, Nat.reduceSub, Nat.reduceMul, Nat.reduceBEq, Int.reduceToNat, Int.reduceLE, Int.reduceLT, Int.reducePow]; rfl
      refine AWp.block ?_
      refine AWp.loop (fun k S => ∃ i : Nat, i ≤ fl.length ∧ k = fl.length - i ∧ fl.take i = gl.take i ∧ S = ⟨[(0, .one (.s (.d (.slice z e (fdrow fl))))), (1, .one (.s (.d (.slice z2 e2 (fdrow gl))))), (5, .one (dv (.int .i64 ((i : Nat) : Int))))], [], 0⟩) fl.length ?i1 ?n1
      case i1 =>
        exact ⟨0, by omega, rfl, by simp, rfl⟩
      case n1 =>
        rintro k S ⟨i, hi0, rfl, ht, rfl⟩
        refine AWp.seq ?_
        refine AWp.seq ?_
        refine AWp.reg (S1 := ?S6) (ob := ?o6) (S' := ?K6) tab_ok (noKnow _) mixed [0, 1, 5, 14] ?r6 ?h6 ?k6 ?w6
        case r6 => simp only [go_sem, fdrow_get, fdrow_len, fileD, Try.ntmps19, reduceIte, reduceCtorEq, Nat.reduceAdd, Nat.reduceEqDiff, Nat.reduceLT, Nat.reduceLeDiff, Nat.reduceSub, Nat.reduceMul, Nat.reduceBEq, Int.reduceToNat, Int.reduceLE, Int.reduceLT, Int.reducePow]; rfl
        case h6 => first | exact True.intro | omega | (simp only [go_sem, fdrow_get, fdrow_len, fileD, Try.ntmps19, reduceIte, reduceCtorEq, Nat.reduceAdd, Nat.reduceEqDiff, Nat.reduceLT, Nat.reduceLeDiff, Nat.reduceSub, Nat.reduceMul, Nat.reduceBEq, Int.reduceToNat, Int.reduceLE, Int.reduceLT, Int.reducePow]; done) | (simp only [go_sem, fdrow_get, fdrow_len, fileD, Try.ntmps19, reduceIte, reduceCtorEq, Nat.reduceAdd, Nat.reduceEqDiff, Nat.reduceLT, Nat.reduceLeDiff, Nat.reduceSub, Nat.reduceMul, Nat.reduceBEq, Int.reduceToNat, Int.reduceLE, Int.reduceLT, Int.reducePow]; omega)
        case k6 => simp only [go_sem, fdrow_get, fdrow_len, fileD, Try.ntmps19, reduceIte, reduceCtorEq, Nat.reduceAdd, Nat.reduceEqDiff, Nat.reduceLT, Nat.reduceLeDiff, Nat.reduceSub, Nat.reduceMul, Nat.reduceBEq, Int.reduceToNat, Int.reduceLE, Int.reduceLT, Int.reducePow]; rfl
        refine AWp.cond (b := ?b7) ?c7 ?t7 ?f7
        case c7 => simp only [go_sem, fdrow_get, fdrow_len, fileD, Try.ntmps19, reduceIte, reduceCtorEq, Nat.reduceAdd, Nat.reduceEqDiff, Nat.reduceLT, Nat.reduceLeDiff, Nat.reduceSub, Nat.reduceMul, Nat.reduceBEq, Int.reduceToNat, Int.reduceLE, Int.reduceLT, Int.reducePow]; rfl
        case t7 =>
          intro hb2
          have hi : i < fl.length := by simp only [decide_eq_true_eq] at hb2; omega
          obtain rfl : e = 3 := h1.resolve_left (by intro hx; have := congrArg List.length hx; rw [fdrow_len] at this; simp at this; rw [this] at hi; simp at hi)
          obtain rfl : e2 = 3 := h2.resolve_left (by intro hx; have := congrArg List.length hx; rw [fdrow_len] at this; simp at this; rw [hl, this] at hi; simp at hi)
          refine AWp.skip ?_
          refine AWp.seq ?_
          refine AWp.block ?_
          refine AWp.seq ?_
          refine AWp.drw (S1 := ?S8) (ob := ?o8) (lts := ?t8) (S' := ?K8) tab_ok (noKnow _) mixed [0, 1, 5, 25] ?r8 ?d8 ?h8 ?k8 ?w8
          case r8 => simp only [go_sem, fdrow_get, fdrow_len, fileD, Try.ntmps19, reduceIte, reduceCtorEq, Nat.reduceAdd, Nat.reduceEqDiff, Nat.reduceLT, Nat.reduceLeDiff, Nat.reduceSub, Nat.reduceMul, Nat.reduceBEq, Int.reduceToNat, Int.reduceLE, Int.reduceLT, Int.reducePow]; rfl
          case d8 => first | kernel_rfl | rfl
          case h8 => first | exact True.intro | omega | (simp only [go_sem, fdrow_get, fdrow_len, fileD, Try.ntmps19, reduceIte, reduceCtorEq, Nat.reduceAdd, Nat.reduceEqDiff, Nat.reduceLT, Nat.reduceLeDiff, Nat.reduceSub, Nat.reduceMul, Nat.reduceBEq, Int.reduceToNat, Int.reduceLE, Int.reduceLT, Int.reducePow]; done) | (simp only [go_sem, fdrow_get, fdrow_len, fileD, Try.ntmps19, reduceIte, reduceCtorEq, Nat.reduceAdd, Nat.reduceEqDiff, Nat.reduceLT, Nat.reduceLeDiff, Nat.reduceSub, Nat.reduceMul, Nat.reduceBEq, Int.reduceToNat, Int.reduceLE, Int.reduceLT, Int.reducePow]; omega)
          case k8 => simp only [go_sem, fdrow_get, fdrow_len, fileD, Try.ntmps19, reduceIte, reduceCtorEq, Nat.reduceAdd, Nat.reduceEqDiff, Nat.reduceLT, Nat.reduceLeDiff, Nat.reduceSub, Nat.reduceMul, Nat.reduceBEq, Int.reduceToNat, Int.reduceLE, Int.reduceLT, Int.reducePow]; rfl
          refine AWp.cond (b := ?b9) ?c9 ?t9 ?f9
          case c9 => simp only [go_sem, fdrow_get, fdrow_len, fileD, Try.ntmps19, reduceIte, reduceCtorEq, Nat.reduceAdd, Nat.reduceEqDiff, Nat.reduceLT, Nat.reduceLeDiff, Nat.reduceSub, Nat.reduceMul, Nat.reduceBEq, Int.reduceToNat, Int.reduceLE, Int.reduceLT, Int.reducePow]; rfl
          case t9 =>
            intro hb3
            have hx : ¬ fl.getD i f0L = gl.getD i f0L := by intro h; rw [h] at hb3; simp at hb3
            refine AWp.seq ?_
            refine AWp.reg (S1 := ?S10) (ob := ?o10) (S' := ?K10) tab_ok (noKnow _) mixed [4] ?r10 ?h10 ?k10 ?w10
            case r10 => simp only [go_sem, fdrow_get, fdrow_len, fileD, Try.ntmps19, reduceIte, reduceCtorEq, Nat.reduceAdd, Nat.reduceEqDiff, Nat.reduceLT, Nat.reduceLeDiff, Nat.reduceSub, Nat.reduceMul, Nat.reduceBEq, Int.reduceToNat, Int.reduceLE, Int.reduceLT, Int.reducePow]; rfl
            case h10 => first | exact True.intro | omega | (simp only [go_sem, fdrow_get, fdrow_len, fileD, Try.ntmps19, reduceIte, reduceCtorEq, Nat.reduceAdd, Nat.reduceEqDiff, Nat.reduceLT, Nat.reduceLeDiff, Nat.reduceSub, Nat.reduceMul, Nat.reduceBEq, Int.reduceToNat, Int.reduceLE, Int.reduceLT, Int.reducePow]; done) | (simp only [go_sem, fdrow_get, fdrow_len, fileD, Try.ntmps19, reduceIte, reduceCtorEq, Nat.reduceAdd, Nat.reduceEqDiff, Nat.reduceLT, Nat.reduceLeDiff, Nat.reduceSub, Nat.reduceMul, Nat.reduceBEq, Int.reduceToNat, Int.reduceLE, Int.reduceLT, Int.reducePow]; omega)
            case k10 => simp only [go_sem, fdrow_get, fdrow_len, fileD, Try.ntmps19, reduceIte, reduceCtorEq, Nat.reduceAdd, Nat.reduceEqDiff, Nat.reduceLT, Nat.reduceLeDiff, Nat.reduceSub, Nat.reduceMul, Nat.reduceBEq, Int.reduceToNat, Int.reduceLE, Int.reduceLT, Int.reducePow]; rfl
            refine AWp.ret ?_
            refine ends_p (vs := ?vs2) (ob := ?ro2) (vs' := ?ws2) (ks := ?ks2) (ob2 := ?rp2) tab_ok (by simp) ?er2 ?eo2 ?ef2 ?eg2 ?en2 ?ek2 ?ev2
            case er2 => simp only [go_sem, fdrow_get, fdrow_len, fileD, Try.ntmps19, reduceIte, reduceCtorEq, Nat.reduceAdd, Nat.reduceEqDiff, Nat.reduceLT, Nat.reduceLeDiff, Nat.reduceSub, Nat.reduceMul, Nat.reduceBEq, Int.reduceToNat, Int.reduceLE, Int.reduceLT, Int.reducePow, Try.results19]; rfl
            case eo2 => first | exact True.intro | simp only [go_sem, fdrow_get, fdrow_len, fileD, Try.ntmps19, reduceIte, reduceCtorEq, Nat.reduceAdd, Nat.reduceEqDiff, Nat.reduceLT, Nat.reduceLeDiff, Nat.reduceSub, Nat.reduceMul, Nat.reduceBEq, Int.reduceToNat, Int.reduceLE, Int.reduceLT, Int.reducePow]
            case ef2 => simp only [go_sem, fdrow_get, fdrow_len, fileD, Try.ntmps19, reduceIte, reduceCtorEq, Nat.reduceAdd, Nat.reduceEqDiff, Nat.reduceLT, Nat.reduceLeDiff, Nat.reduceSub, Nat.reduceMul, Nat.reduceBEq, Int.reduceToNat, Int.reduceLE, Int.reduceLT, Int.reducePow]; rfl
            case eg2 => first | exact True.intro | simp only [go_sem, fdrow_get, fdrow_len, fileD, Try.ntmps19, reduceIte, reduceCtorEq, Nat.reduceAdd, Nat.reduceEqDiff, Nat.reduceLT, Nat.reduceLeDiff, Nat.reduceSub, Nat.reduceMul, Nat.reduceBEq, Int.reduceToNat, Int.reduceLE, Int.reduceLT, Int.reducePow]
            case en2 => simp only [go_sem, fdrow_get, fdrow_len, fileD, Try.ntmps19, reduceIte, reduceCtorEq, Nat.reduceAdd, Nat.reduceEqDiff, Nat.reduceLT, Nat.reduceLeDiff, Nat.reduceSub, Nat.reduceMul, Nat.reduceBEq, Int.reduceToNat, Int.reduceLE, Int.reduceLT, Int.reducePow]
            case ek2 => simp only [go_sem, fdrow_get, fdrow_len, fileD, Try.ntmps19, reduceIte, reduceCtorEq, Nat.reduceAdd, Nat.reduceEqDiff, Nat.reduceLT, Nat.reduceLeDiff, Nat.reduceSub, Nat.reduceMul, Nat.reduceBEq, Int.reduceToNat, Int.reduceLE, Int.reduceLT, Int.reducePow]
            case ev2 =>
              show AVal.one (dv (.bool (decide (fl = gl)))) = .one (dv (.bool false))
              rw [decide_eq_false (fun h => hx (by rw [h]))]
          case f9 =>
            intro hb3
            have hx : fl.getD i f0L = gl.getD i f0L := by
              simp only [Bool.not_eq_false', Bool.and_eq_true, decide_eq_true_eq] at hb3
              exact Prod.ext hb3.1 (Prod.ext hb3.2.1 hb3.2.2)
            refine AWp.skip ?_
            refine AWp.reg (S1 := ?S11) (ob := ?o11) (S' := ?K11) tab_ok (noKnow _) mixed [0, 1, 5] ?r11 ?h11 ?k11 ?w11
            case r11 => simp only [go_sem, fdrow_get, fdrow_len, fileD, Try.ntmps19, reduceIte, reduceCtorEq, Nat.reduceAdd, Nat.reduceEqDiff, Nat.reduceLT, Nat.reduceLeDiff, Nat.reduceSub, Nat.reduceMul, Nat.reduceBEq, Int.reduceToNat, Int.reduceLE, Int.reduceLT, Int.reducePow]; rfl
            case h11 => first | exact True.intro | omega | (simp only [go_sem, fdrow_get, fdrow_len, fileD, Try.ntmps19, reduceIte, reduceCtorEq, Nat.reduceAdd, Nat.reduceEqDiff, Nat.reduceLT, Nat.reduceLeDiff, Nat.reduceSub, Nat.reduceMul, Nat.reduceBEq, Int.reduceToNat, Int.reduceLE, Int.reduceLT, Int.reducePow]; done) | (simp only [go_sem, fdrow_get, fdrow_len, fileD, Try.ntmps19, reduceIte, reduceCtorEq, Nat.reduceAdd, Nat.reduceEqDiff, Nat.reduceLT, Nat.reduceLeDiff, Nat.reduceSub, Nat.reduceMul, Nat.reduceBEq, Int.reduceToNat, Int.reduceLE, Int.reduceLT, Int.reducePow]; omega)
            case k11 => simp only [go_sem, fdrow_get, fdrow_len, fileD, Try.ntmps19, reduceIte, reduceCtorEq, Nat.reduceAdd, Nat.reduceEqDiff, Nat.reduceLT, Nat.reduceLeDiff, Nat.reduceSub, Nat.reduceMul, Nat.reduceBEq, Int.reduceToNat, Int.reduceLE, Int.reduceLT, Int.reducePow]; rfl
            exact ⟨fl.length - (i + 1), _, by omega, Conv.refl _, i + 1, by omega, rfl, by rw [take_one (i := i) (by omega) f0L, take_one (i := i) (by omega) f0L, ht, hx], rfl⟩
        case f7 =>
          intro hb2
          have hi : ¬ i < fl.length := by simp only [decide_eq_false_iff_not] at hb2; omega
          refine AWp.exit ?_
          refine thenA_exit ?_
          refine thenA_exit ?_
          refine inB_eq ?_
          refine AWp.seq ?_
          refine AWp.reg (S1 := ?S12) (ob := ?o12) (S' := ?K12) tab_ok (noKnow _) mixed [4] ?r12 ?h12 ?k12 ?w12
          case r12 => simp only [go_sem, fdrow_get, fdrow_len, fileD, Try.ntmps19, reduceIte, reduceCtorEq, Nat.reduceAdd, Nat.reduceEqDiff, Nat.reduceLT, Nat.reduceLeDiff, Nat.reduceSub, Nat.reduceMul, Nat.reduceBEq, Int.reduceToNat, Int.reduceLE, Int.reduceLT, Int.reducePow]; rfl
          case h12 => first | exact True.intro | omega | (simp only [go_sem, fdrow_get, fdrow_len, fileD, Try.ntmps19, reduceIte, reduceCtorEq, Nat.reduceAdd, Nat.reduceEqDiff, Nat.reduceLT, Nat.reduceLeDiff, Nat.reduceSub, Nat.reduceMul, Nat.reduceBEq, Int.reduceToNat, Int.reduceLE, Int.reduceLT, Int.reducePow]; done) | (simp only [go_sem, fdrow_get, fdrow_len, fileD, Try.ntmps19, reduceIte, reduceCtorEq, Nat.reduceAdd, Nat.reduceEqDiff, Nat.reduceLT, Nat.reduceLeDiff, Nat.reduceSub, Nat.reduceMul, Nat.reduceBEq, Int.reduceToNat, Int.reduceLE, Int.reduceLT, Int.reducePow]; omega)
          case k12 => simp only [go_sem, fdrow_get, fdrow_len, fileD, Try.ntmps19, reduceIte, reduceCtorEq, Nat.reduceAdd, Nat.reduceEqDiff, Nat.reduceLT, Nat.reduceLeDiff, Nat.reduceSub, Nat.reduceMul, Nat.reduceBEq, Int.reduceToNat, Int.reduceLE, Int.reduceLT, Int.reducePow]; rfl
          refine AWp.ret ?_
          refine ends_p (vs := ?vs3) (ob := ?ro3) (vs' := ?ws3) (ks := ?ks3) (ob2 := ?rp3) tab_ok (by simp) ?er3 ?eo3 ?ef3 ?eg3 ?en3 ?ek3 ?ev3
          case er3 => simp only [go_sem, fdrow_get, fdrow_len, fileD, Try.ntmps19, reduceIte, reduceCtorEq, Nat.reduceAdd, Nat.reduceEqDiff, Nat.reduceLT, Nat.reduceLeDiff, Nat.reduceSub, Nat.reduceMul, Nat.reduceBEq, Int.reduceToNat, Int.reduceLE, Int.reduceLT, Int.reducePow, Try.results19]; rfl
          case eo3 => first | exact True.intro | simp only [go_sem, fdrow_get, fdrow_len, fileD, Try.ntmps19, reduceIte, reduceCtorEq, Nat.reduceAdd, Nat.reduceEqDiff, Nat.reduceLT, Nat.reduceLeDiff, Nat.reduceSub, Nat.reduceMul, Nat.reduceBEq, Int.reduceToNat, Int.reduceLE, Int.reduceLT, Int.reducePow]
          case ef3 => simp only [go_sem, fdrow_get, fdrow_len, fileD, Try.ntmps19, reduceIte, reduceCtorEq, Nat.reduceAdd, Nat.reduceEqDiff, Nat.reduceLT, Nat.reduceLeDiff, Nat.reduceSub, Nat.reduceMul, Nat.reduceBEq, Int.reduceToNat, Int.reduceLE, Int.reduceLT, Int.reducePow]; rfl
          case eg3 => first | exact True.intro | simp only [go_sem, fdrow_get, fdrow_len, fileD, Try.ntmps19, reduceIte, reduceCtorEq, Nat.reduceAdd, Nat.reduceEqDiff, Nat.reduceLT, Nat.reduceLeDiff, Nat.reduceSub, Nat.reduceMul, Nat.reduceBEq, Int.reduceToNat, Int.reduceLE, Int.reduceLT, Int.reducePow]
          case en3 => simp only [go_sem, fdrow_get, fdrow_len, fileD, Try.ntmps19, reduceIte, reduceCtorEq, Nat.reduceAdd, Nat.reduceEqDiff, Nat.reduceLT, Nat.reduceLeDiff, Nat.reduceSub, Nat.reduceMul, Nat.reduceBEq, Int.reduceToNat, Int.reduceLE, Int.reduceLT, Int.reducePow]
          case ek3 => simp only [go_sem, fdrow_get, fdrow_len, fileD, Try.ntmps19, reduceIte, reduceCtorEq, Nat.reduceAdd, Nat.reduceEqDiff, Nat.reduceLT, Nat.reduceLeDiff, Nat.reduceSub, Nat.reduceMul, Nat.reduceBEq, Int.reduceToNat, Int.reduceLE, Int.reduceLT, Int.reducePow]
          case ev3 =>
            show AVal.one (dv (.bool (decide (fl = gl)))) = .one (dv (.bool true))
            have he : fl = gl := by rw [← List.take_of_length_le (i := i) (l := fl) (by omega), ht, List.take_of_length_le (by omega)]
            rw [decide_eq_true he]
  · cases hq

def fewB (L : List (List UInt8)) (i : Nat) : Bool := decide ((i : Int) = 12) || decide (5000 < ((L.getD i []).length : Int))
def fewOk (L : List (List UInt8)) : Bool := (List.range L.length).all fun i => !fewB L i
theorem few_le {L : List (List UInt8)} {i : Nat} (h : (List.range i).all (fun j => !fewB L j) = true) : i ≤ 12 := by
  by_cases h8 : i ≤ 12
  · exact h8
  · have := List.all_eq_true.1 h 12 (by simp; omega)
    simp [fewB] at this
def fewF : List AV → Option (AVal × Prop)
  | [.s (.d (.slice z e es))] => some (.one (dv (.bool (fewOk (rowsB es)))), (es = [] ∨ e = 1) ∧ RowsOk es)
  | _ => none
theorem fewF_ok : ContOk Try.prog 13 (pureK fewF) := by
  refine pure_ok (nargs := 1) Try.func13 rfl (by kernel_rfl) (Nat.le_of_ble_eq_true (by kernel_rfl)) ?_
  intro args q hq hob
  unfold fewF at hq
  split at hq
  · rename_i z e es
    injection hq with hq
    subst hq
    obtain ⟨h1, h2⟩ : (es = [] ∨ e = 1) ∧ RowsOk es := hob
    have hrl := rowsB_len es
    refine ⟨rfl, by simp [AV.ids, Sc.ids], by simp [AVal.ids, AV.ids, Sc.ids], by simp, ?_⟩
    refine AWp.seq ?_
    refine AWp.reg (S1 := ?S1) (ob := ?o1) (S' := ?K1) tab_ok (noKnow _) mixed [0] ?r1 ?h1 ?k1 ?w1
    case r1 => simp only [go_sem, Try.ntmps13, reduceIte, reduceCtorEq, Nat.reduceAdd, Nat.reduceEqDiff, Nat.reduceLT, Nat.reduceLeDiff, Nat.reduceSub, Nat.reduceMul, Nat.reduceBEq, Int.reduceToNat, Int.reduceLE, Int.reduceLT, Int.reducePow]; rfl
    case h1 => first | exact True.intro | omega | (simp only [go_sem, Try.ntmps13, reduceIte, reduceCtorEq, Nat.reduceAdd, Nat.reduceEqDiff, Nat.reduceLT, Nat.reduceLeDiff, Nat.reduceSub, Nat.reduceMul, Nat.reduceBEq, Int.reduceToNat, Int.reduceLE, Int.reduceLT, Int.reducePow]; done) | (simp only [go_sem, Try.ntmps13, reduceIte, reduceCtorEq, Nat.reduceAdd, Nat.reduceEqDiff, Nat.reduceLT, Nat.reduceLeDiff, Nat.reduceSub, Nat.reduceMul, Nat.reduceBEq, Int.reduceToNat, Int.reduceLE, Int.reduceLT, Int.reducePow]; omega)
    case k1 => simp only [go_sem, Try.ntmps13, reduceIte, reduceCtorEq, Nat.reduceAdd, Nat.reduceEqDiff, Nat.reduceLT, Nat.reduceLeDiff, Nat.reduceSub, Nat.reduceMul, Nat.reduceBEq, Int.reduceToNat, Int.reduceLE, Int.reduceLT, Int.reducePow]; rfl
    refine AWp.seq ?_
    refine AWp.seq ?_
    refine AWp.reg (S1 := ?S2) (ob := ?o2) (S' := ?K2) tab_ok (noKnow _) mixed [0, 3] ?r2 ?h2 ?k2 ?w2
    case r2 => simp only [go_sem, Try.ntmps13, reduceIte, reduceCtorEq, Nat.reduceAdd, Nat.reduceEqDiff, Nat.reduceLT, Nat.reduceLeDiff, Nat.reduceSub, Nat.reduceMul, Nat.reduceBEq, Int.reduceToNat, Int.reduceLE, Int.reduceLT, Int.reducePow]; rfl
    case h2 => first | exact True.intro | omega | (simp only [go_sem, Try.ntmps13, reduceIte, reduceCtorEq, Nat.reduceAdd, Nat.reduceEqDiff, Nat.reduceLT, Nat.reduceLeDiff, Nat.reduceSub, Nat.reduceMul, Nat.reduceBEq, Int.reduceToNat, Int.reduceLE, Int.reduceLT, Int.reducePow]; done) | (simp only [go_sem, Try.ntmps13, reduceIte, reduceCtorEq, Nat.reduceAdd, Nat.reduceEqDiff, Nat.reduceLT, Nat.reduceLeDiff, Nat.reduceSub, Nat.reduceMul, Nat.reduceBEq, Int.reduceToNat, Int.reduceLE, Int.reduceLT, Int.reducePow]; omega)
    case k2 => simp only [go_sem, Try.ntmps13, reduceIte, reduceCtorEq, Nat.reduceAdd, Nat.reduceEqDiff, Nat.reduceLT, Nat.reduceLeDiff, Nat.reduceSub, Nat.reduceMul, Nat.reduceBEq, Int.reduceToNat, Int.reduceLE, Int.reduceLT, Int.reducePow]; rfl
    refine AWp.block ?_
    refine AWp.loop (fun k S => ∃ i : Nat, i ≤ es.length ∧ k = es.length - i ∧ (List.range i).all (fun j => !fewB (rowsB es) j) = true ∧ S = ⟨[(0, .one (.s (.d (.slice z e es)))), (3, .one (dv (.int .i64 (i : Int))))], [], 0⟩) es.length ?i1 ?n1
    case i1 =>
      exact ⟨0, by omega, rfl, by simp, rfl⟩
    case n1 =>
      rintro k S ⟨i, hi0, rfl, ht, rfl⟩
      have h12 := few_le ht
      refine AWp.seq ?_
      refine AWp.seq ?_
      refine AWp.reg (S1 := ?S3) (ob := ?o3) (S' := ?K3) tab_ok (noKnow _) mixed [0, 3, 7] ?r3 ?h3 ?k3 ?w3
      case r3 => simp only [go_sem, Try.ntmps13, reduceIte, reduceCtorEq, Nat.reduceAdd, Nat.reduceEqDiff, Nat.reduceLT, Nat.reduceLeDiff, Nat.reduceSub, Nat.reduceMul, Nat.reduceBEq, Int.reduceToNat, Int.reduceLE, Int.reduceLT, Int.reducePow]; rfl
      case h3 => first | exact True.intro | omega | (simp only [go_sem, Try.ntmps13, reduceIte, reduceCtorEq, Nat.reduceAdd, Nat.reduceEqDiff, Nat.reduceLT, Nat.reduceLeDiff, Nat.reduceSub, Nat.reduceMul, Nat.reduceBEq, Int.reduceToNat, Int.reduceLE, Int.reduceLT, Int.reducePow]; done) | (simp only [go_sem, Try.ntmps13, reduceIte, reduceCtorEq, Nat.reduceAdd, Nat.reduceEqDiff, Nat.reduceLT, Nat.reduceLeDiff, Nat.reduceSub, Nat.reduceMul, Nat.reduceBEq, Int.reduceToNat, Int.reduceLE, Int.reduceLT, Int.reducePow]; omega)
      case k3 => simp only [go_sem, Try.ntmps13, reduceIte, reduceCtorEq, Nat.reduceAdd, Nat.reduceEqDiff, Nat.reduceLT, Nat.reduceLeDiff, Nat.reduceSub, Nat.reduceMul, Nat.reduceBEq, Int.reduceToNat, Int.reduceLE, Int.reduceLT, Int.reducePow]; rfl
      refine AWp.cond (b := ?b4) ?c4 ?t4 ?f4
      case c4 => simp only [go_sem, Try.ntmps13, reduceIte, reduceCtorEq, Nat.reduceAdd, Nat.reduceEqDiff, Nat.reduceLT, Nat.reduceLeDiff, Nat.reduceSub, Nat.reduceMul, Nat.reduceBEq, Int.reduceToNat, Int.reduceLE, Int.reduceLT, Int.reducePow]; rfl
      case t4 =>
        intro hb1
        have hi : i < es.length := by simp only [decide_eq_true_eq] at hb1; omega
        obtain rfl : e = 1 := h1.resolve_left (by rintro rfl; simp at hi)
        have hrow := h2.get hi [.slice (some true) 1 []]
        refine AWp.skip ?_
        refine AWp.seq ?_
        refine AWp.block ?_
        refine AWp.seq ?_
        refine AWp.reg (S1 := ?S5) (ob := ?o5) (S' := ?K5) tab_ok (noKnow _) mixed [0, 3, 19] ?r5 ?h5 ?k5 ?w5
        case r5 => simp only [go_sem, Try.ntmps13, reduceIte, reduceCtorEq, Nat.reduceAdd, Nat.reduceEqDiff, Nat.reduceLT, Nat.reduceLeDiff, Nat.reduceSub, Nat.reduceMul, Nat.reduceBEq, Int.reduceToNat, Int.reduceLE, Int.reduceLT, Int.reducePow, hrow]; rfl
        case h5 => first | exact True.intro | omega | (simp only [go_sem, Try.ntmps13, reduceIte, reduceCtorEq, Nat.reduceAdd, Nat.reduceEqDiff, Nat.reduceLT, Nat.reduceLeDiff, Nat.reduceSub, Nat.reduceMul, Nat.reduceBEq, Int.reduceToNat, Int.reduceLE, Int.reduceLT, Int.reducePow]; done) | (simp only [go_sem, Try.ntmps13, reduceIte, reduceCtorEq, Nat.reduceAdd, Nat.reduceEqDiff, Nat.reduceLT, Nat.reduceLeDiff, Nat.reduceSub, Nat.reduceMul, Nat.reduceBEq, Int.reduceToNat, Int.reduceLE, Int.reduceLT, Int.reducePow]; omega)
        case k5 => simp only [go_sem, Try.ntmps13, reduceIte, reduceCtorEq, Nat.reduceAdd, Nat.reduceEqDiff, Nat.reduceLT, Nat.reduceLeDiff, Nat.reduceSub, Nat.reduceMul, Nat.reduceBEq, Int.reduceToNat, Int.reduceLE, Int.reduceLT, Int.reducePow]; rfl
        refine AWp.cond (b := ?b6) ?c6 ?t6 ?f6
        case c6 => simp only [go_sem, Try.ntmps13, reduceIte, reduceCtorEq, Nat.reduceAdd, Nat.reduceEqDiff, Nat.reduceLT, Nat.reduceLeDiff, Nat.reduceSub, Nat.reduceMul, Nat.reduceBEq, Int.reduceToNat, Int.reduceLE, Int.reduceLT, Int.reducePow]; rfl
        case t6 =>
          intro hb2
          have hbad : fewB (rowsB es) i = true := hb2
          refine AWp.seq ?_
          refine AWp.reg (S1 := ?S7) (ob := ?o7) (S' := ?K7) tab_ok (noKnow _) mixed [2] ?r7 ?h7 ?k7 ?w7
          case r7 => simp only [go_sem, Try.ntmps13, reduceIte, reduceCtorEq, Nat.reduceAdd, Nat.reduceEqDiff, Nat.reduceLT, Nat.reduceLeDiff, Nat.reduceSub, Nat.reduceMul, Nat.reduceBEq, Int.reduceToNat, Int.reduceLE, Int.reduceLT, Int.reducePow]; rfl
          case h7 => first | exact True.intro | omega | (simp only [go_sem, Try.ntmps13, reduceIte, reduceCtorEq, Nat.reduceAdd, Nat.reduceEqDiff, Nat.reduceLT, Nat.reduceLeDiff, Nat.reduceSub, Nat.reduceMul, Nat.reduceBEq, Int.reduceToNat, Int.reduceLE, Int.reduceLT, Int.reducePow]; done) | (simp only [go_sem, Try.ntmps13, reduceIte, reduceCtorEq, Nat.reduceAdd, Nat.reduceEqDiff, Nat.reduceLT, Nat.reduceLeDiff, Nat.reduceSub, Nat.reduceMul, Nat.reduceBEq, Int.reduceToNat, Int.reduceLE, Int.reduceLT, Int.reducePow]; omega)
          case k7 => simp only [go_sem, Try.ntmps13, reduceIte, reduceCtorEq, Nat.reduceAdd, Nat.reduceEqDiff, Nat.reduceLT, Nat.reduceLeDiff, Nat.reduceSub, Nat.reduceMul, Nat.reduceBEq, Int.reduceToNat, Int.reduceLE, Int.reduceLT, Int.reducePow]; rfl
          refine AWp.ret ?_
          refine ends_p (vs := ?vs1) (ob := ?ro1) (vs' := ?ws1) (ks := ?ks1) (ob2 := ?rp1) tab_ok (by simp) ?er1 ?eo1 ?ef1 ?eg1 ?en1 ?ek1 ?ev1
          case er1 => simp only [go_sem, Try.ntmps13, reduceIte, reduceCtorEq, Nat.reduceAdd, Nat.reduceEqDiff, Nat.reduceLT, Nat.reduceLeDiff, Nat.reduceSub, Nat.reduceMul, Nat.reduceBEq, Int.reduceToNat, Int.reduceLE, Int.reduceLT, Int.reducePow, Try.results13]; rfl
          case eo1 => first | exact True.intro | simp only [go_sem, Try.ntmps13, reduceIte, reduceCtorEq, Nat.reduceAdd, Nat.reduceEqDiff, Nat.reduceLT, Nat.reduceLeDiff, Nat.reduceSub, Nat.reduceMul, Nat.reduceBEq, Int.reduceToNat, Int.reduceLE, Int.reduceLT, Int.reducePow]
          case ef1 => simp only [go_sem, Try.ntmps13, reduceIte, reduceCtorEq, Nat.reduceAdd, Nat.reduceEqDiff, Nat.reduceLT, Nat.reduceLeDiff, Nat.reduceSub, Nat.reduceMul, Nat.reduceBEq, Int.reduceToNat, Int.reduceLE, Int.reduceLT, Int.reducePow]; rfl
          case eg1 => first | exact True.intro | simp only [go_sem, Try.ntmps13, reduceIte, reduceCtorEq, Nat.reduceAdd, Nat.reduceEqDiff, Nat.reduceLT, Nat.reduceLeDiff, Nat.reduceSub, Nat.reduceMul, Nat.reduceBEq, Int.reduceToNat, Int.reduceLE, Int.reduceLT, Int.reducePow]
          case en1 => simp only [go_sem, Try.ntmps13, reduceIte, reduceCtorEq, Nat.reduceAdd, Nat.reduceEqDiff, Nat.reduceLT, Nat.reduceLeDiff, Nat.reduceSub, Nat.reduceMul, Nat.reduceBEq, Int.reduceToNat, Int.reduceLE, Int.reduceLT, Int.reducePow]
          case ek1 => simp only [go_sem, Try.ntmps13, reduceIte, reduceCtorEq, Nat.reduceAdd, Nat.reduceEqDiff, Nat.reduceLT, Nat.reduceLeDiff, Nat.reduceSub, Nat.reduceMul, Nat.reduceBEq, Int.reduceToNat, Int.reduceLE, Int.reduceLT, Int.reducePow]
          case ev1 =>
            have : fewOk (rowsB es) = false := all_no (l := List.range (rowsB es).length) (i := i) (p := fun i => !fewB (rowsB es) i) (by simpa [hrl] using hi) 0 (by simpa [List.getD_eq_getElem?_getD, List.getElem?_range (show i < (rowsB es).length by omega)] using hbad)
            rw [this]; rfl
        case f6 =>
          intro hb2
          have hbad : fewB (rowsB es) i = false := hb2
          refine AWp.skip ?_
          refine AWp.reg (S1 := ?S8) (ob := ?o8) (S' := ?K8) tab_ok (noKnow _) mixed [0, 3] ?r8 ?h8 ?k8 ?w8
          case r8 => simp only [go_sem, Try.ntmps13, reduceIte, reduceCtorEq, Nat.reduceAdd, Nat.reduceEqDiff, Nat.reduceLT, Nat.reduceLeDiff, Nat.reduceSub, Nat.reduceMul, Nat.reduceBEq, Int.reduceToNat, Int.reduceLE, Int.reduceLT, Int.reducePow]; rfl
          case h8 => first | exact True.intro | omega | (simp only [go_sem, Try.ntmps13, reduceIte, reduceCtorEq, Nat.reduceAdd, Nat.reduceEqDiff, Nat.reduceLT, Nat.reduceLeDiff, Nat.reduceSub, Nat.reduceMul, Nat.reduceBEq, Int.reduceToNat, Int.reduceLE, Int.reduceLT, Int.reducePow]; done) | (simp only [go_sem, Try.ntmps13, reduceIte, reduceCtorEq, Nat.reduceAdd, Nat.reduceEqDiff, Nat.reduceLT, Nat.reduceLeDiff, Nat.reduceSub, Nat.reduceMul, Nat.reduceBEq, Int.reduceToNat, Int.reduceLE, Int.reduceLT, Int.reducePow]; omega)
          case k8 => simp only [go_sem, Try.ntmps13, reduceIte, reduceCtorEq, Nat.reduceAdd, Nat.reduceEqDiff, Nat.reduceLT, Nat.reduceLeDiff, Nat.reduceSub, Nat.reduceMul, Nat.reduceBEq, Int.reduceToNat, Int.reduceLE, Int.reduceLT, Int.reducePow]; rfl
          exact ⟨es.length - (i + 1), _, by omega, Conv.refl _, i + 1, by omega, rfl, by simp [List.range_succ, ht, hbad], rfl⟩
      case f4 =>
        intro hb1
        have hi : i = es.length := by simp only [decide_eq_false_iff_not] at hb1; omega
        subst hi
        refine AWp.exit ?_
        refine thenA_exit ?_
        refine thenA_exit ?_
        refine inB_eq ?_
        refine AWp.seq ?_
        refine AWp.reg (S1 := ?S9) (ob := ?o9) (S' := ?K9) tab_ok (noKnow _) mixed [2] ?r9 ?h9 ?k9 ?w9
        case r9 => simp only [go_sem, Try.ntmps13, reduceIte, reduceCtorEq, Nat.reduceAdd, Nat.reduceEqDiff, Nat.reduceLT, Nat.reduceLeDiff, Nat.reduceSub, Nat.reduceMul, Nat.reduceBEq, Int.reduceToNat, Int.reduceLE, Int.reduceLT, Int.reducePow]; rfl
        case h9 => first | exact True.intro | omega | (simp only [go_sem, Try.ntmps13, reduceIte, reduceCtorEq, Nat.reduceAdd, Nat.reduceEqDiff, Nat.reduceLT, Nat.reduceLeDiff, Nat.reduceSub, Nat.reduceMul, Nat.reduceBEq, Int.reduceToNat, Int.reduceLE, Int.reduceLT, Int.reducePow]; done) | (simp only [go_sem, Try.ntmps13, reduceIte, reduceCtorEq, Nat.reduceAdd, Nat.reduceEqDiff, Nat.reduceLT, Nat.reduceLeDiff, Nat.reduceSub, Nat.reduceMul, Nat.reduceBEq, Int.reduceToNat, Int.reduceLE, Int.reduceLT, Int.reducePow]; omega)
        case k9 => simp only [go_sem, Try.ntmps13, reduceIte, reduceCtorEq, Nat.reduceAdd, Nat.reduceEqDiff, Nat.reduceLT, Nat.reduceLeDiff, Nat.reduceSub, Nat.reduceMul, Nat.reduceBEq, Int.reduceToNat, Int.reduceLE, Int.reduceLT, Int.reducePow]; rfl
        refine AWp.ret ?_
        refine ends_p (vs := ?vs2) (ob := ?ro2) (vs' := ?ws2) (ks := ?ks2) (ob2 := ?rp2) tab_ok (by simp) ?er2 ?eo2 ?ef2 ?eg2 ?en2 ?ek2 ?ev2
        case er2 => simp only [go_sem, Try.ntmps13, reduceIte, reduceCtorEq, Nat.reduceAdd, Nat.reduceEqDiff, Nat.reduceLT, Nat.reduceLeDiff, Nat.reduceSub, Nat.reduceMul, Nat.reduceBEq, Int.reduceToNat, Int.reduceLE, Int.reduceLT, Int.reducePow, Try.results13]; rfl
        case eo2 => first | exact True.intro | simp only [go_sem, Try.ntmps13, reduceIte, reduceCtorEq, Nat.reduceAdd, Nat.reduceEqDiff, Nat.reduceLT, Nat.reduceLeDiff, Nat.reduceSub, Nat.reduceMul, Nat.reduceBEq, Int.reduceToNat, Int.reduceLE, Int.reduceLT, Int.reducePow]
        case ef2 => simp only [go_sem, Try.ntmps13, reduceIte, reduceCtorEq, Nat.reduceAdd, Nat.reduceEqDiff, Nat.reduceLT, Nat.reduceLeDiff, Nat.reduceSub, Nat.reduceMul, Nat.reduceBEq, Int.reduceToNat, Int.reduceLE, Int.reduceLT, Int.reducePow]; rfl
        case eg2 => first | exact True.intro | simp only [go_sem, Try.ntmps13, reduceIte, reduceCtorEq, Nat.reduceAdd, Nat.reduceEqDiff, Nat.reduceLT, Nat.reduceLeDiff, Nat.reduceSub, Nat.reduceMul, Nat.reduceBEq, Int.reduceToNat, Int.reduceLE, Int.reduceLT, Int.reducePow]
        case en2 => simp only [go_sem, Try.ntmps13, reduceIte, reduceCtorEq, Nat.reduceAdd, Nat.reduceEqDiff, Nat.reduceLT, Nat.reduceLeDiff, Nat.reduceSub, Nat.reduceMul, Nat.reduceBEq, Int.reduceToNat, Int.reduceLE, Int.reduceLT, Int.reducePow]
        case ek2 => simp only [go_sem, Try.ntmps13, reduceIte, reduceCtorEq, Nat.reduceAdd, Nat.reduceEqDiff, Nat.reduceLT, Nat.reduceLeDiff, Nat.reduceSub, Nat.reduceMul, Nat.reduceBEq, Int.reduceToNat, Int.reduceLE, Int.reduceLT, Int.reducePow]
        case ev2 =>
          have : fewOk (rowsB es) = true := by rw [fewOk, hrl]; exact ht
          rw [this]; rfl
  · cases hq

end Go.Proofs.Hg

set_option linter.unusedSimpArgs false
set_option linter.unusedVariables false
set_option maxHeartbeats 4000000
namespace Go.Proofs.Hg
open Go.RowKit
set_option maxRecDepth 100000
def ownR (L : List (List UInt8)) (i : Nat) : List (List D) := (List.range i).map fun j => [.slice none 1 (brow (L.getD j []))]
theorem ownR_len (L : List (List UInt8)) (i : Nat) : (ownR L i).length = i := by simp [ownR]
theorem ownR_succ (L : List (List UInt8)) (i : Nat) : ownR L (i + 1) = ownR L i ++ [[.slice none 1 (brow (L.getD i []))]] := by simp [ownR, List.range_succ]
theorem ownR_ok (L : List (List UInt8)) (i : Nat) : RowsOk (ownR L i) := by
  intro r hr
  obtain ⟨j, _, rfl⟩ := List.mem_map.1 hr
  simp [rowZ1, rowB1]
theorem ownR_rows (L : List (List UInt8)) : rowsB (ownR L L.length) = L := by
  apply List.ext_getElem
  · simp [rowsB, ownR]
  · intro i h1 h2
    simp [rowsB, ownR, rowB1, List.getElem?_eq_getElem h2]
theorem few_rows {es : List (List D)} (h : fewOk (rowsB es) = true) : es.length ≤ 12 ∧ ∀ r ∈ es, (rowB1 r).length ≤ 5000 := by
  have h12 := few_le h
  rw [rowsB_len] at h12
  refine ⟨h12, fun r hr => ?_⟩
  obtain ⟨i, hi, rfl⟩ := List.mem_iff_getElem.1 hr
  have hg := List.all_eq_true.1 h i (by simpa [rowsB_len] using hi)
  simp only [fewB, Bool.not_eq_true', Bool.or_eq_false_iff, decide_eq_false_iff_not] at hg
  have e : (rowsB es).getD i [] = rowB1 es[i] := by rw [getD_lt (by rw [rowsB_len]; exact hi)]; simp [rowsB]
  rw [e] at hg
  omega
theorem ownR_recs {L : List (List UInt8)} (h : L.length ≤ 12) (h2 : ∀ r ∈ L, r.length ≤ 5000) : RecsOk (ownR L L.length) := by
  refine ⟨ownR_ok _ _, by rw [ownR_len]; omega, fun r hr => ?_⟩
  obtain ⟨j, hj, rfl⟩ := List.mem_map.1 hr
  have hj : j < L.length := by simpa using hj
  simp only [rowB1, unb_brow]
  exact h2 _ (by rw [getD_lt hj]; exact List.getElem_mem _)
theorem allL_len (L : List (List UInt8)) : (allL L).length ≤ L.length := by
  have h : ∀ (n : Nat) (L : List (List UInt8)), (allP n L).length ≤ n := fun n => by
    induction n with
    | zero => intro L; simp [allP]
    | succ n ih => intro L; unfold allP; split; simp [ih]; simp
  exact h _ _
theorem dcF_len (L : List (List UInt8)) : (dcF L).length ≤ 1024 := by
  unfold dcF
  split
  · rename_i h
    exact (rightL_in (dErr_zero h).2.2.2.2.2.2.2).2.2.1
  · simp
theorem allL_files (L : List (List UInt8)) : ∀ c ∈ allL L, c.2.length ≤ 1024 := by
  have h : ∀ (n : Nat) (L : List (List UInt8)), ∀ c ∈ allP n L, c.2.length ≤ 1024 := fun n => by
    induction n with
    | zero => intro L c hc; simp [allP] at hc
    | succ n ih =>
      intro L c hc
      unfold allP at hc
      split at hc
      · rename_i h
        rcases List.mem_cons.1 hc with rfl | hc
        · exact (rightL_in (dErr_zero h).2.2.2.2.2.2.2).2.2.1
        · exact ih _ c hc
      · simp at hc
  exact h _ _
theorem cmrow_get (l : List CommL) (i : Nat) : (cmrow l).getD i [.int .i64 0, .slice (some true) 3 []] = if i < l.length then cmD (l.getD i (0, [])) else [.int .i64 0, .slice (some true) 3 []] := by
  simp only [cmrow, List.getD_eq_getElem?_getD, List.getElem?_map]
  split
  · rename_i h; simp [List.getElem?_eq_getElem h]
  · rename_i h; simp [List.getElem?_eq_none (by omega : l.length ≤ i)]
theorem has_rows {es : List (List D)} (h : ∀ r ∈ es, (Ty.slice (.int .u8)).has r) : RowsOk es := by
  intro r hr
  have := h r hr
  unfold Ty.has at this
  obtain ⟨z, fs, rfl, _, hfs⟩ := this
  have e := has_bytes (r := fs) hfs
  show [D.slice z 1 fs] = [.slice z 1 (brow (unb fs))]
  rw [← e]
def decodesF : List AV → Option (AVal × Prop)
  | [.s (.d (.slice z e es))] => some (.one (dv (.bool true)), (es = [] ∨ e = 1) ∧ RowsOk es)
  | _ => none
def kn4 : List (Nat × Cont) := [(9, pureK aliveF), (13, pureK fewF), (14, pureK decF), (15, pureK rDecF), (16, pureK allF), (17, pureK rAllF), (18, pureK same4F), (19, pureK same7F)]
theorem kn4_ok : ∀ p ∈ kn4, ContOk Try.prog p.1 p.2 := by
  intro p hp
  simp only [kn4, List.mem_cons, List.not_mem_nil, or_false] at hp
  rcases hp with rfl | rfl | rfl | rfl | rfl | rfl | rfl | rfl
  · exact aliveF_ok
  · exact fewF_ok
  · exact decF_ok
  · exact rDecF_ok
  · exact allF_ok
  · exact rAllF_ok
  · exact same4F_ok
  · exact same7F_ok
theorem decodesF_ok : ContOk Try.prog 4 (pureK decodesF) := by
  refine pure_ok (nargs := 1) Try.func4 rfl (by kernel_rfl) (Nat.le_of_ble_eq_true (by kernel_rfl)) ?_
  intro args q hq hob
  unfold decodesF at hq
  split at hq
  · rename_i z e es
    injection hq with hq
    subst hq
    obtain ⟨h1, h2⟩ : (es = [] ∨ e = 1) ∧ RowsOk es := hob
    have hrl := rowsB_len es
    refine ⟨rfl, by simp [AV.ids, Sc.ids], by simp [AVal.ids, AV.ids, Sc.ids], by simp, ?_⟩
    refine AWp.seq ?_
    refine AWp.reg (S1 := ?S1) (ob := ?o1) (S' := ?K1) tab_ok (knowL_ok kn4_ok) mixed [0] ?r1 ?h1 ?k1 ?w1
    case r1 => simp only [go_sem, kn4, aliveF, fewF, decF, rDecF, allF, rAllF, same4F, same7F, decV_tup, unf_fdrow, ownR_rows, cmrow_len, Try.ntmps4, reduceIte, reduceCtorEq, Nat.reduceAdd, Nat.reduceEqDiff, Nat.reduceLT, Nat.reduceLeDiff, Nat.reduceSub, Nat.reduceMul, Nat.reduceBEq, Int.reduceToNat, Int.reduceLE, Int.reduceLT, Int.reducePow]; rfl
    case h1 => first | exact True.intro | omega | (simp only [go_sem, kn4, aliveF, fewF, decF, rDecF, allF, rAllF, same4F, same7F, decV_tup, unf_fdrow, ownR_rows, cmrow_len, Try.ntmps4, reduceIte, reduceCtorEq, Nat.reduceAdd, Nat.reduceEqDiff, Nat.reduceLT, Nat.reduceLeDiff, Nat.reduceSub, Nat.reduceMul, Nat.reduceBEq, Int.reduceToNat, Int.reduceLE, Int.reduceLT, Int.reducePow]; done) | (simp only [go_sem, kn4, aliveF, fewF, decF, rDecF, allF, rAllF, same4F, same7F, decV_tup, unf_fdrow, ownR_rows, cmrow_len, Try.ntmps4, reduceIte, reduceCtorEq, Nat.reduceAdd, Nat.reduceEqDiff, Nat.reduceLT, Nat.reduceLeDiff, Nat.reduceSub, Nat.reduceMul, Nat.reduceBEq, Int.reduceToNat, Int.reduceLE, Int.reduceLT, Int.reducePow]; omega)
    case k1 => simp only [go_sem, kn4, aliveF, fewF, decF, rDecF, allF, rAllF, same4F, same7F, decV_tup, unf_fdrow, ownR_rows, cmrow_len, Try.ntmps4, reduceIte, reduceCtorEq, Nat.reduceAdd, Nat.reduceEqDiff, Nat.reduceLT, Nat.reduceLeDiff, Nat.reduceSub, Nat.reduceMul, Nat.reduceBEq, Int.reduceToNat, Int.reduceLE, Int.reduceLT, Int.reducePow]; rfl
    refine AWp.seq ?_
    refine AWp.reg (S1 := ?S2) (ob := ?o2) (S' := ?K2) tab_ok (knowL_ok kn4_ok) mixed [0, 3] ?r2 ?h2 ?k2 ?w2
    case r2 => simp only [go_sem, kn4, aliveF, fewF, decF, rDecF, allF, rAllF, same4F, same7F, decV_tup, unf_fdrow, ownR_rows, cmrow_len, Try.ntmps4, reduceIte, reduceCtorEq, Nat.reduceAdd, Nat.reduceEqDiff, Nat.reduceLT, Nat.reduceLeDiff, Nat.reduceSub, Nat.reduceMul, Nat.reduceBEq, Int.reduceToNat, Int.reduceLE, Int.reduceLT, Int.reducePow]; rfl
    case h2 =>
      exact ⟨h1, h2⟩
    case k2 => simp only [go_sem, kn4, aliveF, fewF, decF, rDecF, allF, rAllF, same4F, same7F, decV_tup, unf_fdrow, ownR_rows, cmrow_len, Try.ntmps4, reduceIte, reduceCtorEq, Nat.reduceAdd, Nat.reduceEqDiff, Nat.reduceLT, Nat.reduceLeDiff, Nat.reduceSub, Nat.reduceMul, Nat.reduceBEq, Int.reduceToNat, Int.reduceLE, Int.reduceLT, Int.reducePow]; rfl
    refine AWp.seq ?_
    refine AWp.seq ?_
    refine AWp.reg (S1 := ?S3) (ob := ?o3) (S' := ?K3) tab_ok (knowL_ok kn4_ok) mixed [0, 21] ?r3 ?h3 ?k3 ?w3
    case r3 => simp only [go_sem, kn4, aliveF, fewF, decF, rDecF, allF, rAllF, same4F, same7F, decV_tup, unf_fdrow, ownR_rows, cmrow_len, Try.ntmps4, reduceIte, reduceCtorEq, Nat.reduceAdd, Nat.reduceEqDiff, Nat.reduceLT, Nat.reduceLeDiff, Nat.reduceSub, Nat.reduceMul, Nat.reduceBEq, Int.reduceToNat, Int.reduceLE, Int.reduceLT, Int.reducePow]; rfl
    case h3 => first | exact True.intro | omega | (simp only [go_sem, kn4, aliveF, fewF, decF, rDecF, allF, rAllF, same4F, same7F, decV_tup, unf_fdrow, ownR_rows, cmrow_len, Try.ntmps4, reduceIte, reduceCtorEq, Nat.reduceAdd, Nat.reduceEqDiff, Nat.reduceLT, Nat.reduceLeDiff, Nat.reduceSub, Nat.reduceMul, Nat.reduceBEq, Int.reduceToNat, Int.reduceLE, Int.reduceLT, Int.reducePow]; done) | (simp only [go_sem, kn4, aliveF, fewF, decF, rDecF, allF, rAllF, same4F, same7F, decV_tup, unf_fdrow, ownR_rows, cmrow_len, Try.ntmps4, reduceIte, reduceCtorEq, Nat.reduceAdd, Nat.reduceEqDiff, Nat.reduceLT, Nat.reduceLeDiff, Nat.reduceSub, Nat.reduceMul, Nat.reduceBEq, Int.reduceToNat, Int.reduceLE, Int.reduceLT, Int.reducePow]; omega)
    case k3 => simp only [go_sem, kn4, aliveF, fewF, decF, rDecF, allF, rAllF, same4F, same7F, decV_tup, unf_fdrow, ownR_rows, cmrow_len, Try.ntmps4, reduceIte, reduceCtorEq, Nat.reduceAdd, Nat.reduceEqDiff, Nat.reduceLT, Nat.reduceLeDiff, Nat.reduceSub, Nat.reduceMul, Nat.reduceBEq, Int.reduceToNat, Int.reduceLE, Int.reduceLT, Int.reducePow]; rfl
    refine AWp.cond (b := ?b4) ?c4 ?t4 ?f4
    case c4 => simp only [go_sem, kn4, aliveF, fewF, decF, rDecF, allF, rAllF, same4F, same7F, decV_tup, unf_fdrow, ownR_rows, cmrow_len, Try.ntmps4, reduceIte, reduceCtorEq, Nat.reduceAdd, Nat.reduceEqDiff, Nat.reduceLT, Nat.reduceLeDiff, Nat.reduceSub, Nat.reduceMul, Nat.reduceBEq, Int.reduceToNat, Int.reduceLE, Int.reduceLT, Int.reducePow]; rfl
    case t4 =>
      intro hb1
      refine AWp.seq ?_
      refine AWp.reg (S1 := ?S5) (ob := ?o5) (S' := ?K5) tab_ok (knowL_ok kn4_ok) mixed [2] ?r5 ?h5 ?k5 ?w5
      case r5 => simp only [go_sem, kn4, aliveF, fewF, decF, rDecF, allF, rAllF, same4F, same7F, decV_tup, unf_fdrow, ownR_rows, cmrow_len, Try.ntmps4, reduceIte, reduceCtorEq, Nat.reduceAdd, Nat.reduceEqDiff, Nat.reduceLT, Nat.reduceLeDiff, Nat.reduceSub, Nat.reduceMul, Nat.reduceBEq, Int.reduceToNat, Int.reduceLE, Int.reduceLT, Int.reducePow]; rfl
      case h5 => first | exact True.intro | omega | (simp only [go_sem, kn4, aliveF, fewF, decF, rDecF, allF, rAllF, same4F, same7F, decV_tup, unf_fdrow, ownR_rows, cmrow_len, Try.ntmps4, reduceIte, reduceCtorEq, Nat.reduceAdd, Nat.reduceEqDiff, Nat.reduceLT, Nat.reduceLeDiff, Nat.reduceSub, Nat.reduceMul, Nat.reduceBEq, Int.reduceToNat, Int.reduceLE, Int.reduceLT, Int.reducePow]; done) | (simp only [go_sem, kn4, aliveF, fewF, decF, rDecF, allF, rAllF, same4F, same7F, decV_tup, unf_fdrow, ownR_rows, cmrow_len, Try.ntmps4, reduceIte, reduceCtorEq, Nat.reduceAdd, Nat.reduceEqDiff, Nat.reduceLT, Nat.reduceLeDiff, Nat.reduceSub, Nat.reduceMul, Nat.reduceBEq, Int.reduceToNat, Int.reduceLE, Int.reduceLT, Int.reducePow]; omega)
      case k5 => simp only [go_sem, kn4, aliveF, fewF, decF, rDecF, allF, rAllF, same4F, same7F, decV_tup, unf_fdrow, ownR_rows, cmrow_len, Try.ntmps4, reduceIte, reduceCtorEq, Nat.reduceAdd, Nat.reduceEqDiff, Nat.reduceLT, Nat.reduceLeDiff, Nat.reduceSub, Nat.reduceMul, Nat.reduceBEq, Int.reduceToNat, Int.reduceLE, Int.reduceLT, Int.reducePow]; rfl
      refine AWp.ret ?_
      refine ends_p (vs := ?vs1) (ob := ?ro1) (vs' := ?ws1) (ks := ?ks1) (ob2 := ?rp1) tab_ok (by simp) ?er1 ?eo1 ?ef1 ?eg1 ?en1 ?ek1 ?ev1
      case er1 => simp only [go_sem, kn4, aliveF, fewF, decF, rDecF, allF, rAllF, same4F, same7F, decV_tup, unf_fdrow, ownR_rows, cmrow_len, Try.ntmps4, reduceIte, reduceCtorEq, Nat.reduceAdd, Nat.reduceEqDiff, Nat.reduceLT, Nat.reduceLeDiff, Nat.reduceSub, Nat.reduceMul, Nat.reduceBEq, Int.reduceToNat, Int.reduceLE, Int.reduceLT, Int.reducePow, Try.results4]; rfl
      case eo1 => first | exact True.intro | simp only [go_sem, kn4, aliveF, fewF, decF, rDecF, allF, rAllF, same4F, same7F, decV_tup, unf_fdrow, ownR_rows, cmrow_len, Try.ntmps4, reduceIte, reduceCtorEq, Nat.reduceAdd, Nat.reduceEqDiff, Nat.reduceLT, Nat.reduceLeDiff, Nat.reduceSub, Nat.reduceMul, Nat.reduceBEq, Int.reduceToNat, Int.reduceLE, Int.reduceLT, Int.reducePow]
      case ef1 => simp only [go_sem, kn4, aliveF, fewF, decF, rDecF, allF, rAllF, same4F, same7F, decV_tup, unf_fdrow, ownR_rows, cmrow_len, Try.ntmps4, reduceIte, reduceCtorEq, Nat.reduceAdd, Nat.reduceEqDiff, Nat.reduceLT, Nat.reduceLeDiff, Nat.reduceSub, Nat.reduceMul, Nat.reduceBEq, Int.reduceToNat, Int.reduceLE, Int.reduceLT, Int.reducePow]; rfl
      case eg1 => first | exact True.intro | simp only [go_sem, kn4, aliveF, fewF, decF, rDecF, allF, rAllF, same4F, same7F, decV_tup, unf_fdrow, ownR_rows, cmrow_len, Try.ntmps4, reduceIte, reduceCtorEq, Nat.reduceAdd, Nat.reduceEqDiff, Nat.reduceLT, Nat.reduceLeDiff, Nat.reduceSub, Nat.reduceMul, Nat.reduceBEq, Int.reduceToNat, Int.reduceLE, Int.reduceLT, Int.reducePow]
      case en1 => simp only [go_sem, kn4, aliveF, fewF, decF, rDecF, allF, rAllF, same4F, same7F, decV_tup, unf_fdrow, ownR_rows, cmrow_len, Try.ntmps4, reduceIte, reduceCtorEq, Nat.reduceAdd, Nat.reduceEqDiff, Nat.reduceLT, Nat.reduceLeDiff, Nat.reduceSub, Nat.reduceMul, Nat.reduceBEq, Int.reduceToNat, Int.reduceLE, Int.reduceLT, Int.reducePow]
      case ek1 => simp only [go_sem, kn4, aliveF, fewF, decF, rDecF, allF, rAllF, same4F, same7F, decV_tup, unf_fdrow, ownR_rows, cmrow_len, Try.ntmps4, reduceIte, reduceCtorEq, Nat.reduceAdd, Nat.reduceEqDiff, Nat.reduceLT, Nat.reduceLeDiff, Nat.reduceSub, Nat.reduceMul, Nat.reduceBEq, Int.reduceToNat, Int.reduceLE, Int.reduceLT, Int.reducePow]
      case ev1 =>
        first | rfl | simp only [go_sem, kn4, aliveF, fewF, decF, rDecF, allF, rAllF, same4F, same7F, decV_tup, unf_fdrow, ownR_rows, cmrow_len, Try.ntmps4, reduceIte, reduceCtorEq, Nat.reduceAdd, Nat.reduceEqDiff, Nat.reduceLT, Nat.reduceLeDiff, Nat.reduceSub, Nat.reduceMul, Nat.reduceBEq, Int.reduceToNat, Int.reduceLE, Int.reduceLT, Int.reducePow]
    case f4 =>
      intro hb1
      have hfew : fewOk (rowsB es) = true := by simpa using hb1
      obtain ⟨f1, f2⟩ := few_rows hfew
      have hro : RecsOk es := ⟨h2, by omega, f2⟩
      have h5 := rows_len f2
      have hown := ownR_recs (by omega) h5
      refine AWp.skip ?_
      refine AWp.seq ?_
      refine AWp.reg (S1 := ?S6) (ob := ?o6) (S' := ?K6) tab_ok (knowL_ok kn4_ok) mixed [0, 4] ?r6 ?h6 ?k6 ?w6
      case r6 => simp only [go_sem, kn4, aliveF, fewF, decF, rDecF, allF, rAllF, same4F, same7F, decV_tup, unf_fdrow, ownR_rows, cmrow_len, Try.ntmps4, reduceIte, reduceCtorEq, Nat.reduceAdd, Nat.reduceEqDiff, Nat.reduceLT, Nat.reduceLeDiff, Nat.reduceSub, Nat.reduceMul, Nat.reduceBEq, Int.reduceToNat, Int.reduceLE, Int.reduceLT, Int.reducePow]; rfl
      case h6 => first | exact True.intro | omega | (simp only [go_sem, kn4, aliveF, fewF, decF, rDecF, allF, rAllF, same4F, same7F, decV_tup, unf_fdrow, ownR_rows, cmrow_len, Try.ntmps4, reduceIte, reduceCtorEq, Nat.reduceAdd, Nat.reduceEqDiff, Nat.reduceLT, Nat.reduceLeDiff, Nat.reduceSub, Nat.reduceMul, Nat.reduceBEq, Int.reduceToNat, Int.reduceLE, Int.reduceLT, Int.reducePow]; done) | (simp only [go_sem, kn4, aliveF, fewF, decF, rDecF, allF, rAllF, same4F, same7F, decV_tup, unf_fdrow, ownR_rows, cmrow_len, Try.ntmps4, reduceIte, reduceCtorEq, Nat.reduceAdd, Nat.reduceEqDiff, Nat.reduceLT, Nat.reduceLeDiff, Nat.reduceSub, Nat.reduceMul, Nat.reduceBEq, Int.reduceToNat, Int.reduceLE, Int.reduceLT, Int.reducePow]; omega)
      case k6 => simp only [go_sem, kn4, aliveF, fewF, decF, rDecF, allF, rAllF, same4F, same7F, decV_tup, unf_fdrow, ownR_rows, cmrow_len, Try.ntmps4, reduceIte, reduceCtorEq, Nat.reduceAdd, Nat.reduceEqDiff, Nat.reduceLT, Nat.reduceLeDiff, Nat.reduceSub, Nat.reduceMul, Nat.reduceBEq, Int.reduceToNat, Int.reduceLE, Int.reduceLT, Int.reducePow]; rfl
      refine AWp.seq ?_
      refine AWp.seq ?_
      refine AWp.reg (S1 := ?S7) (ob := ?o7) (S' := ?K7) tab_ok (knowL_ok kn4_ok) mixed [0, 4, 5] ?r7 ?h7 ?k7 ?w7
      case r7 => simp only [go_sem, kn4, aliveF, fewF, decF, rDecF, allF, rAllF, same4F, same7F, decV_tup, unf_fdrow, ownR_rows, cmrow_len, Try.ntmps4, reduceIte, reduceCtorEq, Nat.reduceAdd, Nat.reduceEqDiff, Nat.reduceLT, Nat.reduceLeDiff, Nat.reduceSub, Nat.reduceMul, Nat.reduceBEq, Int.reduceToNat, Int.reduceLE, Int.reduceLT, Int.reducePow]; rfl
      case h7 => first | exact True.intro | omega | (simp only [go_sem, kn4, aliveF, fewF, decF, rDecF, allF, rAllF, same4F, same7F, decV_tup, unf_fdrow, ownR_rows, cmrow_len, Try.ntmps4, reduceIte, reduceCtorEq, Nat.reduceAdd, Nat.reduceEqDiff, Nat.reduceLT, Nat.reduceLeDiff, Nat.reduceSub, Nat.reduceMul, Nat.reduceBEq, Int.reduceToNat, Int.reduceLE, Int.reduceLT, Int.reducePow]; done) | (simp only [go_sem, kn4, aliveF, fewF, decF, rDecF, allF, rAllF, same4F, same7F, decV_tup, unf_fdrow, ownR_rows, cmrow_len, Try.ntmps4, reduceIte, reduceCtorEq, Nat.reduceAdd, Nat.reduceEqDiff, Nat.reduceLT, Nat.reduceLeDiff, Nat.reduceSub, Nat.reduceMul, Nat.reduceBEq, Int.reduceToNat, Int.reduceLE, Int.reduceLT, Int.reducePow]; omega)
      case k7 => simp only [go_sem, kn4, aliveF, fewF, decF, rDecF, allF, rAllF, same4F, same7F, decV_tup, unf_fdrow, ownR_rows, cmrow_len, Try.ntmps4, reduceIte, reduceCtorEq, Nat.reduceAdd, Nat.reduceEqDiff, Nat.reduceLT, Nat.reduceLeDiff, Nat.reduceSub, Nat.reduceMul, Nat.reduceBEq, Int.reduceToNat, Int.reduceLE, Int.reduceLT, Int.reducePow]; rfl
      refine AWp.block ?_
      refine AWp.conv (Conv.nilT 4 (e := 1) (ety := 38) rfl rfl) ?_
      refine AWp.conv (Conv.keep [0, 4, 5] [0] (by simp [St.nilT])) ?_
      refine AWp.loop (fun k S => ∃ i : Nat, i ≤ es.length ∧ k = es.length - i ∧ S = ⟨[(0, .one (.s (.d (.slice z e es)))), (4, .one (.s (.row 0 1 0 i none))), (5, .one (dv (.int .i64 ((i : Nat) : Int))))], [(0, .row (ownR (rowsB es) i) 38)], 1⟩) es.length ?i1 ?n1
      case i1 =>
        exact ⟨0, by omega, rfl, by simp [St.nilT, St.keep, keepE, lookN, ownR]⟩
      case n1 =>
        rintro k S ⟨i, hi0, rfl, rfl⟩
        refine AWp.seq ?_
        refine AWp.seq ?_
        refine AWp.reg (S1 := ?S8) (ob := ?o8) (S' := ?K8) tab_ok (knowL_ok kn4_ok) mixed [0, 4, 5, 26] ?r8 ?h8 ?k8 ?w8
        case r8 => simp only [go_sem, kn4, aliveF, fewF, decF, rDecF, allF, rAllF, same4F, same7F, decV_tup, unf_fdrow, ownR_rows, cmrow_len, Try.ntmps4, reduceIte, reduceCtorEq, Nat.reduceAdd, Nat.reduceEqDiff, Nat.reduceLT, Nat.reduceLeDiff, Nat.reduceSub, Nat.reduceMul, Nat.reduceBEq, Int.reduceToNat, Int.reduceLE, Int.reduceLT, Int.reducePow]; rfl
        case h8 => first | exact True.intro | omega | (simp only [go_sem, kn4, aliveF, fewF, decF, rDecF, allF, rAllF, same4F, same7F, decV_tup, unf_fdrow, ownR_rows, cmrow_len, Try.ntmps4, reduceIte, reduceCtorEq, Nat.reduceAdd, Nat.reduceEqDiff, Nat.reduceLT, Nat.reduceLeDiff, Nat.reduceSub, Nat.reduceMul, Nat.reduceBEq, Int.reduceToNat, Int.reduceLE, Int.reduceLT, Int.reducePow]; done) | (simp only [go_sem, kn4, aliveF, fewF, decF, rDecF, allF, rAllF, same4F, same7F, decV_tup, unf_fdrow, ownR_rows, cmrow_len, Try.ntmps4, reduceIte, reduceCtorEq, Nat.reduceAdd, Nat.reduceEqDiff, Nat.reduceLT, Nat.reduceLeDiff, Nat.reduceSub, Nat.reduceMul, Nat.reduceBEq, Int.reduceToNat, Int.reduceLE, Int.reduceLT, Int.reducePow]; omega)
        case k8 => simp only [go_sem, kn4, aliveF, fewF, decF, rDecF, allF, rAllF, same4F, same7F, decV_tup, unf_fdrow, ownR_rows, cmrow_len, Try.ntmps4, reduceIte, reduceCtorEq, Nat.reduceAdd, Nat.reduceEqDiff, Nat.reduceLT, Nat.reduceLeDiff, Nat.reduceSub, Nat.reduceMul, Nat.reduceBEq, Int.reduceToNat, Int.reduceLE, Int.reduceLT, Int.reducePow]; rfl
        refine AWp.cond (b := ?b9) ?c9 ?t9 ?f9
        case c9 => simp only [go_sem, kn4, aliveF, fewF, decF, rDecF, allF, rAllF, same4F, same7F, decV_tup, unf_fdrow, ownR_rows, cmrow_len, Try.ntmps4, reduceIte, reduceCtorEq, Nat.reduceAdd, Nat.reduceEqDiff, Nat.reduceLT, Nat.reduceLeDiff, Nat.reduceSub, Nat.reduceMul, Nat.reduceBEq, Int.reduceToNat, Int.reduceLE, Int.reduceLT, Int.reducePow]; rfl
        case t9 =>
          intro hb2
          have hi : i < es.length := by simp only [decide_eq_true_eq] at hb2; omega
          obtain rfl : e = 1 := h1.resolve_left (by rintro rfl; simp at hi)
          have hrow := h2.get hi [.slice (some true) 1 []]
          refine AWp.skip ?_
          refine AWp.seq ?_
          refine AWp.block ?_
          refine AWp.reg (S1 := ?S10) (ob := ?o10) (S' := ?K10) tab_ok (knowL_ok kn4_ok) mixed [0, 4, 5] ?r10 ?h10 ?k10 ?w10
          case r10 => simp only [go_sem, kn4, aliveF, fewF, decF, rDecF, allF, rAllF, same4F, same7F, decV_tup, unf_fdrow, ownR_rows, cmrow_len, Try.ntmps4, reduceIte, reduceCtorEq, Nat.reduceAdd, Nat.reduceEqDiff, Nat.reduceLT, Nat.reduceLeDiff, Nat.reduceSub, Nat.reduceMul, Nat.reduceBEq, Int.reduceToNat, Int.reduceLE, Int.reduceLT, Int.reducePow, hrow]; rfl
          case h10 =>
            have hri := h5 ((rowsB es).getD i []) (by rw [getD_lt (by omega)]; exact List.getElem_mem _)
            rw [ownR_len]
            omega
          case k10 => simp only [go_sem, kn4, aliveF, fewF, decF, rDecF, allF, rAllF, same4F, same7F, decV_tup, unf_fdrow, ownR_rows, cmrow_len, Try.ntmps4, reduceIte, reduceCtorEq, Nat.reduceAdd, Nat.reduceEqDiff, Nat.reduceLT, Nat.reduceLeDiff, Nat.reduceSub, Nat.reduceMul, Nat.reduceBEq, Int.reduceToNat, Int.reduceLE, Int.reduceLT, Int.reducePow]; rfl
          refine AWp.reg (S1 := ?S11) (ob := ?o11) (S' := ?K11) tab_ok (knowL_ok kn4_ok) mixed [0, 4, 5] ?r11 ?h11 ?k11 ?w11
          case r11 => simp only [go_sem, kn4, aliveF, fewF, decF, rDecF, allF, rAllF, same4F, same7F, decV_tup, unf_fdrow, ownR_rows, cmrow_len, Try.ntmps4, reduceIte, reduceCtorEq, Nat.reduceAdd, Nat.reduceEqDiff, Nat.reduceLT, Nat.reduceLeDiff, Nat.reduceSub, Nat.reduceMul, Nat.reduceBEq, Int.reduceToNat, Int.reduceLE, Int.reduceLT, Int.reducePow]; rfl
          case h11 => first | exact True.intro | omega | (simp only [go_sem, kn4, aliveF, fewF, decF, rDecF, allF, rAllF, same4F, same7F, decV_tup, unf_fdrow, ownR_rows, cmrow_len, Try.ntmps4, reduceIte, reduceCtorEq, Nat.reduceAdd, Nat.reduceEqDiff, Nat.reduceLT, Nat.reduceLeDiff, Nat.reduceSub, Nat.reduceMul, Nat.reduceBEq, Int.reduceToNat, Int.reduceLE, Int.reduceLT, Int.reducePow]; done) | (simp only [go_sem, kn4, aliveF, fewF, decF, rDecF, allF, rAllF, same4F, same7F, decV_tup, unf_fdrow, ownR_rows, cmrow_len, Try.ntmps4, reduceIte, reduceCtorEq, Nat.reduceAdd, Nat.reduceEqDiff, Nat.reduceLT, Nat.reduceLeDiff, Nat.reduceSub, Nat.reduceMul, Nat.reduceBEq, Int.reduceToNat, Int.reduceLE, Int.reduceLT, Int.reducePow]; omega)
          case k11 => simp only [go_sem, kn4, aliveF, fewF, decF, rDecF, allF, rAllF, same4F, same7F, decV_tup, unf_fdrow, ownR_rows, cmrow_len, Try.ntmps4, reduceIte, reduceCtorEq, Nat.reduceAdd, Nat.reduceEqDiff, Nat.reduceLT, Nat.reduceLeDiff, Nat.reduceSub, Nat.reduceMul, Nat.reduceBEq, Int.reduceToNat, Int.reduceLE, Int.reduceLT, Int.reducePow]; rfl
          refine ⟨es.length - (i + 1), ⟨[(0, .one (.s (.d (.slice z 1 es)))), (4, .one (.s (.row 0 1 0 (i + 1) none))), (5, .one (dv (.int .i64 (((i + 1) : Nat) : Int))))], [(0, .row (ownR (rowsB es) (i + 1)) 38)], 1⟩, by omega, ?_, i + 1, by omega, rfl, rfl⟩
          exact (Conv.keep [0, 4, 5] [4] (by simp)).trans (Conv.rename (fun j => if j = 0 then 4 else j) (by simp; done) (by simp; done) (by simp [St.keep, keepE, lookN, AVal.ren, AV.ren, Sc.ren, AVal.ids, AV.ids, Sc.ids, ownR_len]; done) (by simp [St.keep, keepE, lookN, AObj.ren, AObj.ids, Sc.ids, Sc.ren, ownR_succ]; done) (by simp; done))
        case f9 =>
          intro hb2
          have hi : i = (rowsB es).length := by simp only [decide_eq_false_iff_not] at hb2; omega
          subst hi
          have hal := allL_len (rowsB es)
          refine AWp.exit ?_
          refine thenA_exit ?_
          refine thenA_exit ?_
          refine inB_eq ?_
          refine AWp.seq ?_
          refine AWp.conv (Conv.freezeAt 4 0 (e := 1) (ty := 38) rfl (by simp) rfl (ownR_len _ _).symm) ?_
          refine AWp.reg (S1 := ?S12) (ob := ?o12) (S' := ?K12) tab_ok (knowL_ok kn4_ok) mixed [0, 4, 6, 7, 8] ?r12 ?h12 ?k12 ?w12
          case r12 => simp only [go_sem, kn4, aliveF, fewF, decF, rDecF, allF, rAllF, same4F, same7F, decV_tup, unf_fdrow, ownR_rows, cmrow_len, Try.ntmps4, reduceIte, reduceCtorEq, Nat.reduceAdd, Nat.reduceEqDiff, Nat.reduceLT, Nat.reduceLeDiff, Nat.reduceSub, Nat.reduceMul, Nat.reduceBEq, Int.reduceToNat, Int.reduceLE, Int.reduceLT, Int.reducePow]; rfl
          case h12 =>
            exact ⟨.inr trivial, hown⟩
          case k12 => simp only [go_sem, kn4, aliveF, fewF, decF, rDecF, allF, rAllF, same4F, same7F, decV_tup, unf_fdrow, ownR_rows, cmrow_len, Try.ntmps4, reduceIte, reduceCtorEq, Nat.reduceAdd, Nat.reduceEqDiff, Nat.reduceLT, Nat.reduceLeDiff, Nat.reduceSub, Nat.reduceMul, Nat.reduceBEq, Int.reduceToNat, Int.reduceLE, Int.reduceLT, Int.reducePow]; rfl
          refine AWp.seq ?_
          refine AWp.reg (S1 := ?S13) (ob := ?o13) (S' := ?K13) tab_ok (knowL_ok kn4_ok) mixed [0, 4, 6, 7, 8, 9, 10, 11] ?r13 ?h13 ?k13 ?w13
          case r13 => simp only [go_sem, kn4, aliveF, fewF, decF, rDecF, allF, rAllF, same4F, same7F, decV_tup, unf_fdrow, ownR_rows, cmrow_len, Try.ntmps4, reduceIte, reduceCtorEq, Nat.reduceAdd, Nat.reduceEqDiff, Nat.reduceLT, Nat.reduceLeDiff, Nat.reduceSub, Nat.reduceMul, Nat.reduceBEq, Int.reduceToNat, Int.reduceLE, Int.reduceLT, Int.reducePow]; rfl
          case h13 =>
            exact ⟨h1, hro⟩
          case k13 => simp only [go_sem, kn4, aliveF, fewF, decF, rDecF, allF, rAllF, same4F, same7F, decV_tup, unf_fdrow, ownR_rows, cmrow_len, Try.ntmps4, reduceIte, reduceCtorEq, Nat.reduceAdd, Nat.reduceEqDiff, Nat.reduceLT, Nat.reduceLeDiff, Nat.reduceSub, Nat.reduceMul, Nat.reduceBEq, Int.reduceToNat, Int.reduceLE, Int.reduceLT, Int.reducePow]; rfl
          refine AWp.seq ?_
          refine AWp.reg (S1 := ?S14) (ob := ?o14) (S' := ?K14) tab_ok (knowL_ok kn4_ok) mixed [0, 4, 6, 7, 8, 9, 10, 11, 12] ?r14 ?h14 ?k14 ?w14
          case r14 => simp only [go_sem, kn4, aliveF, fewF, decF, rDecF, allF, rAllF, same4F, same7F, decV_tup, unf_fdrow, ownR_rows, cmrow_len, Try.ntmps4, reduceIte, reduceCtorEq, Nat.reduceAdd, Nat.reduceEqDiff, Nat.reduceLT, Nat.reduceLeDiff, Nat.reduceSub, Nat.reduceMul, Nat.reduceBEq, Int.reduceToNat, Int.reduceLE, Int.reduceLT, Int.reducePow]; rfl
          case h14 =>
            exact ⟨.inr trivial, hown⟩
          case k14 => simp only [go_sem, kn4, aliveF, fewF, decF, rDecF, allF, rAllF, same4F, same7F, decV_tup, unf_fdrow, ownR_rows, cmrow_len, Try.ntmps4, reduceIte, reduceCtorEq, Nat.reduceAdd, Nat.reduceEqDiff, Nat.reduceLT, Nat.reduceLeDiff, Nat.reduceSub, Nat.reduceMul, Nat.reduceBEq, Int.reduceToNat, Int.reduceLE, Int.reduceLT, Int.reducePow]; rfl
          refine AWp.seq ?_
          refine AWp.reg (S1 := ?S15) (ob := ?o15) (S' := ?K15) tab_ok (knowL_ok kn4_ok) mixed [0, 4, 6, 7, 8, 9, 10, 11, 12, 13] ?r15 ?h15 ?k15 ?w15
          case r15 => simp only [go_sem, kn4, aliveF, fewF, decF, rDecF, allF, rAllF, same4F, same7F, decV_tup, unf_fdrow, ownR_rows, cmrow_len, Try.ntmps4, reduceIte, reduceCtorEq, Nat.reduceAdd, Nat.reduceEqDiff, Nat.reduceLT, Nat.reduceLeDiff, Nat.reduceSub, Nat.reduceMul, Nat.reduceBEq, Int.reduceToNat, Int.reduceLE, Int.reduceLT, Int.reducePow]; rfl
          case h15 =>
            exact ⟨h1, hro⟩
          case k15 => simp only [go_sem, kn4, aliveF, fewF, decF, rDecF, allF, rAllF, same4F, same7F, decV_tup, unf_fdrow, ownR_rows, cmrow_len, Try.ntmps4, reduceIte, reduceCtorEq, Nat.reduceAdd, Nat.reduceEqDiff, Nat.reduceLT, Nat.reduceLeDiff, Nat.reduceSub, Nat.reduceMul, Nat.reduceBEq, Int.reduceToNat, Int.reduceLE, Int.reduceLT, Int.reducePow]; rfl
          refine AWp.seq ?_
          refine AWp.reg (S1 := ?S16) (ob := ?o16) (S' := ?K16) tab_ok (knowL_ok kn4_ok) mixed [6, 7, 8, 9, 10, 11, 12, 13, 14] ?r16 ?h16 ?k16 ?w16
          case r16 => simp only [go_sem, kn4, aliveF, fewF, decF, rDecF, allF, rAllF, same4F, same7F, decV_tup, unf_fdrow, ownR_rows, cmrow_len, Try.ntmps4, reduceIte, reduceCtorEq, Nat.reduceAdd, Nat.reduceEqDiff, Nat.reduceLT, Nat.reduceLeDiff, Nat.reduceSub, Nat.reduceMul, Nat.reduceBEq, Int.reduceToNat, Int.reduceLE, Int.reduceLT, Int.reducePow]; rfl
          case h16 =>
            exact ⟨.inr trivial, h1, hown.1, h2, by rw [ownR_len]; omega⟩
          case k16 => simp only [go_sem, kn4, aliveF, fewF, decF, rDecF, allF, rAllF, same4F, same7F, decV_tup, unf_fdrow, ownR_rows, cmrow_len, Try.ntmps4, reduceIte, reduceCtorEq, Nat.reduceAdd, Nat.reduceEqDiff, Nat.reduceLT, Nat.reduceLeDiff, Nat.reduceSub, Nat.reduceMul, Nat.reduceBEq, Int.reduceToNat, Int.reduceLE, Int.reduceLT, Int.reducePow]; rfl
          refine AWp.seq ?_
          refine AWp.reg (S1 := ?S17) (ob := ?o17) (S' := ?K17) tab_ok (knowL_ok kn4_ok) mixed [6, 7, 8, 9, 10, 11, 12, 13, 14, 15] ?r17 ?h17 ?k17 ?w17
          case r17 => simp only [go_sem, kn4, aliveF, fewF, decF, rDecF, allF, rAllF, same4F, same7F, decV_tup, unf_fdrow, ownR_rows, cmrow_len, Try.ntmps4, reduceIte, reduceCtorEq, Nat.reduceAdd, Nat.reduceEqDiff, Nat.reduceLT, Nat.reduceLeDiff, Nat.reduceSub, Nat.reduceMul, Nat.reduceBEq, Int.reduceToNat, Int.reduceLE, Int.reduceLT, Int.reducePow]; rfl
          case h17 =>
            exact ⟨.inr trivial, .inr trivial, by rw [fdrow_len]; have := dcF_len (rowsB es); omega⟩
          case k17 => simp only [go_sem, kn4, aliveF, fewF, decF, rDecF, allF, rAllF, same4F, same7F, decV_tup, unf_fdrow, ownR_rows, cmrow_len, Try.ntmps4, reduceIte, reduceCtorEq, Nat.reduceAdd, Nat.reduceEqDiff, Nat.reduceLT, Nat.reduceLeDiff, Nat.reduceSub, Nat.reduceMul, Nat.reduceBEq, Int.reduceToNat, Int.reduceLE, Int.reduceLT, Int.reducePow]; rfl
          refine AWp.seq ?_
          refine AWp.seq ?_
          refine AWp.reg (S1 := ?S18) (ob := ?o18) (S' := ?K18) tab_ok (knowL_ok kn4_ok) mixed [6, 7, 8, 9, 10, 11, 12, 13, 14, 15, 66] ?r18 ?h18 ?k18 ?w18
          case r18 => simp only [go_sem, kn4, aliveF, fewF, decF, rDecF, allF, rAllF, same4F, same7F, decV_tup, unf_fdrow, ownR_rows, cmrow_len, Try.ntmps4, reduceIte, reduceCtorEq, Nat.reduceAdd, Nat.reduceEqDiff, Nat.reduceLT, Nat.reduceLeDiff, Nat.reduceSub, Nat.reduceMul, Nat.reduceBEq, Int.reduceToNat, Int.reduceLE, Int.reduceLT, Int.reducePow]; rfl
          case h18 => first | exact True.intro | omega | (simp only [go_sem, kn4, aliveF, fewF, decF, rDecF, allF, rAllF, same4F, same7F, decV_tup, unf_fdrow, ownR_rows, cmrow_len, Try.ntmps4, reduceIte, reduceCtorEq, Nat.reduceAdd, Nat.reduceEqDiff, Nat.reduceLT, Nat.reduceLeDiff, Nat.reduceSub, Nat.reduceMul, Nat.reduceBEq, Int.reduceToNat, Int.reduceLE, Int.reduceLT, Int.reducePow]; done) | (simp only [go_sem, kn4, aliveF, fewF, decF, rDecF, allF, rAllF, same4F, same7F, decV_tup, unf_fdrow, ownR_rows, cmrow_len, Try.ntmps4, reduceIte, reduceCtorEq, Nat.reduceAdd, Nat.reduceEqDiff, Nat.reduceLT, Nat.reduceLeDiff, Nat.reduceSub, Nat.reduceMul, Nat.reduceBEq, Int.reduceToNat, Int.reduceLE, Int.reduceLT, Int.reducePow]; omega)
          case k18 => simp only [go_sem, kn4, aliveF, fewF, decF, rDecF, allF, rAllF, same4F, same7F, decV_tup, unf_fdrow, ownR_rows, cmrow_len, Try.ntmps4, reduceIte, reduceCtorEq, Nat.reduceAdd, Nat.reduceEqDiff, Nat.reduceLT, Nat.reduceLeDiff, Nat.reduceSub, Nat.reduceMul, Nat.reduceBEq, Int.reduceToNat, Int.reduceLE, Int.reduceLT, Int.reducePow]; rfl
          refine AWp.cond (b := ?b19) ?c19 ?t19 ?f19
          case c19 => simp only [go_sem, kn4, aliveF, fewF, decF, rDecF, allF, rAllF, same4F, same7F, decV_tup, unf_fdrow, ownR_rows, cmrow_len, Try.ntmps4, reduceIte, reduceCtorEq, Nat.reduceAdd, Nat.reduceEqDiff, Nat.reduceLT, Nat.reduceLeDiff, Nat.reduceSub, Nat.reduceMul, Nat.reduceBEq, Int.reduceToNat, Int.reduceLE, Int.reduceLT, Int.reducePow]; rfl
          case t19 =>
            intro hb3
            exfalso; cases hb3
          case f19 =>
            intro hb3
            refine AWp.skip ?_
            refine AWp.seq ?_
            refine AWp.seq ?_
            refine AWp.reg (S1 := ?S20) (ob := ?o20) (S' := ?K20) tab_ok (knowL_ok kn4_ok) mixed [6, 7, 8, 9, 10, 11, 12, 13, 14, 15, 16] ?r20 ?h20 ?k20 ?w20
            case r20 => simp only [go_sem, kn4, aliveF, fewF, decF, rDecF, allF, rAllF, same4F, same7F, decV_tup, unf_fdrow, ownR_rows, cmrow_len, Try.ntmps4, reduceIte, reduceCtorEq, Nat.reduceAdd, Nat.reduceEqDiff, Nat.reduceLT, Nat.reduceLeDiff, Nat.reduceSub, Nat.reduceMul, Nat.reduceBEq, Int.reduceToNat, Int.reduceLE, Int.reduceLT, Int.reducePow]; rfl
            case h20 => first | exact True.intro | omega | (simp only [go_sem, kn4, aliveF, fewF, decF, rDecF, allF, rAllF, same4F, same7F, decV_tup, unf_fdrow, ownR_rows, cmrow_len, Try.ntmps4, reduceIte, reduceCtorEq, Nat.reduceAdd, Nat.reduceEqDiff, Nat.reduceLT, Nat.reduceLeDiff, Nat.reduceSub, Nat.reduceMul, Nat.reduceBEq, Int.reduceToNat, Int.reduceLE, Int.reduceLT, Int.reducePow]; done) | (simp only [go_sem, kn4, aliveF, fewF, decF, rDecF, allF, rAllF, same4F, same7F, decV_tup, unf_fdrow, ownR_rows, cmrow_len, Try.ntmps4, reduceIte, reduceCtorEq, Nat.reduceAdd, Nat.reduceEqDiff, Nat.reduceLT, Nat.reduceLeDiff, Nat.reduceSub, Nat.reduceMul, Nat.reduceBEq, Int.reduceToNat, Int.reduceLE, Int.reduceLT, Int.reducePow]; omega)
            case k20 => simp only [go_sem, kn4, aliveF, fewF, decF, rDecF, allF, rAllF, same4F, same7F, decV_tup, unf_fdrow, ownR_rows, cmrow_len, Try.ntmps4, reduceIte, reduceCtorEq, Nat.reduceAdd, Nat.reduceEqDiff, Nat.reduceLT, Nat.reduceLeDiff, Nat.reduceSub, Nat.reduceMul, Nat.reduceBEq, Int.reduceToNat, Int.reduceLE, Int.reduceLT, Int.reducePow]; rfl
            refine AWp.block ?_
            refine AWp.loop (fun k S => ∃ i : Nat, i ≤ (allL (rowsB es)).length ∧ k = (allL (rowsB es)).length - i ∧ S = ⟨[(6, .one (.s (.ptr 1 0))), (7, .one (dv (.int .i64 (dcN (rowsB es))))), (8, .one (dv (.int .i64 (dErr (rowsB es))))), (9, .one (.s (.ptr 2 0))), (10, .one (dv (.int .i64 (dcN (rowsB es))))), (11, .one (dv (.int .i64 (dErr (rowsB es))))), (12, .one (dv (.slice none 2 (cmrow (allL (rowsB es)))))), (13, .one (dv (.slice none 2 (cmrow (allL (rowsB es)))))), (14, .one (dv (.bool true))), (15, .one (dv (.bool true))), (16, .one (dv (.int .i64 ((i : Nat) : Int))))], [(2, .cells [.d (.int .i64 (dcM (rowsB es))), .d (.slice (dcZ (rowsB es)) 3 (fdrow (dcF (rowsB es))))] 34), (1, .cells [.d (.int .i64 (dcM (rowsB es))), .d (.slice (dcZ (rowsB es)) 3 (fdrow (dcF (rowsB es))))] 32)], 3⟩) (allL (rowsB es)).length ?i2 ?n2
            case i2 =>
              exact ⟨0, by omega, rfl, rfl⟩
            case n2 =>
              rintro k S ⟨i, hi0, rfl, rfl⟩
              refine AWp.seq ?_
              refine AWp.seq ?_
              refine AWp.reg (S1 := ?S21) (ob := ?o21) (S' := ?K21) tab_ok (knowL_ok kn4_ok) mixed [6, 7, 8, 9, 10, 11, 12, 13, 14, 15, 16, 70] ?r21 ?h21 ?k21 ?w21
              case r21 => simp only [go_sem, kn4, aliveF, fewF, decF, rDecF, allF, rAllF, same4F, same7F, decV_tup, unf_fdrow, ownR_rows, cmrow_len, Try.ntmps4, reduceIte, reduceCtorEq, Nat.reduceAdd, Nat.reduceEqDiff, Nat.reduceLT, Nat.reduceLeDiff, Nat.reduceSub, Nat.reduceMul, Nat.reduceBEq, Int.reduceToNat, Int.reduceLE, Int.reduceLT, Int.reducePow]; rfl
              case h21 => first | exact True.intro | omega | (simp only [go_sem, kn4, aliveF, fewF, decF, rDecF, allF, rAllF, same4F, same7F, decV_tup, unf_fdrow, ownR_rows, cmrow_len, Try.ntmps4, reduceIte, reduceCtorEq, Nat.reduceAdd, Nat.reduceEqDiff, Nat.reduceLT, Nat.reduceLeDiff, Nat.reduceSub, Nat.reduceMul, Nat.reduceBEq, Int.reduceToNat, Int.reduceLE, Int.reduceLT, Int.reducePow]; done) | (simp only [go_sem, kn4, aliveF, fewF, decF, rDecF, allF, rAllF, same4F, same7F, decV_tup, unf_fdrow, ownR_rows, cmrow_len, Try.ntmps4, reduceIte, reduceCtorEq, Nat.reduceAdd, Nat.reduceEqDiff, Nat.reduceLT, Nat.reduceLeDiff, Nat.reduceSub, Nat.reduceMul, Nat.reduceBEq, Int.reduceToNat, Int.reduceLE, Int.reduceLT, Int.reducePow]; omega)
              case k21 => simp only [go_sem, kn4, aliveF, fewF, decF, rDecF, allF, rAllF, same4F, same7F, decV_tup, unf_fdrow, ownR_rows, cmrow_len, Try.ntmps4, reduceIte, reduceCtorEq, Nat.reduceAdd, Nat.reduceEqDiff, Nat.reduceLT, Nat.reduceLeDiff, Nat.reduceSub, Nat.reduceMul, Nat.reduceBEq, Int.reduceToNat, Int.reduceLE, Int.reduceLT, Int.reducePow]; rfl
              refine AWp.cond (b := ?b22) ?c22 ?t22 ?f22
              case c22 => simp only [go_sem, kn4, aliveF, fewF, decF, rDecF, allF, rAllF, same4F, same7F, decV_tup, unf_fdrow, ownR_rows, cmrow_len, Try.ntmps4, reduceIte, reduceCtorEq, Nat.reduceAdd, Nat.reduceEqDiff, Nat.reduceLT, Nat.reduceLeDiff, Nat.reduceSub, Nat.reduceMul, Nat.reduceBEq, Int.reduceToNat, Int.reduceLE, Int.reduceLT, Int.reducePow]; rfl
              case t22 =>
                intro hb4
                have hi : i < (allL (rowsB es)).length := by simp only [decide_eq_true_eq] at hb4; omega
                have hcm := cmrow_get (allL (rowsB es)) i
                rw [if_pos hi, cmD] at hcm
                refine AWp.skip ?_
                refine AWp.seq ?_
                refine AWp.block ?_
                refine AWp.seq ?_
                refine AWp.drw (S1 := ?S23) (ob := ?o23) (lts := ?t23) (S' := ?K23) tab_ok (knowL_ok kn4_ok) mixed [6, 7, 8, 9, 10, 11, 12, 13, 14, 15, 16, 17] ?r23 ?d23 ?h23 ?k23 ?w23
                case r23 => simp only [go_sem, kn4, aliveF, fewF, decF, rDecF, allF, rAllF, same4F, same7F, decV_tup, unf_fdrow, ownR_rows, cmrow_len, Try.ntmps4, reduceIte, reduceCtorEq, Nat.reduceAdd, Nat.reduceEqDiff, Nat.reduceLT, Nat.reduceLeDiff, Nat.reduceSub, Nat.reduceMul, Nat.reduceBEq, Int.reduceToNat, Int.reduceLE, Int.reduceLT, Int.reducePow, hcm]; rfl
                case d23 => first | kernel_rfl | rfl
                case h23 =>
                  exact ⟨⟨by omega, by omega⟩, ⟨by omega, by omega⟩, .inr trivial, .inr trivial, by rw [fdrow_len]; have := allL_files (rowsB es) _ (show (allL (rowsB es)).getD i (0, []) ∈ allL (rowsB es) by rw [getD_lt hi]; exact List.getElem_mem _); omega⟩
                case k23 => simp only [go_sem, kn4, aliveF, fewF, decF, rDecF, allF, rAllF, same4F, same7F, decV_tup, unf_fdrow, ownR_rows, cmrow_len, Try.ntmps4, reduceIte, reduceCtorEq, Nat.reduceAdd, Nat.reduceEqDiff, Nat.reduceLT, Nat.reduceLeDiff, Nat.reduceSub, Nat.reduceMul, Nat.reduceBEq, Int.reduceToNat, Int.reduceLE, Int.reduceLT, Int.reducePow]; rfl
                refine AWp.seq ?_
                refine AWp.drw (S1 := ?S24) (ob := ?o24) (lts := ?t24) (S' := ?K24) tab_ok (knowL_ok kn4_ok) mixed [6, 7, 8, 9, 10, 11, 12, 13, 14, 15, 16, 98] ?r24 ?d24 ?h24 ?k24 ?w24
                case r24 => simp only [go_sem, kn4, aliveF, fewF, decF, rDecF, allF, rAllF, same4F, same7F, decV_tup, unf_fdrow, ownR_rows, cmrow_len, Try.ntmps4, reduceIte, reduceCtorEq, Nat.reduceAdd, Nat.reduceEqDiff, Nat.reduceLT, Nat.reduceLeDiff, Nat.reduceSub, Nat.reduceMul, Nat.reduceBEq, Int.reduceToNat, Int.reduceLE, Int.reduceLT, Int.reducePow, hcm]; rfl
                case d24 => first | kernel_rfl | rfl
                case h24 => first | exact True.intro | omega | (simp only [go_sem, kn4, aliveF, fewF, decF, rDecF, allF, rAllF, same4F, same7F, decV_tup, unf_fdrow, ownR_rows, cmrow_len, Try.ntmps4, reduceIte, reduceCtorEq, Nat.reduceAdd, Nat.reduceEqDiff, Nat.reduceLT, Nat.reduceLeDiff, Nat.reduceSub, Nat.reduceMul, Nat.reduceBEq, Int.reduceToNat, Int.reduceLE, Int.reduceLT, Int.reducePow]; done) | (simp only [go_sem, kn4, aliveF, fewF, decF, rDecF, allF, rAllF, same4F, same7F, decV_tup, unf_fdrow, ownR_rows, cmrow_len, Try.ntmps4, reduceIte, reduceCtorEq, Nat.reduceAdd, Nat.reduceEqDiff, Nat.reduceLT, Nat.reduceLeDiff, Nat.reduceSub, Nat.reduceMul, Nat.reduceBEq, Int.reduceToNat, Int.reduceLE, Int.reduceLT, Int.reducePow]; omega)
                case k24 => simp only [go_sem, kn4, aliveF, fewF, decF, rDecF, allF, rAllF, same4F, same7F, decV_tup, unf_fdrow, ownR_rows, cmrow_len, Try.ntmps4, reduceIte, reduceCtorEq, Nat.reduceAdd, Nat.reduceEqDiff, Nat.reduceLT, Nat.reduceLeDiff, Nat.reduceSub, Nat.reduceMul, Nat.reduceBEq, Int.reduceToNat, Int.reduceLE, Int.reduceLT, Int.reducePow]; rfl
                refine AWp.cond (b := ?b25) ?c25 ?t25 ?f25
                case c25 => simp only [go_sem, kn4, aliveF, fewF, decF, rDecF, allF, rAllF, same4F, same7F, decV_tup, unf_fdrow, ownR_rows, cmrow_len, Try.ntmps4, reduceIte, reduceCtorEq, Nat.reduceAdd, Nat.reduceEqDiff, Nat.reduceLT, Nat.reduceLeDiff, Nat.reduceSub, Nat.reduceMul, Nat.reduceBEq, Int.reduceToNat, Int.reduceLE, Int.reduceLT, Int.reducePow]; rfl
                case t25 =>
                  intro hb5
                  exfalso; simp at hb5
                case f25 =>
                  intro hb5
                  refine AWp.skip ?_
                  refine AWp.reg (S1 := ?S26) (ob := ?o26) (S' := ?K26) tab_ok (knowL_ok kn4_ok) mixed [6, 7, 8, 9, 10, 11, 12, 13, 14, 15, 16] ?r26 ?h26 ?k26 ?w26
                  case r26 => simp only [go_sem, kn4, aliveF, fewF, decF, rDecF, allF, rAllF, same4F, same7F, decV_tup, unf_fdrow, ownR_rows, cmrow_len, Try.ntmps4, reduceIte, reduceCtorEq, Nat.reduceAdd, Nat.reduceEqDiff, Nat.reduceLT, Nat.reduceLeDiff, Nat.reduceSub, Nat.reduceMul, Nat.reduceBEq, Int.reduceToNat, Int.reduceLE, Int.reduceLT, Int.reducePow]; rfl
                  case h26 => first | exact True.intro | omega | (simp only [go_sem, kn4, aliveF, fewF, decF, rDecF, allF, rAllF, same4F, same7F, decV_tup, unf_fdrow, ownR_rows, cmrow_len, Try.ntmps4, reduceIte, reduceCtorEq, Nat.reduceAdd, Nat.reduceEqDiff, Nat.reduceLT, Nat.reduceLeDiff, Nat.reduceSub, Nat.reduceMul, Nat.reduceBEq, Int.reduceToNat, Int.reduceLE, Int.reduceLT, Int.reducePow]; done) | (simp only [go_sem, kn4, aliveF, fewF, decF, rDecF, allF, rAllF, same4F, same7F, decV_tup, unf_fdrow, ownR_rows, cmrow_len, Try.ntmps4, reduceIte, reduceCtorEq, Nat.reduceAdd, Nat.reduceEqDiff, Nat.reduceLT, Nat.reduceLeDiff, Nat.reduceSub, Nat.reduceMul, Nat.reduceBEq, Int.reduceToNat, Int.reduceLE, Int.reduceLT, Int.reducePow]; omega)
                  case k26 => simp only [go_sem, kn4, aliveF, fewF, decF, rDecF, allF, rAllF, same4F, same7F, decV_tup, unf_fdrow, ownR_rows, cmrow_len, Try.ntmps4, reduceIte, reduceCtorEq, Nat.reduceAdd, Nat.reduceEqDiff, Nat.reduceLT, Nat.reduceLeDiff, Nat.reduceSub, Nat.reduceMul, Nat.reduceBEq, Int.reduceToNat, Int.reduceLE, Int.reduceLT, Int.reducePow]; rfl
                  exact ⟨(allL (rowsB es)).length - (i + 1), _, by omega, Conv.refl _, i + 1, by omega, rfl, rfl⟩
              case f22 =>
                intro hb4
                refine AWp.exit ?_
                refine thenA_exit ?_
                refine thenA_exit ?_
                refine inB_eq ?_
                refine AWp.seq ?_
                refine AWp.reg (S1 := ?S27) (ob := ?o27) (S' := ?K27) tab_ok (knowL_ok kn4_ok) mixed [2] ?r27 ?h27 ?k27 ?w27
                case r27 => simp only [go_sem, kn4, aliveF, fewF, decF, rDecF, allF, rAllF, same4F, same7F, decV_tup, unf_fdrow, ownR_rows, cmrow_len, Try.ntmps4, reduceIte, reduceCtorEq, Nat.reduceAdd, Nat.reduceEqDiff, Nat.reduceLT, Nat.reduceLeDiff, Nat.reduceSub, Nat.reduceMul, Nat.reduceBEq, Int.reduceToNat, Int.reduceLE, Int.reduceLT, Int.reducePow]; rfl
                case h27 => first | exact True.intro | omega | (simp only [go_sem, kn4, aliveF, fewF, decF, rDecF, allF, rAllF, same4F, same7F, decV_tup, unf_fdrow, ownR_rows, cmrow_len, Try.ntmps4, reduceIte, reduceCtorEq, Nat.reduceAdd, Nat.reduceEqDiff, Nat.reduceLT, Nat.reduceLeDiff, Nat.reduceSub, Nat.reduceMul, Nat.reduceBEq, Int.reduceToNat, Int.reduceLE, Int.reduceLT, Int.reducePow]; done) | (simp only [go_sem, kn4, aliveF, fewF, decF, rDecF, allF, rAllF, same4F, same7F, decV_tup, unf_fdrow, ownR_rows, cmrow_len, Try.ntmps4, reduceIte, reduceCtorEq, Nat.reduceAdd, Nat.reduceEqDiff, Nat.reduceLT, Nat.reduceLeDiff, Nat.reduceSub, Nat.reduceMul, Nat.reduceBEq, Int.reduceToNat, Int.reduceLE, Int.reduceLT, Int.reducePow]; omega)
                case k27 => simp only [go_sem, kn4, aliveF, fewF, decF, rDecF, allF, rAllF, same4F, same7F, decV_tup, unf_fdrow, ownR_rows, cmrow_len, Try.ntmps4, reduceIte, reduceCtorEq, Nat.reduceAdd, Nat.reduceEqDiff, Nat.reduceLT, Nat.reduceLeDiff, Nat.reduceSub, Nat.reduceMul, Nat.reduceBEq, Int.reduceToNat, Int.reduceLE, Int.reduceLT, Int.reducePow]; rfl
                refine AWp.ret ?_
                refine ends_p (vs := ?vs2) (ob := ?ro2) (vs' := ?ws2) (ks := ?ks2) (ob2 := ?rp2) tab_ok (by simp) ?er2 ?eo2 ?ef2 ?eg2 ?en2 ?ek2 ?ev2
                case er2 => simp only [go_sem, kn4, aliveF, fewF, decF, rDecF, allF, rAllF, same4F, same7F, decV_tup, unf_fdrow, ownR_rows, cmrow_len, Try.ntmps4, reduceIte, reduceCtorEq, Nat.reduceAdd, Nat.reduceEqDiff, Nat.reduceLT, Nat.reduceLeDiff, Nat.reduceSub, Nat.reduceMul, Nat.reduceBEq, Int.reduceToNat, Int.reduceLE, Int.reduceLT, Int.reducePow, Try.results4]; rfl
                case eo2 => first | exact True.intro | simp only [go_sem, kn4, aliveF, fewF, decF, rDecF, allF, rAllF, same4F, same7F, decV_tup, unf_fdrow, ownR_rows, cmrow_len, Try.ntmps4, reduceIte, reduceCtorEq, Nat.reduceAdd, Nat.reduceEqDiff, Nat.reduceLT, Nat.reduceLeDiff, Nat.reduceSub, Nat.reduceMul, Nat.reduceBEq, Int.reduceToNat, Int.reduceLE, Int.reduceLT, Int.reducePow]
                case ef2 => simp only [go_sem, kn4, aliveF, fewF, decF, rDecF, allF, rAllF, same4F, same7F, decV_tup, unf_fdrow, ownR_rows, cmrow_len, Try.ntmps4, reduceIte, reduceCtorEq, Nat.reduceAdd, Nat.reduceEqDiff, Nat.reduceLT, Nat.reduceLeDiff, Nat.reduceSub, Nat.reduceMul, Nat.reduceBEq, Int.reduceToNat, Int.reduceLE, Int.reduceLT, Int.reducePow]; rfl
                case eg2 => first | exact True.intro | simp only [go_sem, kn4, aliveF, fewF, decF, rDecF, allF, rAllF, same4F, same7F, decV_tup, unf_fdrow, ownR_rows, cmrow_len, Try.ntmps4, reduceIte, reduceCtorEq, Nat.reduceAdd, Nat.reduceEqDiff, Nat.reduceLT, Nat.reduceLeDiff, Nat.reduceSub, Nat.reduceMul, Nat.reduceBEq, Int.reduceToNat, Int.reduceLE, Int.reduceLT, Int.reducePow]
                case en2 => simp only [go_sem, kn4, aliveF, fewF, decF, rDecF, allF, rAllF, same4F, same7F, decV_tup, unf_fdrow, ownR_rows, cmrow_len, Try.ntmps4, reduceIte, reduceCtorEq, Nat.reduceAdd, Nat.reduceEqDiff, Nat.reduceLT, Nat.reduceLeDiff, Nat.reduceSub, Nat.reduceMul, Nat.reduceBEq, Int.reduceToNat, Int.reduceLE, Int.reduceLT, Int.reducePow]
                case ek2 => simp only [go_sem, kn4, aliveF, fewF, decF, rDecF, allF, rAllF, same4F, same7F, decV_tup, unf_fdrow, ownR_rows, cmrow_len, Try.ntmps4, reduceIte, reduceCtorEq, Nat.reduceAdd, Nat.reduceEqDiff, Nat.reduceLT, Nat.reduceLeDiff, Nat.reduceSub, Nat.reduceMul, Nat.reduceBEq, Int.reduceToNat, Int.reduceLE, Int.reduceLT, Int.reducePow]
                case ev2 =>
                  first | rfl | simp only [go_sem, kn4, aliveF, fewF, decF, rDecF, allF, rAllF, same4F, same7F, decV_tup, unf_fdrow, ownR_rows, cmrow_len, Try.ntmps4, reduceIte, reduceCtorEq, Nat.reduceAdd, Nat.reduceEqDiff, Nat.reduceLT, Nat.reduceLeDiff, Nat.reduceSub, Nat.reduceMul, Nat.reduceBEq, Int.reduceToNat, Int.reduceLE, Int.reduceLT, Int.reducePow]
  · cases hq

end Go.Proofs.Hg
