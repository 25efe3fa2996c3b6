import Derived.Test.YtcicjmhealkigaaM4
set_option linter.unusedSimpArgs false
set_option linter.unusedVariables false
set_option maxHeartbeats 4000000
namespace Go.Proofs.Hg
open Go.RowKit
set_option maxRecDepth 100000
theorem nChunks_int (n : Nat) : ((n : Int) + 4000 - 1) / 4000 = ((nChunks 4000 n : Nat) : Int) := by unfold nChunks; omega
theorem sub_chunk (B : List UInt8) (i : Nat) : List.take ((if (B.length : Int) < 4000 * (i : Int) + 4000 then (B.length : Int) else 4000 * (i : Int) + 4000).toNat - (4000 * (i : Int)).toNat) (List.drop (4000 * (i : Int)).toNat B) = chunkAt 4000 B i := by
  unfold chunkAt
  have e : (4000 * (i : Int)).toNat = 4000 * i := by omega
  rw [e]
  split
  · rw [List.take_of_length_le (by rw [List.length_drop]; omega), List.take_of_length_le (by rw [List.length_drop]; omega)]
  · congr 1
    omega
def rEncF : List AV → Option (AVal × Prop)
  | [.agg [.d (.int .i64 n), .d (.slice z e fs)]] => some (encV n (unf fs), e = 3 ∧ fs = fdrow (unf fs) ∧ FilesOk (unf fs))
  | _ => none
def kn11 : List (Nat × Cont) := [(25, pureK rRightF), (26, pureK rBytesF), (27, pureK rLowF)]
theorem kn11_ok : ∀ p ∈ kn11, ContOk Try.prog p.1 p.2 := by
  intro p hp
  simp only [kn11, List.mem_cons, List.not_mem_nil, or_false] at hp
  rcases hp with rfl | rfl | rfl
  · exact rRightF_ok
  · exact rBytesF_ok
  · exact rLowF_ok
theorem rEncF_ok : ContOk Try.prog 11 (pureK rEncF) := by
  refine pure_ok (nargs := 1) Try.func11 rfl (by kernel_rfl) (Nat.le_of_ble_eq_true (by kernel_rfl)) ?_
  intro args q hq hob
  unfold rEncF at hq
  split at hq
  · rename_i n z e fs
    injection hq with hq
    subst hq
    obtain ⟨h1, h2, h3⟩ : e = 3 ∧ fs = fdrow (unf fs) ∧ FilesOk (unf fs) := hob
    generalize unf fs = fl at *
    subst h1 h2
    have hq := nChunks_int (bytesL fl).length
    refine ⟨rfl, by simp [AV.ids, Sc.ids], (encV_ids _ _).1, (encV_ids _ _).2, ?_⟩
    refine AWp.seq ?_
    refine AWp.reg (S1 := ?S1) (ob := ?o1) (S' := ?K1) tab_ok (knowL_ok kn11_ok) mixed [1] ?r1 ?h1 ?k1 ?w1
    case r1 => simp only [go_sem, kn11, rRightF, rBytesF, rLowF, unf_fdrow, lowB_len, Try.ntmps11, reduceIte, reduceCtorEq, Nat.reduceAdd, Nat.reduceEqDiff, Nat.reduceLT, Nat.reduceLeDiff, Nat.reduceSub, Nat.reduceMul, Nat.reduceBEq, Int.reduceToNat, Int.reduceLE, Int.reduceLT, Int.reducePow]; rfl
    case h1 => first | exact True.intro | omega | (simp only [go_sem, kn11, rRightF, rBytesF, rLowF, unf_fdrow, lowB_len, Try.ntmps11, reduceIte, reduceCtorEq, Nat.reduceAdd, Nat.reduceEqDiff, Nat.reduceLT, Nat.reduceLeDiff, Nat.reduceSub, Nat.reduceMul, Nat.reduceBEq, Int.reduceToNat, Int.reduceLE, Int.reduceLT, Int.reducePow]; done) | (simp only [go_sem, kn11, rRightF, rBytesF, rLowF, unf_fdrow, lowB_len, Try.ntmps11, reduceIte, reduceCtorEq, Nat.reduceAdd, Nat.reduceEqDiff, Nat.reduceLT, Nat.reduceLeDiff, Nat.reduceSub, Nat.reduceMul, Nat.reduceBEq, Int.reduceToNat, Int.reduceLE, Int.reduceLT, Int.reducePow]; omega)
    case k1 => simp only [go_sem, kn11, rRightF, rBytesF, rLowF, unf_fdrow, lowB_len, Try.ntmps11, reduceIte, reduceCtorEq, Nat.reduceAdd, Nat.reduceEqDiff, Nat.reduceLT, Nat.reduceLeDiff, Nat.reduceSub, Nat.reduceMul, Nat.reduceBEq, Int.reduceToNat, Int.reduceLE, Int.reduceLT, Int.reducePow]; rfl
    refine AWp.seq ?_
    refine AWp.reg (S1 := ?S2) (ob := ?o2) (S' := ?K2) tab_ok (knowL_ok kn11_ok) mixed [1, 4] ?r2 ?h2 ?k2 ?w2
    case r2 => simp only [go_sem, kn11, rRightF, rBytesF, rLowF, unf_fdrow, lowB_len, Try.ntmps11, reduceIte, reduceCtorEq, Nat.reduceAdd, Nat.reduceEqDiff, Nat.reduceLT, Nat.reduceLeDiff, Nat.reduceSub, Nat.reduceMul, Nat.reduceBEq, Int.reduceToNat, Int.reduceLE, Int.reduceLT, Int.reducePow]; rfl
    case h2 => first | exact True.intro | omega | (simp only [go_sem, kn11, rRightF, rBytesF, rLowF, unf_fdrow, lowB_len, Try.ntmps11, reduceIte, reduceCtorEq, Nat.reduceAdd, Nat.reduceEqDiff, Nat.reduceLT, Nat.reduceLeDiff, Nat.reduceSub, Nat.reduceMul, Nat.reduceBEq, Int.reduceToNat, Int.reduceLE, Int.reduceLT, Int.reducePow]; done) | (simp only [go_sem, kn11, rRightF, rBytesF, rLowF, unf_fdrow, lowB_len, Try.ntmps11, reduceIte, reduceCtorEq, Nat.reduceAdd, Nat.reduceEqDiff, Nat.reduceLT, Nat.reduceLeDiff, Nat.reduceSub, Nat.reduceMul, Nat.reduceBEq, Int.reduceToNat, Int.reduceLE, Int.reduceLT, Int.reducePow]; omega)
    case k2 => simp only [go_sem, kn11, rRightF, rBytesF, rLowF, unf_fdrow, lowB_len, Try.ntmps11, reduceIte, reduceCtorEq, Nat.reduceAdd, Nat.reduceEqDiff, Nat.reduceLT, Nat.reduceLeDiff, Nat.reduceSub, Nat.reduceMul, Nat.reduceBEq, Int.reduceToNat, Int.reduceLE, Int.reduceLT, Int.reducePow]; rfl
    refine AWp.seq ?_
    refine AWp.seq ?_
    refine AWp.reg (S1 := ?S3) (ob := ?o3) (S' := ?K3) tab_ok (knowL_ok kn11_ok) mixed [1, 13] ?r3 ?h3 ?k3 ?w3
    case r3 => simp only [go_sem, kn11, rRightF, rBytesF, rLowF, unf_fdrow, lowB_len, Try.ntmps11, reduceIte, reduceCtorEq, Nat.reduceAdd, Nat.reduceEqDiff, Nat.reduceLT, Nat.reduceLeDiff, Nat.reduceSub, Nat.reduceMul, Nat.reduceBEq, Int.reduceToNat, Int.reduceLE, Int.reduceLT, Int.reducePow]; rfl
    case h3 => first | exact True.intro | omega | (simp only [go_sem, kn11, rRightF, rBytesF, rLowF, unf_fdrow, lowB_len, Try.ntmps11, reduceIte, reduceCtorEq, Nat.reduceAdd, Nat.reduceEqDiff, Nat.reduceLT, Nat.reduceLeDiff, Nat.reduceSub, Nat.reduceMul, Nat.reduceBEq, Int.reduceToNat, Int.reduceLE, Int.reduceLT, Int.reducePow]; done) | (simp only [go_sem, kn11, rRightF, rBytesF, rLowF, unf_fdrow, lowB_len, Try.ntmps11, reduceIte, reduceCtorEq, Nat.reduceAdd, Nat.reduceEqDiff, Nat.reduceLT, Nat.reduceLeDiff, Nat.reduceSub, Nat.reduceMul, Nat.reduceBEq, Int.reduceToNat, Int.reduceLE, Int.reduceLT, Int.reducePow]; omega)
    case k3 => simp only [go_sem, kn11, rRightF, rBytesF, rLowF, unf_fdrow, lowB_len, Try.ntmps11, reduceIte, reduceCtorEq, Nat.reduceAdd, Nat.reduceEqDiff, Nat.reduceLT, Nat.reduceLeDiff, Nat.reduceSub, Nat.reduceMul, Nat.reduceBEq, Int.reduceToNat, Int.reduceLE, Int.reduceLT, Int.reducePow]; rfl
    refine AWp.cond (b := ?b4) ?c4 ?t4 ?f4
    case c4 => simp only [go_sem, kn11, rRightF, rBytesF, rLowF, unf_fdrow, lowB_len, Try.ntmps11, reduceIte, reduceCtorEq, Nat.reduceAdd, Nat.reduceEqDiff, Nat.reduceLT, Nat.reduceLeDiff, Nat.reduceSub, Nat.reduceMul, Nat.reduceBEq, Int.reduceToNat, Int.reduceLE, Int.reduceLT, Int.reducePow]; rfl
    case t4 =>
      intro hb1
      have hr : rightL n fl = false := by simpa using hb1
      refine AWp.seq ?_
      refine AWp.reg (S1 := ?S5) (ob := ?o5) (S' := ?K5) tab_ok (knowL_ok kn11_ok) mixed [2, 3] ?r5 ?h5 ?k5 ?w5
      case r5 => simp only [go_sem, kn11, rRightF, rBytesF, rLowF, unf_fdrow, lowB_len, Try.ntmps11, reduceIte, reduceCtorEq, Nat.reduceAdd, Nat.reduceEqDiff, Nat.reduceLT, Nat.reduceLeDiff, Nat.reduceSub, Nat.reduceMul, Nat.reduceBEq, Int.reduceToNat, Int.reduceLE, Int.reduceLT, Int.reducePow]; rfl
      case h5 => first | exact True.intro | omega | (simp only [go_sem, kn11, rRightF, rBytesF, rLowF, unf_fdrow, lowB_len, Try.ntmps11, reduceIte, reduceCtorEq, Nat.reduceAdd, Nat.reduceEqDiff, Nat.reduceLT, Nat.reduceLeDiff, Nat.reduceSub, Nat.reduceMul, Nat.reduceBEq, Int.reduceToNat, Int.reduceLE, Int.reduceLT, Int.reducePow]; done) | (simp only [go_sem, kn11, rRightF, rBytesF, rLowF, unf_fdrow, lowB_len, Try.ntmps11, reduceIte, reduceCtorEq, Nat.reduceAdd, Nat.reduceEqDiff, Nat.reduceLT, Nat.reduceLeDiff, Nat.reduceSub, Nat.reduceMul, Nat.reduceBEq, Int.reduceToNat, Int.reduceLE, Int.reduceLT, Int.reducePow]; omega)
      case k5 => simp only [go_sem, kn11, rRightF, rBytesF, rLowF, unf_fdrow, lowB_len, Try.ntmps11, reduceIte, reduceCtorEq, Nat.reduceAdd, Nat.reduceEqDiff, Nat.reduceLT, Nat.reduceLeDiff, Nat.reduceSub, Nat.reduceMul, Nat.reduceBEq, Int.reduceToNat, Int.reduceLE, Int.reduceLT, Int.reducePow]; rfl
      refine AWp.ret ?_
      refine ends_p (vs := ?vs1) (ob := ?ro1) (vs' := ?ws1) (ks := ?ks1) (ob2 := ?rp1) tab_ok (by simp) ?er1 ?eo1 ?ef1 ?eg1 ?en1 ?ek1 ?ev1
      case er1 => simp only [go_sem, kn11, rRightF, rBytesF, rLowF, unf_fdrow, lowB_len, Try.ntmps11, reduceIte, reduceCtorEq, Nat.reduceAdd, Nat.reduceEqDiff, Nat.reduceLT, Nat.reduceLeDiff, Nat.reduceSub, Nat.reduceMul, Nat.reduceBEq, Int.reduceToNat, Int.reduceLE, Int.reduceLT, Int.reducePow, Try.results11]; rfl
      case eo1 => first | exact True.intro | simp only [go_sem, kn11, rRightF, rBytesF, rLowF, unf_fdrow, lowB_len, Try.ntmps11, reduceIte, reduceCtorEq, Nat.reduceAdd, Nat.reduceEqDiff, Nat.reduceLT, Nat.reduceLeDiff, Nat.reduceSub, Nat.reduceMul, Nat.reduceBEq, Int.reduceToNat, Int.reduceLE, Int.reduceLT, Int.reducePow]
      case ef1 => simp only [go_sem, kn11, rRightF, rBytesF, rLowF, unf_fdrow, lowB_len, Try.ntmps11, reduceIte, reduceCtorEq, Nat.reduceAdd, Nat.reduceEqDiff, Nat.reduceLT, Nat.reduceLeDiff, Nat.reduceSub, Nat.reduceMul, Nat.reduceBEq, Int.reduceToNat, Int.reduceLE, Int.reduceLT, Int.reducePow]; rfl
      case eg1 => first | exact True.intro | simp only [go_sem, kn11, rRightF, rBytesF, rLowF, unf_fdrow, lowB_len, Try.ntmps11, reduceIte, reduceCtorEq, Nat.reduceAdd, Nat.reduceEqDiff, Nat.reduceLT, Nat.reduceLeDiff, Nat.reduceSub, Nat.reduceMul, Nat.reduceBEq, Int.reduceToNat, Int.reduceLE, Int.reduceLT, Int.reducePow]
      case en1 => simp only [go_sem, kn11, rRightF, rBytesF, rLowF, unf_fdrow, lowB_len, Try.ntmps11, reduceIte, reduceCtorEq, Nat.reduceAdd, Nat.reduceEqDiff, Nat.reduceLT, Nat.reduceLeDiff, Nat.reduceSub, Nat.reduceMul, Nat.reduceBEq, Int.reduceToNat, Int.reduceLE, Int.reduceLT, Int.reducePow]
      case ek1 => simp only [go_sem, kn11, rRightF, rBytesF, rLowF, unf_fdrow, lowB_len, Try.ntmps11, reduceIte, reduceCtorEq, Nat.reduceAdd, Nat.reduceEqDiff, Nat.reduceLT, Nat.reduceLeDiff, Nat.reduceSub, Nat.reduceMul, Nat.reduceBEq, Int.reduceToNat, Int.reduceLE, Int.reduceLT, Int.reducePow]
      case ev1 =>
        rw [encV, hr]; rfl
    case f4 =>
      intro hb1
      have hr : rightL n fl = true := by simpa using hb1
      obtain ⟨hn0, hn1, hF⟩ := rightL_in hr
      have hB := bytesL_len hF
      have hN := nChunks_le hB
      refine AWp.skip ?_
      refine AWp.seq ?_
      refine AWp.reg (S1 := ?S6) (ob := ?o6) (S' := ?K6) tab_ok (knowL_ok kn11_ok) mixed [1, 5] ?r6 ?h6 ?k6 ?w6
      case r6 => simp only [go_sem, kn11, rRightF, rBytesF, rLowF, unf_fdrow, lowB_len, Try.ntmps11, reduceIte, reduceCtorEq, Nat.reduceAdd, Nat.reduceEqDiff, Nat.reduceLT, Nat.reduceLeDiff, Nat.reduceSub, Nat.reduceMul, Nat.reduceBEq, Int.reduceToNat, Int.reduceLE, Int.reduceLT, Int.reducePow]; rfl
      case h6 => first | exact True.intro | omega | (simp only [go_sem, kn11, rRightF, rBytesF, rLowF, unf_fdrow, lowB_len, Try.ntmps11, reduceIte, reduceCtorEq, Nat.reduceAdd, Nat.reduceEqDiff, Nat.reduceLT, Nat.reduceLeDiff, Nat.reduceSub, Nat.reduceMul, Nat.reduceBEq, Int.reduceToNat, Int.reduceLE, Int.reduceLT, Int.reducePow]; done) | (simp only [go_sem, kn11, rRightF, rBytesF, rLowF, unf_fdrow, lowB_len, Try.ntmps11, reduceIte, reduceCtorEq, Nat.reduceAdd, Nat.reduceEqDiff, Nat.reduceLT, Nat.reduceLeDiff, Nat.reduceSub, Nat.reduceMul, Nat.reduceBEq, Int.reduceToNat, Int.reduceLE, Int.reduceLT, Int.reducePow]; omega)
      case k6 => simp only [go_sem, kn11, rRightF, rBytesF, rLowF, unf_fdrow, lowB_len, Try.ntmps11, reduceIte, reduceCtorEq, Nat.reduceAdd, Nat.reduceEqDiff, Nat.reduceLT, Nat.reduceLeDiff, Nat.reduceSub, Nat.reduceMul, Nat.reduceBEq, Int.reduceToNat, Int.reduceLE, Int.reduceLT, Int.reducePow]; rfl
      refine AWp.seq ?_
      refine AWp.reg (S1 := ?S7) (ob := ?o7) (S' := ?K7) tab_ok (knowL_ok kn11_ok) mixed [1, 5, 6] ?r7 ?h7 ?k7 ?w7
      case r7 => simp only [go_sem, kn11, rRightF, rBytesF, rLowF, unf_fdrow, lowB_len, Try.ntmps11, reduceIte, reduceCtorEq, Nat.reduceAdd, Nat.reduceEqDiff, Nat.reduceLT, Nat.reduceLeDiff, Nat.reduceSub, Nat.reduceMul, Nat.reduceBEq, Int.reduceToNat, Int.reduceLE, Int.reduceLT, Int.reducePow, hq]; rfl
      case h7 =>
        have hw := IntWalk.i64_in ((nChunks 4000 (bytesL fl).length : Nat) : Int) ⟨by omega, by omega⟩
        refine ⟨⟨by omega, by omega⟩, ⟨by omega, by omega⟩, by omega, hw⟩
      case k7 => simp only [go_sem, kn11, rRightF, rBytesF, rLowF, unf_fdrow, lowB_len, Try.ntmps11, reduceIte, reduceCtorEq, Nat.reduceAdd, Nat.reduceEqDiff, Nat.reduceLT, Nat.reduceLeDiff, Nat.reduceSub, Nat.reduceMul, Nat.reduceBEq, Int.reduceToNat, Int.reduceLE, Int.reduceLT, Int.reducePow]; rfl
      refine AWp.seq ?_
      refine AWp.seq ?_
      refine AWp.reg (S1 := ?S8) (ob := ?o8) (S' := ?K8) tab_ok (knowL_ok kn11_ok) mixed [1, 5, 6, 22] ?r8 ?h8 ?k8 ?w8
      case r8 => simp only [go_sem, kn11, rRightF, rBytesF, rLowF, unf_fdrow, lowB_len, Try.ntmps11, reduceIte, reduceCtorEq, Nat.reduceAdd, Nat.reduceEqDiff, Nat.reduceLT, Nat.reduceLeDiff, Nat.reduceSub, Nat.reduceMul, Nat.reduceBEq, Int.reduceToNat, Int.reduceLE, Int.reduceLT, Int.reducePow]; rfl
      case h8 => first | exact True.intro | omega | (simp only [go_sem, kn11, rRightF, rBytesF, rLowF, unf_fdrow, lowB_len, Try.ntmps11, reduceIte, reduceCtorEq, Nat.reduceAdd, Nat.reduceEqDiff, Nat.reduceLT, Nat.reduceLeDiff, Nat.reduceSub, Nat.reduceMul, Nat.reduceBEq, Int.reduceToNat, Int.reduceLE, Int.reduceLT, Int.reducePow]; done) | (simp only [go_sem, kn11, rRightF, rBytesF, rLowF, unf_fdrow, lowB_len, Try.ntmps11, reduceIte, reduceCtorEq, Nat.reduceAdd, Nat.reduceEqDiff, Nat.reduceLT, Nat.reduceLeDiff, Nat.reduceSub, Nat.reduceMul, Nat.reduceBEq, Int.reduceToNat, Int.reduceLE, Int.reduceLT, Int.reducePow]; omega)
      case k8 => simp only [go_sem, kn11, rRightF, rBytesF, rLowF, unf_fdrow, lowB_len, Try.ntmps11, reduceIte, reduceCtorEq, Nat.reduceAdd, Nat.reduceEqDiff, Nat.reduceLT, Nat.reduceLeDiff, Nat.reduceSub, Nat.reduceMul, Nat.reduceBEq, Int.reduceToNat, Int.reduceLE, Int.reduceLT, Int.reducePow]; rfl
      refine AWp.cond (b := ?b9) ?c9 ?t9 ?f9
      case c9 => simp only [go_sem, kn11, rRightF, rBytesF, rLowF, unf_fdrow, lowB_len, Try.ntmps11, reduceIte, reduceCtorEq, Nat.reduceAdd, Nat.reduceEqDiff, Nat.reduceLT, Nat.reduceLeDiff, Nat.reduceSub, Nat.reduceMul, Nat.reduceBEq, Int.reduceToNat, Int.reduceLE, Int.reduceLT, Int.reducePow]; rfl
      case t9 =>
        intro hb2
        have h0 : (nChunks 4000 (bytesL fl).length) = 0 := by simp at hb2; omega
        refine AWp.reg (S1 := ?S10) (ob := ?o10) (S' := ?K10) tab_ok (knowL_ok kn11_ok) mixed [1, 5, 6] ?r10 ?h10 ?k10 ?w10
        case r10 => simp only [go_sem, kn11, rRightF, rBytesF, rLowF, unf_fdrow, lowB_len, Try.ntmps11, reduceIte, reduceCtorEq, Nat.reduceAdd, Nat.reduceEqDiff, Nat.reduceLT, Nat.reduceLeDiff, Nat.reduceSub, Nat.reduceMul, Nat.reduceBEq, Int.reduceToNat, Int.reduceLE, Int.reduceLT, Int.reducePow]; rfl
        case h10 => first | exact True.intro | omega | (simp only [go_sem, kn11, rRightF, rBytesF, rLowF, unf_fdrow, lowB_len, Try.ntmps11, reduceIte, reduceCtorEq, Nat.reduceAdd, Nat.reduceEqDiff, Nat.reduceLT, Nat.reduceLeDiff, Nat.reduceSub, Nat.reduceMul, Nat.reduceBEq, Int.reduceToNat, Int.reduceLE, Int.reduceLT, Int.reducePow]; done) | (simp only [go_sem, kn11, rRightF, rBytesF, rLowF, unf_fdrow, lowB_len, Try.ntmps11, reduceIte, reduceCtorEq, Nat.reduceAdd, Nat.reduceEqDiff, Nat.reduceLT, Nat.reduceLeDiff, Nat.reduceSub, Nat.reduceMul, Nat.reduceBEq, Int.reduceToNat, Int.reduceLE, Int.reduceLT, Int.reducePow]; omega)
        case k10 => simp only [go_sem, kn11, rRightF, rBytesF, rLowF, unf_fdrow, lowB_len, Try.ntmps11, reduceIte, reduceCtorEq, Nat.reduceAdd, Nat.reduceEqDiff, Nat.reduceLT, Nat.reduceLeDiff, Nat.reduceSub, Nat.reduceMul, Nat.reduceBEq, Int.reduceToNat, Int.reduceLE, Int.reduceLT, Int.reducePow]; rfl
        refine AWp.seq ?_
        refine AWp.seq ?_
        refine AWp.reg (S1 := ?S11) (ob := ?o11) (S' := ?K11) tab_ok (knowL_ok kn11_ok) mixed [1, 5, 6, 24] ?r11 ?h11 ?k11 ?w11
        case r11 => simp only [go_sem, kn11, rRightF, rBytesF, rLowF, unf_fdrow, lowB_len, Try.ntmps11, reduceIte, reduceCtorEq, Nat.reduceAdd, Nat.reduceEqDiff, Nat.reduceLT, Nat.reduceLeDiff, Nat.reduceSub, Nat.reduceMul, Nat.reduceBEq, Int.reduceToNat, Int.reduceLE, Int.reduceLT, Int.reducePow]; rfl
        case h11 => first | exact True.intro | omega | (simp only [go_sem, kn11, rRightF, rBytesF, rLowF, unf_fdrow, lowB_len, Try.ntmps11, reduceIte, reduceCtorEq, Nat.reduceAdd, Nat.reduceEqDiff, Nat.reduceLT, Nat.reduceLeDiff, Nat.reduceSub, Nat.reduceMul, Nat.reduceBEq, Int.reduceToNat, Int.reduceLE, Int.reduceLT, Int.reducePow]; done) | (simp only [go_sem, kn11, rRightF, rBytesF, rLowF, unf_fdrow, lowB_len, Try.ntmps11, reduceIte, reduceCtorEq, Nat.reduceAdd, Nat.reduceEqDiff, Nat.reduceLT, Nat.reduceLeDiff, Nat.reduceSub, Nat.reduceMul, Nat.reduceBEq, Int.reduceToNat, Int.reduceLE, Int.reduceLT, Int.reducePow]; omega)
        case k11 => simp only [go_sem, kn11, rRightF, rBytesF, rLowF, unf_fdrow, lowB_len, Try.ntmps11, reduceIte, reduceCtorEq, Nat.reduceAdd, Nat.reduceEqDiff, Nat.reduceLT, Nat.reduceLeDiff, Nat.reduceSub, Nat.reduceMul, Nat.reduceBEq, Int.reduceToNat, Int.reduceLE, Int.reduceLT, Int.reducePow]; rfl
        refine AWp.cond (b := ?b12) ?c12 ?t12 ?f12
        case c12 => simp only [go_sem, kn11, rRightF, rBytesF, rLowF, unf_fdrow, lowB_len, Try.ntmps11, reduceIte, reduceCtorEq, Nat.reduceAdd, Nat.reduceEqDiff, Nat.reduceLT, Nat.reduceLeDiff, Nat.reduceSub, Nat.reduceMul, Nat.reduceBEq, Int.reduceToNat, Int.reduceLE, Int.reduceLT, Int.reducePow]; rfl
        case t12 =>
          intro hb3
          exfalso; simp at hb3
        case f12 =>
          intro hb3
          refine AWp.skip ?_
          refine AWp.seq ?_
          refine AWp.reg (S1 := ?S13) (ob := ?o13) (S' := ?K13) tab_ok (knowL_ok kn11_ok) mixed [1, 5, 6, 7] ?r13 ?h13 ?k13 ?w13
          case r13 => simp only [go_sem, kn11, rRightF, rBytesF, rLowF, unf_fdrow, lowB_len, Try.ntmps11, reduceIte, reduceCtorEq, Nat.reduceAdd, Nat.reduceEqDiff, Nat.reduceLT, Nat.reduceLeDiff, Nat.reduceSub, Nat.reduceMul, Nat.reduceBEq, Int.reduceToNat, Int.reduceLE, Int.reduceLT, Int.reducePow]; rfl
          case h13 => first | exact True.intro | omega | (simp only [go_sem, kn11, rRightF, rBytesF, rLowF, unf_fdrow, lowB_len, Try.ntmps11, reduceIte, reduceCtorEq, Nat.reduceAdd, Nat.reduceEqDiff, Nat.reduceLT, Nat.reduceLeDiff, Nat.reduceSub, Nat.reduceMul, Nat.reduceBEq, Int.reduceToNat, Int.reduceLE, Int.reduceLT, Int.reducePow]; done) | (simp only [go_sem, kn11, rRightF, rBytesF, rLowF, unf_fdrow, lowB_len, Try.ntmps11, reduceIte, reduceCtorEq, Nat.reduceAdd, Nat.reduceEqDiff, Nat.reduceLT, Nat.reduceLeDiff, Nat.reduceSub, Nat.reduceMul, Nat.reduceBEq, Int.reduceToNat, Int.reduceLE, Int.reduceLT, Int.reducePow]; omega)
          case k13 => simp only [go_sem, kn11, rRightF, rBytesF, rLowF, unf_fdrow, lowB_len, Try.ntmps11, reduceIte, reduceCtorEq, Nat.reduceAdd, Nat.reduceEqDiff, Nat.reduceLT, Nat.reduceLeDiff, Nat.reduceSub, Nat.reduceMul, Nat.reduceBEq, Int.reduceToNat, Int.reduceLE, Int.reduceLT, Int.reducePow]; rfl
          refine AWp.seq ?_
          refine AWp.seq ?_
          refine AWp.reg (S1 := ?S14) (ob := ?o14) (S' := ?K14) tab_ok (knowL_ok kn11_ok) mixed [1, 5, 6, 7, 8] ?r14 ?h14 ?k14 ?w14
          case r14 => simp only [go_sem, kn11, rRightF, rBytesF, rLowF, unf_fdrow, lowB_len, Try.ntmps11, reduceIte, reduceCtorEq, Nat.reduceAdd, Nat.reduceEqDiff, Nat.reduceLT, Nat.reduceLeDiff, Nat.reduceSub, Nat.reduceMul, Nat.reduceBEq, Int.reduceToNat, Int.reduceLE, Int.reduceLT, Int.reducePow]; rfl
          case h14 => first | exact True.intro | omega | (simp only [go_sem, kn11, rRightF, rBytesF, rLowF, unf_fdrow, lowB_len, Try.ntmps11, reduceIte, reduceCtorEq, Nat.reduceAdd, Nat.reduceEqDiff, Nat.reduceLT, Nat.reduceLeDiff, Nat.reduceSub, Nat.reduceMul, Nat.reduceBEq, Int.reduceToNat, Int.reduceLE, Int.reduceLT, Int.reducePow]; done) | (simp only [go_sem, kn11, rRightF, rBytesF, rLowF, unf_fdrow, lowB_len, Try.ntmps11, reduceIte, reduceCtorEq, Nat.reduceAdd, Nat.reduceEqDiff, Nat.reduceLT, Nat.reduceLeDiff, Nat.reduceSub, Nat.reduceMul, Nat.reduceBEq, Int.reduceToNat, Int.reduceLE, Int.reduceLT, Int.reducePow]; omega)
          case k14 => simp only [go_sem, kn11, rRightF, rBytesF, rLowF, unf_fdrow, lowB_len, Try.ntmps11, reduceIte, reduceCtorEq, Nat.reduceAdd, Nat.reduceEqDiff, Nat.reduceLT, Nat.reduceLeDiff, Nat.reduceSub, Nat.reduceMul, Nat.reduceBEq, Int.reduceToNat, Int.reduceLE, Int.reduceLT, Int.reducePow]; rfl
          refine AWp.block ?_
          refine AWp.conv (Conv.nilT 7 (e := 1) (ety := 38) rfl rfl) ?_
          refine AWp.conv (Conv.keep [1, 5, 6, 7, 8] [1, 0] (by simp [St.nilT])) ?_
          refine AWp.loop (fun k S => ∃ i : Nat, i ≤ 1 ∧ k = 1 - i ∧ S = ⟨[(1, .one (.s (.ptr 0 0))), (5, .one (dv (.slice none 1 (brow (bytesL fl))))), (6, .one (dv (.int .i64 ((1 : Nat) : Int)))), (7, .one (.s (.row 1 1 0 i none))), (8, .one (dv (.int .i64 ((i : Nat) : Int))))], [(1, .row (recR n 1 (bytesL fl) i) 38), (0, .cells [.d (.int .i64 n), .d (.slice z 3 (fdrow fl))] 34)], 2⟩) (1) ?i1 ?n1
          case i1 =>
            exact ⟨0, by omega, rfl, by simp [St.nilT, St.keep, keepE, lookN, recR]⟩
          case n1 =>
            rintro k S ⟨i, hi0, rfl, rfl⟩
            refine AWp.seq ?_
            refine AWp.seq ?_
            refine AWp.reg (S1 := ?S15) (ob := ?o15) (S' := ?K15) tab_ok (knowL_ok kn11_ok) mixed [1, 5, 6, 7, 8, 27] ?r15 ?h15 ?k15 ?w15
            case r15 => simp only [go_sem, kn11, rRightF, rBytesF, rLowF, unf_fdrow, lowB_len, Try.ntmps11, reduceIte, reduceCtorEq, Nat.reduceAdd, Nat.reduceEqDiff, Nat.reduceLT, Nat.reduceLeDiff, Nat.reduceSub, Nat.reduceMul, Nat.reduceBEq, Int.reduceToNat, Int.reduceLE, Int.reduceLT, Int.reducePow]; rfl
            case h15 => first | exact True.intro | omega | (simp only [go_sem, kn11, rRightF, rBytesF, rLowF, unf_fdrow, lowB_len, Try.ntmps11, reduceIte, reduceCtorEq, Nat.reduceAdd, Nat.reduceEqDiff, Nat.reduceLT, Nat.reduceLeDiff, Nat.reduceSub, Nat.reduceMul, Nat.reduceBEq, Int.reduceToNat, Int.reduceLE, Int.reduceLT, Int.reducePow]; done) | (simp only [go_sem, kn11, rRightF, rBytesF, rLowF, unf_fdrow, lowB_len, Try.ntmps11, reduceIte, reduceCtorEq, Nat.reduceAdd, Nat.reduceEqDiff, Nat.reduceLT, Nat.reduceLeDiff, Nat.reduceSub, Nat.reduceMul, Nat.reduceBEq, Int.reduceToNat, Int.reduceLE, Int.reduceLT, Int.reducePow]; omega)
            case k15 => simp only [go_sem, kn11, rRightF, rBytesF, rLowF, unf_fdrow, lowB_len, Try.ntmps11, reduceIte, reduceCtorEq, Nat.reduceAdd, Nat.reduceEqDiff, Nat.reduceLT, Nat.reduceLeDiff, Nat.reduceSub, Nat.reduceMul, Nat.reduceBEq, Int.reduceToNat, Int.reduceLE, Int.reduceLT, Int.reducePow]; rfl
            refine AWp.cond (b := ?b16) ?c16 ?t16 ?f16
            case c16 => simp only [go_sem, kn11, rRightF, rBytesF, rLowF, unf_fdrow, lowB_len, Try.ntmps11, reduceIte, reduceCtorEq, Nat.reduceAdd, Nat.reduceEqDiff, Nat.reduceLT, Nat.reduceLeDiff, Nat.reduceSub, Nat.reduceMul, Nat.reduceBEq, Int.reduceToNat, Int.reduceLE, Int.reduceLT, Int.reducePow]; rfl
            case t16 =>
              intro hb4
              have hi : i < 1 := by simp at hb4; omega
              have hle : 4000 * i ≤ (bytesL fl).length := by omega
              refine AWp.skip ?_
              refine AWp.seq ?_
              refine AWp.block ?_
              refine AWp.seq ?_
              refine AWp.reg (S1 := ?S17) (ob := ?o17) (S' := ?K17) tab_ok (knowL_ok kn11_ok) mixed [1, 5, 6, 7, 8, 9] ?r17 ?h17 ?k17 ?w17
              case r17 => simp only [go_sem, kn11, rRightF, rBytesF, rLowF, unf_fdrow, lowB_len, Try.ntmps11, reduceIte, reduceCtorEq, Nat.reduceAdd, Nat.reduceEqDiff, Nat.reduceLT, Nat.reduceLeDiff, Nat.reduceSub, Nat.reduceMul, Nat.reduceBEq, Int.reduceToNat, Int.reduceLE, Int.reduceLT, Int.reducePow]; rfl
              case h17 => first | exact True.intro | omega | (simp only [go_sem, kn11, rRightF, rBytesF, rLowF, unf_fdrow, lowB_len, Try.ntmps11, reduceIte, reduceCtorEq, Nat.reduceAdd, Nat.reduceEqDiff, Nat.reduceLT, Nat.reduceLeDiff, Nat.reduceSub, Nat.reduceMul, Nat.reduceBEq, Int.reduceToNat, Int.reduceLE, Int.reduceLT, Int.reducePow]; done) | (simp only [go_sem, kn11, rRightF, rBytesF, rLowF, unf_fdrow, lowB_len, Try.ntmps11, reduceIte, reduceCtorEq, Nat.reduceAdd, Nat.reduceEqDiff, Nat.reduceLT, Nat.reduceLeDiff, Nat.reduceSub, Nat.reduceMul, Nat.reduceBEq, Int.reduceToNat, Int.reduceLE, Int.reduceLT, Int.reducePow]; omega)
              case k17 => simp only [go_sem, kn11, rRightF, rBytesF, rLowF, unf_fdrow, lowB_len, Try.ntmps11, reduceIte, reduceCtorEq, Nat.reduceAdd, Nat.reduceEqDiff, Nat.reduceLT, Nat.reduceLeDiff, Nat.reduceSub, Nat.reduceMul, Nat.reduceBEq, Int.reduceToNat, Int.reduceLE, Int.reduceLT, Int.reducePow]; rfl
              refine AWp.seq ?_
              refine AWp.reg (S1 := ?S18) (ob := ?o18) (S' := ?K18) tab_ok (knowL_ok kn11_ok) mixed [1, 5, 6, 7, 8, 9] ?r18 ?h18 ?k18 ?w18
              case r18 => simp only [go_sem, kn11, rRightF, rBytesF, rLowF, unf_fdrow, lowB_len, Try.ntmps11, reduceIte, reduceCtorEq, Nat.reduceAdd, Nat.reduceEqDiff, Nat.reduceLT, Nat.reduceLeDiff, Nat.reduceSub, Nat.reduceMul, Nat.reduceBEq, Int.reduceToNat, Int.reduceLE, Int.reduceLT, Int.reducePow]; rfl
              case h18 => first | exact True.intro | omega | (simp only [go_sem, kn11, rRightF, rBytesF, rLowF, unf_fdrow, lowB_len, Try.ntmps11, reduceIte, reduceCtorEq, Nat.reduceAdd, Nat.reduceEqDiff, Nat.reduceLT, Nat.reduceLeDiff, Nat.reduceSub, Nat.reduceMul, Nat.reduceBEq, Int.reduceToNat, Int.reduceLE, Int.reduceLT, Int.reducePow]; done) | (simp only [go_sem, kn11, rRightF, rBytesF, rLowF, unf_fdrow, lowB_len, Try.ntmps11, reduceIte, reduceCtorEq, Nat.reduceAdd, Nat.reduceEqDiff, Nat.reduceLT, Nat.reduceLeDiff, Nat.reduceSub, Nat.reduceMul, Nat.reduceBEq, Int.reduceToNat, Int.reduceLE, Int.reduceLT, Int.reducePow]; omega)
              case k18 => simp only [go_sem, kn11, rRightF, rBytesF, rLowF, unf_fdrow, lowB_len, Try.ntmps11, reduceIte, reduceCtorEq, Nat.reduceAdd, Nat.reduceEqDiff, Nat.reduceLT, Nat.reduceLeDiff, Nat.reduceSub, Nat.reduceMul, Nat.reduceBEq, Int.reduceToNat, Int.reduceLE, Int.reduceLT, Int.reducePow]; rfl
              refine AWp.seq ?_
              refine AWp.reg (S1 := ?S19) (ob := ?o19) (S' := ?K19) tab_ok (knowL_ok kn11_ok) mixed [1, 5, 6, 7, 8, 9] ?r19 ?h19 ?k19 ?w19
              case r19 => simp only [go_sem, kn11, rRightF, rBytesF, rLowF, unf_fdrow, lowB_len, Try.ntmps11, reduceIte, reduceCtorEq, Nat.reduceAdd, Nat.reduceEqDiff, Nat.reduceLT, Nat.reduceLeDiff, Nat.reduceSub, Nat.reduceMul, Nat.reduceBEq, Int.reduceToNat, Int.reduceLE, Int.reduceLT, Int.reducePow]; rfl
              case h19 => first | exact True.intro | omega | (simp only [go_sem, kn11, rRightF, rBytesF, rLowF, unf_fdrow, lowB_len, Try.ntmps11, reduceIte, reduceCtorEq, Nat.reduceAdd, Nat.reduceEqDiff, Nat.reduceLT, Nat.reduceLeDiff, Nat.reduceSub, Nat.reduceMul, Nat.reduceBEq, Int.reduceToNat, Int.reduceLE, Int.reduceLT, Int.reducePow]; done) | (simp only [go_sem, kn11, rRightF, rBytesF, rLowF, unf_fdrow, lowB_len, Try.ntmps11, reduceIte, reduceCtorEq, Nat.reduceAdd, Nat.reduceEqDiff, Nat.reduceLT, Nat.reduceLeDiff, Nat.reduceSub, Nat.reduceMul, Nat.reduceBEq, Int.reduceToNat, Int.reduceLE, Int.reduceLT, Int.reducePow]; omega)
              case k19 => simp only [go_sem, kn11, rRightF, rBytesF, rLowF, unf_fdrow, lowB_len, Try.ntmps11, reduceIte, reduceCtorEq, Nat.reduceAdd, Nat.reduceEqDiff, Nat.reduceLT, Nat.reduceLeDiff, Nat.reduceSub, Nat.reduceMul, Nat.reduceBEq, Int.reduceToNat, Int.reduceLE, Int.reduceLT, Int.reducePow]; rfl
              refine AWp.seq ?_
              refine AWp.reg (S1 := ?S20) (ob := ?o20) (S' := ?K20) tab_ok (knowL_ok kn11_ok) mixed [1, 5, 6, 7, 8, 9] ?r20 ?h20 ?k20 ?w20
              case r20 => simp only [go_sem, kn11, rRightF, rBytesF, rLowF, unf_fdrow, lowB_len, Try.ntmps11, reduceIte, reduceCtorEq, Nat.reduceAdd, Nat.reduceEqDiff, Nat.reduceLT, Nat.reduceLeDiff, Nat.reduceSub, Nat.reduceMul, Nat.reduceBEq, Int.reduceToNat, Int.reduceLE, Int.reduceLT, Int.reducePow, sub_chunk]; rfl
              case h20 =>
                have hch := chunk_len (bytesL fl) i
                by_cases hlt : ((bytesL fl).length : Int) < 4000 * (i : Int) + 4000
                · simp only [go_sem, kn11, rRightF, rBytesF, rLowF, unf_fdrow, lowB_len, Try.ntmps11, reduceIte, reduceCtorEq, Nat.reduceAdd, Nat.reduceEqDiff, Nat.reduceLT, Nat.reduceLeDiff, Nat.reduceSub, Nat.reduceMul, Nat.reduceBEq, Int.reduceToNat, Int.reduceLE, Int.reduceLT, Int.reducePow, sub_chunk]
                  simp only [if_pos hlt]
                  omega
                · simp only [go_sem, kn11, rRightF, rBytesF, rLowF, unf_fdrow, lowB_len, Try.ntmps11, reduceIte, reduceCtorEq, Nat.reduceAdd, Nat.reduceEqDiff, Nat.reduceLT, Nat.reduceLeDiff, Nat.reduceSub, Nat.reduceMul, Nat.reduceBEq, Int.reduceToNat, Int.reduceLE, Int.reduceLT, Int.reducePow, sub_chunk]
                  simp only [if_neg hlt]
                  omega
              case k20 => simp only [go_sem, kn11, rRightF, rBytesF, rLowF, unf_fdrow, lowB_len, Try.ntmps11, reduceIte, reduceCtorEq, Nat.reduceAdd, Nat.reduceEqDiff, Nat.reduceLT, Nat.reduceLeDiff, Nat.reduceSub, Nat.reduceMul, Nat.reduceBEq, Int.reduceToNat, Int.reduceLE, Int.reduceLT, Int.reducePow]; rfl
              refine AWp.reg (S1 := ?S21) (ob := ?o21) (S' := ?K21) tab_ok (knowL_ok kn11_ok) mixed [1, 5, 6, 7, 8] ?r21 ?h21 ?k21 ?w21
              case r21 => simp only [go_sem, kn11, rRightF, rBytesF, rLowF, unf_fdrow, lowB_len, Try.ntmps11, reduceIte, reduceCtorEq, Nat.reduceAdd, Nat.reduceEqDiff, Nat.reduceLT, Nat.reduceLeDiff, Nat.reduceSub, Nat.reduceMul, Nat.reduceBEq, Int.reduceToNat, Int.reduceLE, Int.reduceLT, Int.reducePow, sub_chunk]; rfl
              case h21 =>
                rw [recR_len]
                omega
              case k21 => simp only [go_sem, kn11, rRightF, rBytesF, rLowF, unf_fdrow, lowB_len, Try.ntmps11, reduceIte, reduceCtorEq, Nat.reduceAdd, Nat.reduceEqDiff, Nat.reduceLT, Nat.reduceLeDiff, Nat.reduceSub, Nat.reduceMul, Nat.reduceBEq, Int.reduceToNat, Int.reduceLE, Int.reduceLT, Int.reducePow]; rfl
              refine AWp.reg (S1 := ?S22) (ob := ?o22) (S' := ?K22) tab_ok (knowL_ok kn11_ok) mixed [1, 5, 6, 7, 8] ?r22 ?h22 ?k22 ?w22
              case r22 => simp only [go_sem, kn11, rRightF, rBytesF, rLowF, unf_fdrow, lowB_len, Try.ntmps11, reduceIte, reduceCtorEq, Nat.reduceAdd, Nat.reduceEqDiff, Nat.reduceLT, Nat.reduceLeDiff, Nat.reduceSub, Nat.reduceMul, Nat.reduceBEq, Int.reduceToNat, Int.reduceLE, Int.reduceLT, Int.reducePow]; rfl
              case h22 => first | exact True.intro | omega | (simp only [go_sem, kn11, rRightF, rBytesF, rLowF, unf_fdrow, lowB_len, Try.ntmps11, reduceIte, reduceCtorEq, Nat.reduceAdd, Nat.reduceEqDiff, Nat.reduceLT, Nat.reduceLeDiff, Nat.reduceSub, Nat.reduceMul, Nat.reduceBEq, Int.reduceToNat, Int.reduceLE, Int.reduceLT, Int.reducePow]; done) | (simp only [go_sem, kn11, rRightF, rBytesF, rLowF, unf_fdrow, lowB_len, Try.ntmps11, reduceIte, reduceCtorEq, Nat.reduceAdd, Nat.reduceEqDiff, Nat.reduceLT, Nat.reduceLeDiff, Nat.reduceSub, Nat.reduceMul, Nat.reduceBEq, Int.reduceToNat, Int.reduceLE, Int.reduceLT, Int.reducePow]; omega)
              case k22 => simp only [go_sem, kn11, rRightF, rBytesF, rLowF, unf_fdrow, lowB_len, Try.ntmps11, reduceIte, reduceCtorEq, Nat.reduceAdd, Nat.reduceEqDiff, Nat.reduceLT, Nat.reduceLeDiff, Nat.reduceSub, Nat.reduceMul, Nat.reduceBEq, Int.reduceToNat, Int.reduceLE, Int.reduceLT, Int.reducePow]; rfl
              refine ⟨1 - (i + 1), ⟨[(1, .one (.s (.ptr 0 0))), (5, .one (dv (.slice none 1 (brow (bytesL fl))))), (6, .one (dv (.int .i64 ((1 : Nat) : Int)))), (7, .one (.s (.row 1 1 0 (i + 1) none))), (8, .one (dv (.int .i64 (((i + 1) : Nat) : Int))))], [(1, .row (recR n 1 (bytesL fl) (i + 1)) 38), (0, .cells [.d (.int .i64 n), .d (.slice z 3 (fdrow fl))] 34)], 2⟩, by omega, ?_, i + 1, by omega, rfl, rfl⟩
              exact (Conv.keep [1, 5, 6, 7, 8] [8, 0] (by simp)).trans (Conv.rename (fun j => if j = 1 then 8 else j) (by simp; done) (by simp; done) (by simp [St.keep, keepE, lookN, AVal.ren, AV.ren, Sc.ren, AVal.ids, AV.ids, Sc.ids, recR_len]; done) (by simp [St.keep, keepE, lookN, AObj.ren, AObj.ids, Sc.ids, Sc.ren, recR_succ, recB, brow]; done) (by simp; done))
            case f16 =>
              intro hb4
              have hi : i = 1 := by simp at hb4; omega
              subst hi
              refine AWp.exit ?_
              refine thenA_exit ?_
              refine thenA_exit ?_
              refine inB_eq ?_
              refine AWp.seq ?_
              refine AWp.reg (S1 := ?S23) (ob := ?o23) (S' := ?K23) tab_ok (knowL_ok kn11_ok) mixed [2, 3] ?r23 ?h23 ?k23 ?w23
              case r23 => simp only [go_sem, kn11, rRightF, rBytesF, rLowF, unf_fdrow, lowB_len, Try.ntmps11, reduceIte, reduceCtorEq, Nat.reduceAdd, Nat.reduceEqDiff, Nat.reduceLT, Nat.reduceLeDiff, Nat.reduceSub, Nat.reduceMul, Nat.reduceBEq, Int.reduceToNat, Int.reduceLE, Int.reduceLT, Int.reducePow]; rfl
              case h23 => first | exact True.intro | omega | (simp only [go_sem, kn11, rRightF, rBytesF, rLowF, unf_fdrow, lowB_len, Try.ntmps11, reduceIte, reduceCtorEq, Nat.reduceAdd, Nat.reduceEqDiff, Nat.reduceLT, Nat.reduceLeDiff, Nat.reduceSub, Nat.reduceMul, Nat.reduceBEq, Int.reduceToNat, Int.reduceLE, Int.reduceLT, Int.reducePow]; done) | (simp only [go_sem, kn11, rRightF, rBytesF, rLowF, unf_fdrow, lowB_len, Try.ntmps11, reduceIte, reduceCtorEq, Nat.reduceAdd, Nat.reduceEqDiff, Nat.reduceLT, Nat.reduceLeDiff, Nat.reduceSub, Nat.reduceMul, Nat.reduceBEq, Int.reduceToNat, Int.reduceLE, Int.reduceLT, Int.reducePow]; omega)
              case k23 => simp only [go_sem, kn11, rRightF, rBytesF, rLowF, unf_fdrow, lowB_len, Try.ntmps11, reduceIte, reduceCtorEq, Nat.reduceAdd, Nat.reduceEqDiff, Nat.reduceLT, Nat.reduceLeDiff, Nat.reduceSub, Nat.reduceMul, Nat.reduceBEq, Int.reduceToNat, Int.reduceLE, Int.reduceLT, Int.reducePow]; rfl
              refine AWp.ret ?_
              refine ends_p (vs := ?vs2) (ob := ?ro2) (vs' := ?ws2) (ks := ?ks2) (ob2 := ?rp2) tab_ok (by simp) ?er2 ?eo2 ?ef2 ?eg2 ?en2 ?ek2 ?ev2
              case er2 => simp only [go_sem, kn11, rRightF, rBytesF, rLowF, unf_fdrow, lowB_len, Try.ntmps11, reduceIte, reduceCtorEq, Nat.reduceAdd, Nat.reduceEqDiff, Nat.reduceLT, Nat.reduceLeDiff, Nat.reduceSub, Nat.reduceMul, Nat.reduceBEq, Int.reduceToNat, Int.reduceLE, Int.reduceLT, Int.reducePow, Try.results11]; rfl
              case eo2 => first | exact True.intro | simp only [go_sem, kn11, rRightF, rBytesF, rLowF, unf_fdrow, lowB_len, Try.ntmps11, reduceIte, reduceCtorEq, Nat.reduceAdd, Nat.reduceEqDiff, Nat.reduceLT, Nat.reduceLeDiff, Nat.reduceSub, Nat.reduceMul, Nat.reduceBEq, Int.reduceToNat, Int.reduceLE, Int.reduceLT, Int.reducePow]
              case ef2 => simp only [go_sem, kn11, rRightF, rBytesF, rLowF, unf_fdrow, lowB_len, Try.ntmps11, reduceIte, reduceCtorEq, Nat.reduceAdd, Nat.reduceEqDiff, Nat.reduceLT, Nat.reduceLeDiff, Nat.reduceSub, Nat.reduceMul, Nat.reduceBEq, Int.reduceToNat, Int.reduceLE, Int.reduceLT, Int.reducePow]; rfl
              case eg2 => simp [recR_len]
              case en2 => simp only [go_sem, kn11, rRightF, rBytesF, rLowF, unf_fdrow, lowB_len, Try.ntmps11, reduceIte, reduceCtorEq, Nat.reduceAdd, Nat.reduceEqDiff, Nat.reduceLT, Nat.reduceLeDiff, Nat.reduceSub, Nat.reduceMul, Nat.reduceBEq, Int.reduceToNat, Int.reduceLE, Int.reduceLT, Int.reducePow]
              case ek2 => simp only [go_sem, kn11, rRightF, rBytesF, rLowF, unf_fdrow, lowB_len, Try.ntmps11, reduceIte, reduceCtorEq, Nat.reduceAdd, Nat.reduceEqDiff, Nat.reduceLT, Nat.reduceLeDiff, Nat.reduceSub, Nat.reduceMul, Nat.reduceBEq, Int.reduceToNat, Int.reduceLE, Int.reduceLT, Int.reducePow]
              case ev2 =>
                rw [encV, if_pos hr, show nP (bytesL fl) = 1 from by simp [nP, h0]]; rfl
      case f9 =>
        intro hb2
        have h0 : ¬ (nChunks 4000 (bytesL fl).length) = 0 := by simp at hb2; omega
        refine AWp.skip ?_
        refine AWp.seq ?_
        refine AWp.seq ?_
        refine AWp.reg (S1 := ?S24) (ob := ?o24) (S' := ?K24) tab_ok (knowL_ok kn11_ok) mixed [1, 5, 6, 24] ?r24 ?h24 ?k24 ?w24
        case r24 => simp only [go_sem, kn11, rRightF, rBytesF, rLowF, unf_fdrow, lowB_len, Try.ntmps11, reduceIte, reduceCtorEq, Nat.reduceAdd, Nat.reduceEqDiff, Nat.reduceLT, Nat.reduceLeDiff, Nat.reduceSub, Nat.reduceMul, Nat.reduceBEq, Int.reduceToNat, Int.reduceLE, Int.reduceLT, Int.reducePow]; rfl
        case h24 => first | exact True.intro | omega | (simp only [go_sem, kn11, rRightF, rBytesF, rLowF, unf_fdrow, lowB_len, Try.ntmps11, reduceIte, reduceCtorEq, Nat.reduceAdd, Nat.reduceEqDiff, Nat.reduceLT, Nat.reduceLeDiff, Nat.reduceSub, Nat.reduceMul, Nat.reduceBEq, Int.reduceToNat, Int.reduceLE, Int.reduceLT, Int.reducePow]; done) | (simp only [go_sem, kn11, rRightF, rBytesF, rLowF, unf_fdrow, lowB_len, Try.ntmps11, reduceIte, reduceCtorEq, Nat.reduceAdd, Nat.reduceEqDiff, Nat.reduceLT, Nat.reduceLeDiff, Nat.reduceSub, Nat.reduceMul, Nat.reduceBEq, Int.reduceToNat, Int.reduceLE, Int.reduceLT, Int.reducePow]; omega)
        case k24 => simp only [go_sem, kn11, rRightF, rBytesF, rLowF, unf_fdrow, lowB_len, Try.ntmps11, reduceIte, reduceCtorEq, Nat.reduceAdd, Nat.reduceEqDiff, Nat.reduceLT, Nat.reduceLeDiff, Nat.reduceSub, Nat.reduceMul, Nat.reduceBEq, Int.reduceToNat, Int.reduceLE, Int.reduceLT, Int.reducePow]; rfl
        refine AWp.cond (b := ?b25) ?c25 ?t25 ?f25
        case c25 => simp only [go_sem, kn11, rRightF, rBytesF, rLowF, unf_fdrow, lowB_len, Try.ntmps11, reduceIte, reduceCtorEq, Nat.reduceAdd, Nat.reduceEqDiff, Nat.reduceLT, Nat.reduceLeDiff, Nat.reduceSub, Nat.reduceMul, Nat.reduceBEq, Int.reduceToNat, Int.reduceLE, Int.reduceLT, Int.reducePow]; rfl
        case t25 =>
          intro hb5
          exfalso; simp at hb5; omega
        case f25 =>
          intro hb5
          refine AWp.skip ?_
          refine AWp.seq ?_
          refine AWp.reg (S1 := ?S26) (ob := ?o26) (S' := ?K26) tab_ok (knowL_ok kn11_ok) mixed [1, 5, 6, 7] ?r26 ?h26 ?k26 ?w26
          case r26 => simp only [go_sem, kn11, rRightF, rBytesF, rLowF, unf_fdrow, lowB_len, Try.ntmps11, reduceIte, reduceCtorEq, Nat.reduceAdd, Nat.reduceEqDiff, Nat.reduceLT, Nat.reduceLeDiff, Nat.reduceSub, Nat.reduceMul, Nat.reduceBEq, Int.reduceToNat, Int.reduceLE, Int.reduceLT, Int.reducePow]; rfl
          case h26 => first | exact True.intro | omega | (simp only [go_sem, kn11, rRightF, rBytesF, rLowF, unf_fdrow, lowB_len, Try.ntmps11, reduceIte, reduceCtorEq, Nat.reduceAdd, Nat.reduceEqDiff, Nat.reduceLT, Nat.reduceLeDiff, Nat.reduceSub, Nat.reduceMul, Nat.reduceBEq, Int.reduceToNat, Int.reduceLE, Int.reduceLT, Int.reducePow]; done) | (simp only [go_sem, kn11, rRightF, rBytesF, rLowF, unf_fdrow, lowB_len, Try.ntmps11, reduceIte, reduceCtorEq, Nat.reduceAdd, Nat.reduceEqDiff, Nat.reduceLT, Nat.reduceLeDiff, Nat.reduceSub, Nat.reduceMul, Nat.reduceBEq, Int.reduceToNat, Int.reduceLE, Int.reduceLT, Int.reducePow]; omega)
          case k26 => simp only [go_sem, kn11, rRightF, rBytesF, rLowF, unf_fdrow, lowB_len, Try.ntmps11, reduceIte, reduceCtorEq, Nat.reduceAdd, Nat.reduceEqDiff, Nat.reduceLT, Nat.reduceLeDiff, Nat.reduceSub, Nat.reduceMul, Nat.reduceBEq, Int.reduceToNat, Int.reduceLE, Int.reduceLT, Int.reducePow]; rfl
          refine AWp.seq ?_
          refine AWp.seq ?_
          refine AWp.reg (S1 := ?S27) (ob := ?o27) (S' := ?K27) tab_ok (knowL_ok kn11_ok) mixed [1, 5, 6, 7, 8] ?r27 ?h27 ?k27 ?w27
          case r27 => simp only [go_sem, kn11, rRightF, rBytesF, rLowF, unf_fdrow, lowB_len, Try.ntmps11, reduceIte, reduceCtorEq, Nat.reduceAdd, Nat.reduceEqDiff, Nat.reduceLT, Nat.reduceLeDiff, Nat.reduceSub, Nat.reduceMul, Nat.reduceBEq, Int.reduceToNat, Int.reduceLE, Int.reduceLT, Int.reducePow]; rfl
          case h27 => first | exact True.intro | omega | (simp only [go_sem, kn11, rRightF, rBytesF, rLowF, unf_fdrow, lowB_len, Try.ntmps11, reduceIte, reduceCtorEq, Nat.reduceAdd, Nat.reduceEqDiff, Nat.reduceLT, Nat.reduceLeDiff, Nat.reduceSub, Nat.reduceMul, Nat.reduceBEq, Int.reduceToNat, Int.reduceLE, Int.reduceLT, Int.reducePow]; done) | (simp only [go_sem, kn11, rRightF, rBytesF, rLowF, unf_fdrow, lowB_len, Try.ntmps11, reduceIte, reduceCtorEq, Nat.reduceAdd, Nat.reduceEqDiff, Nat.reduceLT, Nat.reduceLeDiff, Nat.reduceSub, Nat.reduceMul, Nat.reduceBEq, Int.reduceToNat, Int.reduceLE, Int.reduceLT, Int.reducePow]; omega)
          case k27 => simp only [go_sem, kn11, rRightF, rBytesF, rLowF, unf_fdrow, lowB_len, Try.ntmps11, reduceIte, reduceCtorEq, Nat.reduceAdd, Nat.reduceEqDiff, Nat.reduceLT, Nat.reduceLeDiff, Nat.reduceSub, Nat.reduceMul, Nat.reduceBEq, Int.reduceToNat, Int.reduceLE, Int.reduceLT, Int.reducePow]; rfl
          refine AWp.block ?_
          refine AWp.conv (Conv.nilT 7 (e := 1) (ety := 38) rfl rfl) ?_
          refine AWp.conv (Conv.keep [1, 5, 6, 7, 8] [1, 0] (by simp [St.nilT])) ?_
          refine AWp.loop (fun k S => ∃ i : Nat, i ≤ (nChunks 4000 (bytesL fl).length) ∧ k = (nChunks 4000 (bytesL fl).length) - i ∧ S = ⟨[(1, .one (.s (.ptr 0 0))), (5, .one (dv (.slice none 1 (brow (bytesL fl))))), (6, .one (dv (.int .i64 (((nChunks 4000 (bytesL fl).length) : Nat) : Int)))), (7, .one (.s (.row 1 1 0 i none))), (8, .one (dv (.int .i64 ((i : Nat) : Int))))], [(1, .row (recR n (nChunks 4000 (bytesL fl).length) (bytesL fl) i) 38), (0, .cells [.d (.int .i64 n), .d (.slice z 3 (fdrow fl))] 34)], 2⟩) ((nChunks 4000 (bytesL fl).length)) ?i2 ?n2
          case i2 =>
            exact ⟨0, by omega, rfl, by simp [St.nilT, St.keep, keepE, lookN, recR]⟩
          case n2 =>
            rintro k S ⟨i, hi0, rfl, rfl⟩
            refine AWp.seq ?_
            refine AWp.seq ?_
            refine AWp.reg (S1 := ?S28) (ob := ?o28) (S' := ?K28) tab_ok (knowL_ok kn11_ok) mixed [1, 5, 6, 7, 8, 27] ?r28 ?h28 ?k28 ?w28
            case r28 => simp only [go_sem, kn11, rRightF, rBytesF, rLowF, unf_fdrow, lowB_len, Try.ntmps11, reduceIte, reduceCtorEq, Nat.reduceAdd, Nat.reduceEqDiff, Nat.reduceLT, Nat.reduceLeDiff, Nat.reduceSub, Nat.reduceMul, Nat.reduceBEq, Int.reduceToNat, Int.reduceLE, Int.reduceLT, Int.reducePow]; rfl
            case h28 => first | exact True.intro | omega | (simp only [go_sem, kn11, rRightF, rBytesF, rLowF, unf_fdrow, lowB_len, Try.ntmps11, reduceIte, reduceCtorEq, Nat.reduceAdd, Nat.reduceEqDiff, Nat.reduceLT, Nat.reduceLeDiff, Nat.reduceSub, Nat.reduceMul, Nat.reduceBEq, Int.reduceToNat, Int.reduceLE, Int.reduceLT, Int.reducePow]; done) | (simp only [go_sem, kn11, rRightF, rBytesF, rLowF, unf_fdrow, lowB_len, Try.ntmps11, reduceIte, reduceCtorEq, Nat.reduceAdd, Nat.reduceEqDiff, Nat.reduceLT, Nat.reduceLeDiff, Nat.reduceSub, Nat.reduceMul, Nat.reduceBEq, Int.reduceToNat, Int.reduceLE, Int.reduceLT, Int.reducePow]; omega)
            case k28 => simp only [go_sem, kn11, rRightF, rBytesF, rLowF, unf_fdrow, lowB_len, Try.ntmps11, reduceIte, reduceCtorEq, Nat.reduceAdd, Nat.reduceEqDiff, Nat.reduceLT, Nat.reduceLeDiff, Nat.reduceSub, Nat.reduceMul, Nat.reduceBEq, Int.reduceToNat, Int.reduceLE, Int.reduceLT, Int.reducePow]; rfl
            refine AWp.cond (b := ?b29) ?c29 ?t29 ?f29
            case c29 => simp only [go_sem, kn11, rRightF, rBytesF, rLowF, unf_fdrow, lowB_len, Try.ntmps11, reduceIte, reduceCtorEq, Nat.reduceAdd, Nat.reduceEqDiff, Nat.reduceLT, Nat.reduceLeDiff, Nat.reduceSub, Nat.reduceMul, Nat.reduceBEq, Int.reduceToNat, Int.reduceLE, Int.reduceLT, Int.reducePow]; rfl
            case t29 =>
              intro hb6
              have hi : i < (nChunks 4000 (bytesL fl).length) := by simp at hb6; omega
              have hle := (nChunks_lt (k := 4000) (len := (bytesL fl).length) (j := i) (by omega)).2 hi
              refine AWp.skip ?_
              refine AWp.seq ?_
              refine AWp.block ?_
              refine AWp.seq ?_
              refine AWp.reg (S1 := ?S30) (ob := ?o30) (S' := ?K30) tab_ok (knowL_ok kn11_ok) mixed [1, 5, 6, 7, 8, 9] ?r30 ?h30 ?k30 ?w30
              case r30 => simp only [go_sem, kn11, rRightF, rBytesF, rLowF, unf_fdrow, lowB_len, Try.ntmps11, reduceIte, reduceCtorEq, Nat.reduceAdd, Nat.reduceEqDiff, Nat.reduceLT, Nat.reduceLeDiff, Nat.reduceSub, Nat.reduceMul, Nat.reduceBEq, Int.reduceToNat, Int.reduceLE, Int.reduceLT, Int.reducePow]; rfl
              case h30 => first | exact True.intro | omega | (simp only [go_sem, kn11, rRightF, rBytesF, rLowF, unf_fdrow, lowB_len, Try.ntmps11, reduceIte, reduceCtorEq, Nat.reduceAdd, Nat.reduceEqDiff, Nat.reduceLT, Nat.reduceLeDiff, Nat.reduceSub, Nat.reduceMul, Nat.reduceBEq, Int.reduceToNat, Int.reduceLE, Int.reduceLT, Int.reducePow]; done) | (simp only [go_sem, kn11, rRightF, rBytesF, rLowF, unf_fdrow, lowB_len, Try.ntmps11, reduceIte, reduceCtorEq, Nat.reduceAdd, Nat.reduceEqDiff, Nat.reduceLT, Nat.reduceLeDiff, Nat.reduceSub, Nat.reduceMul, Nat.reduceBEq, Int.reduceToNat, Int.reduceLE, Int.reduceLT, Int.reducePow]; omega)
              case k30 => simp only [go_sem, kn11, rRightF, rBytesF, rLowF, unf_fdrow, lowB_len, Try.ntmps11, reduceIte, reduceCtorEq, Nat.reduceAdd, Nat.reduceEqDiff, Nat.reduceLT, Nat.reduceLeDiff, Nat.reduceSub, Nat.reduceMul, Nat.reduceBEq, Int.reduceToNat, Int.reduceLE, Int.reduceLT, Int.reducePow]; rfl
              refine AWp.seq ?_
              refine AWp.reg (S1 := ?S31) (ob := ?o31) (S' := ?K31) tab_ok (knowL_ok kn11_ok) mixed [1, 5, 6, 7, 8, 9] ?r31 ?h31 ?k31 ?w31
              case r31 => simp only [go_sem, kn11, rRightF, rBytesF, rLowF, unf_fdrow, lowB_len, Try.ntmps11, reduceIte, reduceCtorEq, Nat.reduceAdd, Nat.reduceEqDiff, Nat.reduceLT, Nat.reduceLeDiff, Nat.reduceSub, Nat.reduceMul, Nat.reduceBEq, Int.reduceToNat, Int.reduceLE, Int.reduceLT, Int.reducePow]; rfl
              case h31 => first | exact True.intro | omega | (simp only [go_sem, kn11, rRightF, rBytesF, rLowF, unf_fdrow, lowB_len, Try.ntmps11, reduceIte, reduceCtorEq, Nat.reduceAdd, Nat.reduceEqDiff, Nat.reduceLT, Nat.reduceLeDiff, Nat.reduceSub, Nat.reduceMul, Nat.reduceBEq, Int.reduceToNat, Int.reduceLE, Int.reduceLT, Int.reducePow]; done) | (simp only [go_sem, kn11, rRightF, rBytesF, rLowF, unf_fdrow, lowB_len, Try.ntmps11, reduceIte, reduceCtorEq, Nat.reduceAdd, Nat.reduceEqDiff, Nat.reduceLT, Nat.reduceLeDiff, Nat.reduceSub, Nat.reduceMul, Nat.reduceBEq, Int.reduceToNat, Int.reduceLE, Int.reduceLT, Int.reducePow]; omega)
              case k31 => simp only [go_sem, kn11, rRightF, rBytesF, rLowF, unf_fdrow, lowB_len, Try.ntmps11, reduceIte, reduceCtorEq, Nat.reduceAdd, Nat.reduceEqDiff, Nat.reduceLT, Nat.reduceLeDiff, Nat.reduceSub, Nat.reduceMul, Nat.reduceBEq, Int.reduceToNat, Int.reduceLE, Int.reduceLT, Int.reducePow]; rfl
              refine AWp.seq ?_
              refine AWp.reg (S1 := ?S32) (ob := ?o32) (S' := ?K32) tab_ok (knowL_ok kn11_ok) mixed [1, 5, 6, 7, 8, 9] ?r32 ?h32 ?k32 ?w32
              case r32 => simp only [go_sem, kn11, rRightF, rBytesF, rLowF, unf_fdrow, lowB_len, Try.ntmps11, reduceIte, reduceCtorEq, Nat.reduceAdd, Nat.reduceEqDiff, Nat.reduceLT, Nat.reduceLeDiff, Nat.reduceSub, Nat.reduceMul, Nat.reduceBEq, Int.reduceToNat, Int.reduceLE, Int.reduceLT, Int.reducePow]; rfl
              case h32 => first | exact True.intro | omega | (simp only [go_sem, kn11, rRightF, rBytesF, rLowF, unf_fdrow, lowB_len, Try.ntmps11, reduceIte, reduceCtorEq, Nat.reduceAdd, Nat.reduceEqDiff, Nat.reduceLT, Nat.reduceLeDiff, Nat.reduceSub, Nat.reduceMul, Nat.reduceBEq, Int.reduceToNat, Int.reduceLE, Int.reduceLT, Int.reducePow]; done) | (simp only [go_sem, kn11, rRightF, rBytesF, rLowF, unf_fdrow, lowB_len, Try.ntmps11, reduceIte, reduceCtorEq, Nat.reduceAdd, Nat.reduceEqDiff, Nat.reduceLT, Nat.reduceLeDiff, Nat.reduceSub, Nat.reduceMul, Nat.reduceBEq, Int.reduceToNat, Int.reduceLE, Int.reduceLT, Int.reducePow]; omega)
              case k32 => simp only [go_sem, kn11, rRightF, rBytesF, rLowF, unf_fdrow, lowB_len, Try.ntmps11, reduceIte, reduceCtorEq, Nat.reduceAdd, Nat.reduceEqDiff, Nat.reduceLT, Nat.reduceLeDiff, Nat.reduceSub, Nat.reduceMul, Nat.reduceBEq, Int.reduceToNat, Int.reduceLE, Int.reduceLT, Int.reducePow]; rfl
              refine AWp.seq ?_
              refine AWp.reg (S1 := ?S33) (ob := ?o33) (S' := ?K33) tab_ok (knowL_ok kn11_ok) mixed [1, 5, 6, 7, 8, 9] ?r33 ?h33 ?k33 ?w33
              case r33 => simp only [go_sem, kn11, rRightF, rBytesF, rLowF, unf_fdrow, lowB_len, Try.ntmps11, reduceIte, reduceCtorEq, Nat.reduceAdd, Nat.reduceEqDiff, Nat.reduceLT, Nat.reduceLeDiff, Nat.reduceSub, Nat.reduceMul, Nat.reduceBEq, Int.reduceToNat, Int.reduceLE, Int.reduceLT, Int.reducePow, sub_chunk]; rfl
              case h33 =>
                have hch := chunk_len (bytesL fl) i
                by_cases hlt : ((bytesL fl).length : Int) < 4000 * (i : Int) + 4000
                · simp only [go_sem, kn11, rRightF, rBytesF, rLowF, unf_fdrow, lowB_len, Try.ntmps11, reduceIte, reduceCtorEq, Nat.reduceAdd, Nat.reduceEqDiff, Nat.reduceLT, Nat.reduceLeDiff, Nat.reduceSub, Nat.reduceMul, Nat.reduceBEq, Int.reduceToNat, Int.reduceLE, Int.reduceLT, Int.reducePow, sub_chunk]
                  simp only [if_pos hlt]
                  omega
                · simp only [go_sem, kn11, rRightF, rBytesF, rLowF, unf_fdrow, lowB_len, Try.ntmps11, reduceIte, reduceCtorEq, Nat.reduceAdd, Nat.reduceEqDiff, Nat.reduceLT, Nat.reduceLeDiff, Nat.reduceSub, Nat.reduceMul, Nat.reduceBEq, Int.reduceToNat, Int.reduceLE, Int.reduceLT, Int.reducePow, sub_chunk]
                  simp only [if_neg hlt]
                  omega
              case k33 => simp only [go_sem, kn11, rRightF, rBytesF, rLowF, unf_fdrow, lowB_len, Try.ntmps11, reduceIte, reduceCtorEq, Nat.reduceAdd, Nat.reduceEqDiff, Nat.reduceLT, Nat.reduceLeDiff, Nat.reduceSub, Nat.reduceMul, Nat.reduceBEq, Int.reduceToNat, Int.reduceLE, Int.reduceLT, Int.reducePow]; rfl
              refine AWp.reg (S1 := ?S34) (ob := ?o34) (S' := ?K34) tab_ok (knowL_ok kn11_ok) mixed [1, 5, 6, 7, 8] ?r34 ?h34 ?k34 ?w34
              case r34 => simp only [go_sem, kn11, rRightF, rBytesF, rLowF, unf_fdrow, lowB_len, Try.ntmps11, reduceIte, reduceCtorEq, Nat.reduceAdd, Nat.reduceEqDiff, Nat.reduceLT, Nat.reduceLeDiff, Nat.reduceSub, Nat.reduceMul, Nat.reduceBEq, Int.reduceToNat, Int.reduceLE, Int.reduceLT, Int.reducePow, sub_chunk]; rfl
              case h34 =>
                rw [recR_len]
                omega
              case k34 => simp only [go_sem, kn11, rRightF, rBytesF, rLowF, unf_fdrow, lowB_len, Try.ntmps11, reduceIte, reduceCtorEq, Nat.reduceAdd, Nat.reduceEqDiff, Nat.reduceLT, Nat.reduceLeDiff, Nat.reduceSub, Nat.reduceMul, Nat.reduceBEq, Int.reduceToNat, Int.reduceLE, Int.reduceLT, Int.reducePow]; rfl
              refine AWp.reg (S1 := ?S35) (ob := ?o35) (S' := ?K35) tab_ok (knowL_ok kn11_ok) mixed [1, 5, 6, 7, 8] ?r35 ?h35 ?k35 ?w35
              case r35 => simp only [go_sem, kn11, rRightF, rBytesF, rLowF, unf_fdrow, lowB_len, Try.ntmps11, reduceIte, reduceCtorEq, Nat.reduceAdd, Nat.reduceEqDiff, Nat.reduceLT, Nat.reduceLeDiff, Nat.reduceSub, Nat.reduceMul, Nat.reduceBEq, Int.reduceToNat, Int.reduceLE, Int.reduceLT, Int.reducePow]; rfl
              case h35 => first | exact True.intro | omega | (simp only [go_sem, kn11, rRightF, rBytesF, rLowF, unf_fdrow, lowB_len, Try.ntmps11, reduceIte, reduceCtorEq, Nat.reduceAdd, Nat.reduceEqDiff, Nat.reduceLT, Nat.reduceLeDiff, Nat.reduceSub, Nat.reduceMul, Nat.reduceBEq, Int.reduceToNat, Int.reduceLE, Int.reduceLT, Int.reducePow]; done) | (simp only [go_sem, kn11, rRightF, rBytesF, rLowF, unf_fdrow, lowB_len, Try.ntmps11, reduceIte, reduceCtorEq, Nat.reduceAdd, Nat.reduceEqDiff, Nat.reduceLT, Nat.reduceLeDiff, Nat.reduceSub, Nat.reduceMul, Nat.reduceBEq, Int.reduceToNat, Int.reduceLE, Int.reduceLT, Int.reducePow]; omega)
              case k35 => simp only [go_sem, kn11, rRightF, rBytesF, rLowF, unf_fdrow, lowB_len, Try.ntmps11, reduceIte, reduceCtorEq, Nat.reduceAdd, Nat.reduceEqDiff, Nat.reduceLT, Nat.reduceLeDiff, Nat.reduceSub, Nat.reduceMul, Nat.reduceBEq, Int.reduceToNat, Int.reduceLE, Int.reduceLT, Int.reducePow]; rfl
              refine ⟨(nChunks 4000 (bytesL fl).length) - (i + 1), ⟨[(1, .one (.s (.ptr 0 0))), (5, .one (dv (.slice none 1 (brow (bytesL fl))))), (6, .one (dv (.int .i64 (((nChunks 4000 (bytesL fl).length) : Nat) : Int)))), (7, .one (.s (.row 1 1 0 (i + 1) none))), (8, .one (dv (.int .i64 (((i + 1) : Nat) : Int))))], [(1, .row (recR n (nChunks 4000 (bytesL fl).length) (bytesL fl) (i + 1)) 38), (0, .cells [.d (.int .i64 n), .d (.slice z 3 (fdrow fl))] 34)], 2⟩, by omega, ?_, i + 1, by omega, rfl, rfl⟩
              exact (Conv.keep [1, 5, 6, 7, 8] [8, 0] (by simp)).trans (Conv.rename (fun j => if j = 1 then 8 else j) (by simp; done) (by simp; done) (by simp [St.keep, keepE, lookN, AVal.ren, AV.ren, Sc.ren, AVal.ids, AV.ids, Sc.ids, recR_len]; done) (by simp [St.keep, keepE, lookN, AObj.ren, AObj.ids, Sc.ids, Sc.ren, recR_succ, recB, brow]; done) (by simp; done))
            case f29 =>
              intro hb6
              have hi : i = (nChunks 4000 (bytesL fl).length) := by simp at hb6; omega
              subst hi
              refine AWp.exit ?_
              refine thenA_exit ?_
              refine thenA_exit ?_
              refine inB_eq ?_
              refine AWp.seq ?_
              refine AWp.reg (S1 := ?S36) (ob := ?o36) (S' := ?K36) tab_ok (knowL_ok kn11_ok) mixed [2, 3] ?r36 ?h36 ?k36 ?w36
              case r36 => simp only [go_sem, kn11, rRightF, rBytesF, rLowF, unf_fdrow, lowB_len, Try.ntmps11, reduceIte, reduceCtorEq, Nat.reduceAdd, Nat.reduceEqDiff, Nat.reduceLT, Nat.reduceLeDiff, Nat.reduceSub, Nat.reduceMul, Nat.reduceBEq, Int.reduceToNat, Int.reduceLE, Int.reduceLT, Int.reducePow]; rfl
              case h36 => first | exact True.intro | omega | (simp only [go_sem, kn11, rRightF, rBytesF, rLowF, unf_fdrow, lowB_len, Try.ntmps11, reduceIte, reduceCtorEq, Nat.reduceAdd, Nat.reduceEqDiff, Nat.reduceLT, Nat.reduceLeDiff, Nat.reduceSub, Nat.reduceMul, Nat.reduceBEq, Int.reduceToNat, Int.reduceLE, Int.reduceLT, Int.reducePow]; done) | (simp only [go_sem, kn11, rRightF, rBytesF, rLowF, unf_fdrow, lowB_len, Try.ntmps11, reduceIte, reduceCtorEq, Nat.reduceAdd, Nat.reduceEqDiff, Nat.reduceLT, Nat.reduceLeDiff, Nat.reduceSub, Nat.reduceMul, Nat.reduceBEq, Int.reduceToNat, Int.reduceLE, Int.reduceLT, Int.reducePow]; omega)
              case k36 => simp only [go_sem, kn11, rRightF, rBytesF, rLowF, unf_fdrow, lowB_len, Try.ntmps11, reduceIte, reduceCtorEq, Nat.reduceAdd, Nat.reduceEqDiff, Nat.reduceLT, Nat.reduceLeDiff, Nat.reduceSub, Nat.reduceMul, Nat.reduceBEq, Int.reduceToNat, Int.reduceLE, Int.reduceLT, Int.reducePow]; rfl
              refine AWp.ret ?_
              refine ends_p (vs := ?vs3) (ob := ?ro3) (vs' := ?ws3) (ks := ?ks3) (ob2 := ?rp3) tab_ok (by simp) ?er3 ?eo3 ?ef3 ?eg3 ?en3 ?ek3 ?ev3
              case er3 => simp only [go_sem, kn11, rRightF, rBytesF, rLowF, unf_fdrow, lowB_len, Try.ntmps11, reduceIte, reduceCtorEq, Nat.reduceAdd, Nat.reduceEqDiff, Nat.reduceLT, Nat.reduceLeDiff, Nat.reduceSub, Nat.reduceMul, Nat.reduceBEq, Int.reduceToNat, Int.reduceLE, Int.reduceLT, Int.reducePow, Try.results11]; rfl
              case eo3 => first | exact True.intro | simp only [go_sem, kn11, rRightF, rBytesF, rLowF, unf_fdrow, lowB_len, Try.ntmps11, reduceIte, reduceCtorEq, Nat.reduceAdd, Nat.reduceEqDiff, Nat.reduceLT, Nat.reduceLeDiff, Nat.reduceSub, Nat.reduceMul, Nat.reduceBEq, Int.reduceToNat, Int.reduceLE, Int.reduceLT, Int.reducePow]
              case ef3 => simp only [go_sem, kn11, rRightF, rBytesF, rLowF, unf_fdrow, lowB_len, Try.ntmps11, reduceIte, reduceCtorEq, Nat.reduceAdd, Nat.reduceEqDiff, Nat.reduceLT, Nat.reduceLeDiff, Nat.reduceSub, Nat.reduceMul, Nat.reduceBEq, Int.reduceToNat, Int.reduceLE, Int.reduceLT, Int.reducePow]; rfl
              case eg3 => simp [recR_len]
              case en3 => simp only [go_sem, kn11, rRightF, rBytesF, rLowF, unf_fdrow, lowB_len, Try.ntmps11, reduceIte, reduceCtorEq, Nat.reduceAdd, Nat.reduceEqDiff, Nat.reduceLT, Nat.reduceLeDiff, Nat.reduceSub, Nat.reduceMul, Nat.reduceBEq, Int.reduceToNat, Int.reduceLE, Int.reduceLT, Int.reducePow]
              case ek3 => simp only [go_sem, kn11, rRightF, rBytesF, rLowF, unf_fdrow, lowB_len, Try.ntmps11, reduceIte, reduceCtorEq, Nat.reduceAdd, Nat.reduceEqDiff, Nat.reduceLT, Nat.reduceLeDiff, Nat.reduceSub, Nat.reduceMul, Nat.reduceBEq, Int.reduceToNat, Int.reduceLE, Int.reduceLT, Int.reducePow]
              case ev3 =>
                rw [encV, if_pos hr, show nP (bytesL fl) = nChunks 4000 (bytesL fl).length from by simp [nP, h0]]; rfl
  · cases hq

end Go.Proofs.Hg

set_option linter.unusedSimpArgs false
set_option linter.unusedVariables false
set_option maxHeartbeats 4000000
namespace Go.Proofs.Hg
open Go.RowKit
set_option maxRecDepth 100000
def rowB1 : List D → List UInt8
  | [.slice _ _ es] => unb es
  | _ => []
def rowZ1 : List D → Option Bool
  | [.slice z _ _] => z
  | _ => none
def rowsB (es : List (List D)) : List (List UInt8) := es.map rowB1
def RowsOk (es : List (List D)) : Prop := ∀ r ∈ es, r = [.slice (rowZ1 r) 1 (brow (rowB1 r))]
theorem rowsB_len (es : List (List D)) : (rowsB es).length = es.length := by simp [rowsB]
theorem RowsOk.get {es : List (List D)} (h : RowsOk es) {i : Nat} (hi : i < es.length) (d : List D) : es.getD i d = [.slice (rowZ1 (es.getD i [])) 1 (brow ((rowsB es).getD i []))] := by
  have e : es.getD i d = es.getD i [] := by rw [getD_lt hi, getD_lt hi]
  have hm : es.getD i [] ∈ es := by rw [getD_lt hi]; exact List.getElem_mem _
  have e2 : (rowsB es).getD i [] = rowB1 (es.getD i []) := by
    rw [getD_lt (by rw [rowsB_len]; exact hi), getD_lt hi]
    simp [rowsB]
  rw [e, e2]
  exact h _ hm
def sameBF : List AV → Option (AVal × Prop)
  | [.s (.d (.slice z e es)), .s (.d (.slice z2 e2 fs))] => some (.one (dv (.bool (decide (rowsB es = rowsB fs)))), (es = [] ∨ e = 1) ∧ (fs = [] ∨ e2 = 1) ∧ RowsOk es ∧ RowsOk fs ∧ es.length ≤ 1000000000)
  | _ => none
theorem sameBF_ok : ContOk Try.prog 12 (pureK sameBF) := by
  refine pure_ok (nargs := 2) Try.func12 rfl (by kernel_rfl) (Nat.le_of_ble_eq_true (by kernel_rfl)) ?_
  intro args q hq hob
  unfold sameBF at hq
  split at hq
  · rename_i z e es z2 e2 fs
    injection hq with hq
    subst hq
    obtain ⟨h1, h2, h3, h4, hlen⟩ : (es = [] ∨ e = 1) ∧ (fs = [] ∨ e2 = 1) ∧ RowsOk es ∧ RowsOk fs ∧ es.length ≤ 1000000000 := hob
    have la := rowsB_len es
    have lb := rowsB_len fs
    refine ⟨rfl, by simp [AV.ids, Sc.ids], by simp [AVal.ids, AV.ids, Sc.ids], by simp, ?_⟩
    refine AWp.seq ?_
    refine AWp.reg (S1 := ?S1) (ob := ?o1) (S' := ?K1) tab_ok (noKnow _) mixed [0, 1] ?r1 ?h1 ?k1 ?w1
    case r1 => simp only [go_sem, Try.ntmps12, reduceIte, reduceCtorEq, Nat.reduceAdd, Nat.reduceEqDiff, Nat.reduceLT, Nat.reduceLeDiff, Nat.reduceSub, Nat.reduceMul, Nat.reduceBEq, Int.reduceToNat, Int.reduceLE, Int.reduceLT, Int.reducePow]; rfl
    case h1 => first | exact True.intro | omega | (simp only [go_sem, Try.ntmps12, reduceIte, reduceCtorEq, Nat.reduceAdd, Nat.reduceEqDiff, Nat.reduceLT, Nat.reduceLeDiff, Nat.reduceSub, Nat.reduceMul, Nat.reduceBEq, Int.reduceToNat, Int.reduceLE, Int.reduceLT, Int.reducePow]; done) | (simp only [go_sem, Try.ntmps12, reduceIte, reduceCtorEq, Nat.reduceAdd, Nat.reduceEqDiff, Nat.reduceLT, Nat.reduceLeDiff, Nat.reduceSub, Nat.reduceMul, Nat.reduceBEq, Int.reduceToNat, Int.reduceLE, Int.reduceLT, Int.reducePow]; omega)
    case k1 => simp only [go_sem, Try.ntmps12, reduceIte, reduceCtorEq, Nat.reduceAdd, Nat.reduceEqDiff, Nat.reduceLT, Nat.reduceLeDiff, Nat.reduceSub, Nat.reduceMul, Nat.reduceBEq, Int.reduceToNat, Int.reduceLE, Int.reduceLT, Int.reducePow]; rfl
    refine AWp.seq ?_
    refine AWp.seq ?_
    refine AWp.reg (S1 := ?S2) (ob := ?o2) (S' := ?K2) tab_ok (noKnow _) mixed [0, 1, 10] ?r2 ?h2 ?k2 ?w2
    case r2 => simp only [go_sem, Try.ntmps12, reduceIte, reduceCtorEq, Nat.reduceAdd, Nat.reduceEqDiff, Nat.reduceLT, Nat.reduceLeDiff, Nat.reduceSub, Nat.reduceMul, Nat.reduceBEq, Int.reduceToNat, Int.reduceLE, Int.reduceLT, Int.reducePow]; rfl
    case h2 => first | exact True.intro | omega | (simp only [go_sem, Try.ntmps12, reduceIte, reduceCtorEq, Nat.reduceAdd, Nat.reduceEqDiff, Nat.reduceLT, Nat.reduceLeDiff, Nat.reduceSub, Nat.reduceMul, Nat.reduceBEq, Int.reduceToNat, Int.reduceLE, Int.reduceLT, Int.reducePow]; done) | (simp only [go_sem, Try.ntmps12, reduceIte, reduceCtorEq, Nat.reduceAdd, Nat.reduceEqDiff, Nat.reduceLT, Nat.reduceLeDiff, Nat.reduceSub, Nat.reduceMul, Nat.reduceBEq, Int.reduceToNat, Int.reduceLE, Int.reduceLT, Int.reducePow]; omega)
    case k2 => simp only [go_sem, Try.ntmps12, reduceIte, reduceCtorEq, Nat.reduceAdd, Nat.reduceEqDiff, Nat.reduceLT, Nat.reduceLeDiff, Nat.reduceSub, Nat.reduceMul, Nat.reduceBEq, Int.reduceToNat, Int.reduceLE, Int.reduceLT, Int.reducePow]; rfl
    refine AWp.cond (b := ?b3) ?c3 ?t3 ?f3
    case c3 => simp only [go_sem, Try.ntmps12, reduceIte, reduceCtorEq, Nat.reduceAdd, Nat.reduceEqDiff, Nat.reduceLT, Nat.reduceLeDiff, Nat.reduceSub, Nat.reduceMul, Nat.reduceBEq, Int.reduceToNat, Int.reduceLE, Int.reduceLT, Int.reducePow]; rfl
    case t3 =>
      intro hb1
      have hl : ¬ es.length = fs.length := by simp at hb1; omega
      refine AWp.seq ?_
      refine AWp.reg (S1 := ?S4) (ob := ?o4) (S' := ?K4) tab_ok (noKnow _) mixed [4] ?r4 ?h4 ?k4 ?w4
      case r4 => simp only [go_sem, Try.ntmps12, reduceIte, reduceCtorEq, Nat.reduceAdd, Nat.reduceEqDiff, Nat.reduceLT, Nat.reduceLeDiff, Nat.reduceSub, Nat.reduceMul, Nat.reduceBEq, Int.reduceToNat, Int.reduceLE, Int.reduceLT, Int.reducePow]; rfl
      case h4 => first | exact True.intro | omega | (simp only [go_sem, Try.ntmps12, reduceIte, reduceCtorEq, Nat.reduceAdd, Nat.reduceEqDiff, Nat.reduceLT, Nat.reduceLeDiff, Nat.reduceSub, Nat.reduceMul, Nat.reduceBEq, Int.reduceToNat, Int.reduceLE, Int.reduceLT, Int.reducePow]; done) | (simp only [go_sem, Try.ntmps12, reduceIte, reduceCtorEq, Nat.reduceAdd, Nat.reduceEqDiff, Nat.reduceLT, Nat.reduceLeDiff, Nat.reduceSub, Nat.reduceMul, Nat.reduceBEq, Int.reduceToNat, Int.reduceLE, Int.reduceLT, Int.reducePow]; omega)
      case k4 => simp only [go_sem, Try.ntmps12, reduceIte, reduceCtorEq, Nat.reduceAdd, Nat.reduceEqDiff, Nat.reduceLT, Nat.reduceLeDiff, Nat.reduceSub, Nat.reduceMul, Nat.reduceBEq, Int.reduceToNat, Int.reduceLE, Int.reduceLT, Int.reducePow]; rfl
      refine AWp.ret ?_
      refine ends_p (vs := ?vs1) (ob := ?ro1) (vs' := ?ws1) (ks := ?ks1) (ob2 := ?rp1) tab_ok (by simp) ?er1 ?eo1 ?ef1 ?eg1 ?en1 ?ek1 ?ev1
      case er1 => simp only [go_sem, Try.ntmps12, reduceIte, reduceCtorEq, Nat.reduceAdd, Nat.reduceEqDiff, Nat.reduceLT, Nat.reduceLeDiff, Nat.reduceSub, Nat.reduceMul, Nat.reduceBEq, Int.reduceToNat, Int.reduceLE, Int.reduceLT, Int.reducePow, Try.results12]; rfl
      case eo1 => first | exact True.intro | simp only [go_sem, Try.ntmps12, reduceIte, reduceCtorEq, Nat.reduceAdd, Nat.reduceEqDiff, Nat.reduceLT, Nat.reduceLeDiff, Nat.reduceSub, Nat.reduceMul, Nat.reduceBEq, Int.reduceToNat, Int.reduceLE, Int.reduceLT, Int.reducePow]
      case ef1 => simp only [go_sem, Try.ntmps12, reduceIte, reduceCtorEq, Nat.reduceAdd, Nat.reduceEqDiff, Nat.reduceLT, Nat.reduceLeDiff, Nat.reduceSub, Nat.reduceMul, Nat.reduceBEq, Int.reduceToNat, Int.reduceLE, Int.reduceLT, Int.reducePow]; rfl
      case eg1 => first | exact True.intro | simp only [go_sem, Try.ntmps12, reduceIte, reduceCtorEq, Nat.reduceAdd, Nat.reduceEqDiff, Nat.reduceLT, Nat.reduceLeDiff, Nat.reduceSub, Nat.reduceMul, Nat.reduceBEq, Int.reduceToNat, Int.reduceLE, Int.reduceLT, Int.reducePow]
      case en1 => simp only [go_sem, Try.ntmps12, reduceIte, reduceCtorEq, Nat.reduceAdd, Nat.reduceEqDiff, Nat.reduceLT, Nat.reduceLeDiff, Nat.reduceSub, Nat.reduceMul, Nat.reduceBEq, Int.reduceToNat, Int.reduceLE, Int.reduceLT, Int.reducePow]
      case ek1 => simp only [go_sem, Try.ntmps12, reduceIte, reduceCtorEq, Nat.reduceAdd, Nat.reduceEqDiff, Nat.reduceLT, Nat.reduceLeDiff, Nat.reduceSub, Nat.reduceMul, Nat.reduceBEq, Int.reduceToNat, Int.reduceLE, Int.reduceLT, Int.reducePow]
      case ev1 =>
        show AVal.one (dv (.bool (decide (rowsB es = rowsB fs)))) = .one (dv (.bool false))
        rw [decide_eq_false (fun h => hl (by rw [← la, ← lb, h]))]
    case f3 =>
      intro hb1
      have hl : es.length = fs.length := by simp at hb1; omega
      refine AWp.skip ?_
      refine AWp.seq ?_
      refine AWp.seq ?_
      refine AWp.reg (S1 := ?S5) (ob := ?o5) (S' := ?K5) tab_ok (noKnow _) mixed [0, 1, 5] ?r5 ?h5 ?k5 ?w5
      case r5 => simp only [go_sem, Try.ntmps12, reduceIte, reduceCtorEq, Nat.reduceAdd, Nat.reduceEqDiff, Nat.reduceLT, Nat.reduceLeDiff, Nat.reduceSub, Nat.reduceMul, Nat.reduceBEq, Int.reduceToNat, Int.reduceLE, Int.reduceLT, Int.reducePow]; rfl
      case h5 => first | exact True.intro | omega | (simp only [go_sem, Try.ntmps12, reduceIte, reduceCtorEq, Nat.reduceAdd, Nat.reduceEqDiff, Nat.reduceLT, Nat.reduceLeDiff, Nat.reduceSub, Nat.reduceMul, Nat.reduceBEq, Int.reduceToNat, Int.reduceLE, Int.reduceLT, Int.reducePow]; done) | (simp only [go_sem, Try.ntmps12, reduceIte, reduceCtorEq, Nat.reduceAdd, Nat.reduceEqDiff, Nat.reduceLT, Nat.reduceLeDiff, Nat.reduceSub, Nat.reduceMul, Nat.reduceBEq, Int.reduceToNat, Int.reduceLE, Int.reduceLT, Int.reducePow]; omega)
      case k5 => simp only [go_sem, Try.ntmps12, reduceIte, reduceCtorEq, Nat.reduceAdd, Nat.reduceEqDiff, Nat.reduceLT, Nat.reduceLeDiff, Nat.reduceSub, Nat.reduceMul, Nat.reduceBEq, Int.reduceToNat, Int.reduceLE, Int.reduceLT, Int.reducePow]; rfl
      refine AWp.block ?_
      refine AWp.loop (fun k S => ∃ i : Nat, i ≤ es.length ∧ k = es.length - i ∧ (rowsB es).take i = (rowsB fs).take i ∧ S = ⟨[(0, .one (.s (.d (.slice z e es)))), (1, .one (.s (.d (.slice z2 e2 fs)))), (5, .one (dv (.int .i64 (i : Int))))], [], 0⟩) es.length ?i1 ?n1
      case i1 =>
        exact ⟨0, by omega, rfl, by simp, rfl⟩
      case n1 =>
        rintro k S ⟨i, hi0, rfl, ht, rfl⟩
        refine AWp.seq ?_
        refine AWp.seq ?_
        refine AWp.reg (S1 := ?S6) (ob := ?o6) (S' := ?K6) tab_ok (noKnow _) mixed [0, 1, 5, 14] ?r6 ?h6 ?k6 ?w6
        case r6 => simp only [go_sem, Try.ntmps12, reduceIte, reduceCtorEq, Nat.reduceAdd, Nat.reduceEqDiff, Nat.reduceLT, Nat.reduceLeDiff, Nat.reduceSub, Nat.reduceMul, Nat.reduceBEq, Int.reduceToNat, Int.reduceLE, Int.reduceLT, Int.reducePow]; rfl
        case h6 => first | exact True.intro | omega | (simp only [go_sem, Try.ntmps12, reduceIte, reduceCtorEq, Nat.reduceAdd, Nat.reduceEqDiff, Nat.reduceLT, Nat.reduceLeDiff, Nat.reduceSub, Nat.reduceMul, Nat.reduceBEq, Int.reduceToNat, Int.reduceLE, Int.reduceLT, Int.reducePow]; done) | (simp only [go_sem, Try.ntmps12, reduceIte, reduceCtorEq, Nat.reduceAdd, Nat.reduceEqDiff, Nat.reduceLT, Nat.reduceLeDiff, Nat.reduceSub, Nat.reduceMul, Nat.reduceBEq, Int.reduceToNat, Int.reduceLE, Int.reduceLT, Int.reducePow]; omega)
        case k6 => simp only [go_sem, Try.ntmps12, reduceIte, reduceCtorEq, Nat.reduceAdd, Nat.reduceEqDiff, Nat.reduceLT, Nat.reduceLeDiff, Nat.reduceSub, Nat.reduceMul, Nat.reduceBEq, Int.reduceToNat, Int.reduceLE, Int.reduceLT, Int.reducePow]; rfl
        refine AWp.cond (b := ?b7) ?c7 ?t7 ?f7
        case c7 => simp only [go_sem, Try.ntmps12, reduceIte, reduceCtorEq, Nat.reduceAdd, Nat.reduceEqDiff, Nat.reduceLT, Nat.reduceLeDiff, Nat.reduceSub, Nat.reduceMul, Nat.reduceBEq, Int.reduceToNat, Int.reduceLE, Int.reduceLT, Int.reducePow]; rfl
        case t7 =>
          intro hb2
          have hi : i < es.length := by simp at hb2; omega
          obtain rfl : e = 1 := h1.resolve_left (by rintro rfl; simp at hi)
          obtain rfl : e2 = 1 := h2.resolve_left (by rintro rfl; simp at hl; simp [hl] at hi)
          have hrow1 := h3.get hi [.slice (some true) 1 []]
          have hrow2 := h4.get (i := i) (by omega) [.slice (some true) 1 []]
          refine AWp.skip ?_
          refine AWp.seq ?_
          refine AWp.block ?_
          refine AWp.seq ?_
          refine AWp.drw (S1 := ?S8) (ob := ?o8) (lts := ?t8) (S' := ?K8) tab_ok (noKnow _) mixed [0, 1, 5, 27] ?r8 ?d8 ?h8 ?k8 ?w8
          case r8 => simp only [go_sem, Try.ntmps12, reduceIte, reduceCtorEq, Nat.reduceAdd, Nat.reduceEqDiff, Nat.reduceLT, Nat.reduceLeDiff, Nat.reduceSub, Nat.reduceMul, Nat.reduceBEq, Int.reduceToNat, Int.reduceLE, Int.reduceLT, Int.reducePow, hrow1, hrow2]; rfl
          case d8 => first | kernel_rfl | rfl
          case h8 => first | exact True.intro | omega | (simp only [go_sem, Try.ntmps12, reduceIte, reduceCtorEq, Nat.reduceAdd, Nat.reduceEqDiff, Nat.reduceLT, Nat.reduceLeDiff, Nat.reduceSub, Nat.reduceMul, Nat.reduceBEq, Int.reduceToNat, Int.reduceLE, Int.reduceLT, Int.reducePow]; done) | (simp only [go_sem, Try.ntmps12, reduceIte, reduceCtorEq, Nat.reduceAdd, Nat.reduceEqDiff, Nat.reduceLT, Nat.reduceLeDiff, Nat.reduceSub, Nat.reduceMul, Nat.reduceBEq, Int.reduceToNat, Int.reduceLE, Int.reduceLT, Int.reducePow]; omega)
          case k8 => simp only [go_sem, Try.ntmps12, reduceIte, reduceCtorEq, Nat.reduceAdd, Nat.reduceEqDiff, Nat.reduceLT, Nat.reduceLeDiff, Nat.reduceSub, Nat.reduceMul, Nat.reduceBEq, Int.reduceToNat, Int.reduceLE, Int.reduceLT, Int.reducePow]; rfl
          refine AWp.cond (b := ?b9) ?c9 ?t9 ?f9
          case c9 => simp only [go_sem, Try.ntmps12, reduceIte, reduceCtorEq, Nat.reduceAdd, Nat.reduceEqDiff, Nat.reduceLT, Nat.reduceLeDiff, Nat.reduceSub, Nat.reduceMul, Nat.reduceBEq, Int.reduceToNat, Int.reduceLE, Int.reduceLT, Int.reducePow]; rfl
          case t9 =>
            intro hb3
            refine AWp.seq ?_
            refine AWp.reg (S1 := ?S10) (ob := ?o10) (S' := ?K10) tab_ok (noKnow _) mixed [4] ?r10 ?h10 ?k10 ?w10
            case r10 => simp only [go_sem, Try.ntmps12, reduceIte, reduceCtorEq, Nat.reduceAdd, Nat.reduceEqDiff, Nat.reduceLT, Nat.reduceLeDiff, Nat.reduceSub, Nat.reduceMul, Nat.reduceBEq, Int.reduceToNat, Int.reduceLE, Int.reduceLT, Int.reducePow]; rfl
            case h10 => first | exact True.intro | omega | (simp only [go_sem, Try.ntmps12, reduceIte, reduceCtorEq, Nat.reduceAdd, Nat.reduceEqDiff, Nat.reduceLT, Nat.reduceLeDiff, Nat.reduceSub, Nat.reduceMul, Nat.reduceBEq, Int.reduceToNat, Int.reduceLE, Int.reduceLT, Int.reducePow]; done) | (simp only [go_sem, Try.ntmps12, reduceIte, reduceCtorEq, Nat.reduceAdd, Nat.reduceEqDiff, Nat.reduceLT, Nat.reduceLeDiff, Nat.reduceSub, Nat.reduceMul, Nat.reduceBEq, Int.reduceToNat, Int.reduceLE, Int.reduceLT, Int.reducePow]; omega)
            case k10 => simp only [go_sem, Try.ntmps12, reduceIte, reduceCtorEq, Nat.reduceAdd, Nat.reduceEqDiff, Nat.reduceLT, Nat.reduceLeDiff, Nat.reduceSub, Nat.reduceMul, Nat.reduceBEq, Int.reduceToNat, Int.reduceLE, Int.reduceLT, Int.reducePow]; rfl
            refine AWp.ret ?_
            refine ends_p (vs := ?vs2) (ob := ?ro2) (vs' := ?ws2) (ks := ?ks2) (ob2 := ?rp2) tab_ok (by simp) ?er2 ?eo2 ?ef2 ?eg2 ?en2 ?ek2 ?ev2
            case er2 => simp only [go_sem, Try.ntmps12, reduceIte, reduceCtorEq, Nat.reduceAdd, Nat.reduceEqDiff, Nat.reduceLT, Nat.reduceLeDiff, Nat.reduceSub, Nat.reduceMul, Nat.reduceBEq, Int.reduceToNat, Int.reduceLE, Int.reduceLT, Int.reducePow, Try.results12]; rfl
            case eo2 => first | exact True.intro | simp only [go_sem, Try.ntmps12, reduceIte, reduceCtorEq, Nat.reduceAdd, Nat.reduceEqDiff, Nat.reduceLT, Nat.reduceLeDiff, Nat.reduceSub, Nat.reduceMul, Nat.reduceBEq, Int.reduceToNat, Int.reduceLE, Int.reduceLT, Int.reducePow]
            case ef2 => simp only [go_sem, Try.ntmps12, reduceIte, reduceCtorEq, Nat.reduceAdd, Nat.reduceEqDiff, Nat.reduceLT, Nat.reduceLeDiff, Nat.reduceSub, Nat.reduceMul, Nat.reduceBEq, Int.reduceToNat, Int.reduceLE, Int.reduceLT, Int.reducePow]; rfl
            case eg2 => first | exact True.intro | simp only [go_sem, Try.ntmps12, reduceIte, reduceCtorEq, Nat.reduceAdd, Nat.reduceEqDiff, Nat.reduceLT, Nat.reduceLeDiff, Nat.reduceSub, Nat.reduceMul, Nat.reduceBEq, Int.reduceToNat, Int.reduceLE, Int.reduceLT, Int.reducePow]
            case en2 => simp only [go_sem, Try.ntmps12, reduceIte, reduceCtorEq, Nat.reduceAdd, Nat.reduceEqDiff, Nat.reduceLT, Nat.reduceLeDiff, Nat.reduceSub, Nat.reduceMul, Nat.reduceBEq, Int.reduceToNat, Int.reduceLE, Int.reduceLT, Int.reducePow]
            case ek2 => simp only [go_sem, Try.ntmps12, reduceIte, reduceCtorEq, Nat.reduceAdd, Nat.reduceEqDiff, Nat.reduceLT, Nat.reduceLeDiff, Nat.reduceSub, Nat.reduceMul, Nat.reduceBEq, Int.reduceToNat, Int.reduceLE, Int.reduceLT, Int.reducePow]
            case ev2 =>
              show AVal.one (dv (.bool (decide (rowsB es = rowsB fs)))) = .one (dv (.bool false))
              have he : ¬ rowsB es = rowsB fs := fun h => by rw [h] at hb3; simp at hb3
              rw [decide_eq_false he]
          case f9 =>
            intro hb3
            refine AWp.skip ?_
            refine AWp.reg (S1 := ?S11) (ob := ?o11) (S' := ?K11) tab_ok (noKnow _) mixed [0, 1, 5] ?r11 ?h11 ?k11 ?w11
            case r11 => simp only [go_sem, Try.ntmps12, reduceIte, reduceCtorEq, Nat.reduceAdd, Nat.reduceEqDiff, Nat.reduceLT, Nat.reduceLeDiff, Nat.reduceSub, Nat.reduceMul, Nat.reduceBEq, Int.reduceToNat, Int.reduceLE, Int.reduceLT, Int.reducePow]; rfl
            case h11 => first | exact True.intro | omega | (simp only [go_sem, Try.ntmps12, reduceIte, reduceCtorEq, Nat.reduceAdd, Nat.reduceEqDiff, Nat.reduceLT, Nat.reduceLeDiff, Nat.reduceSub, Nat.reduceMul, Nat.reduceBEq, Int.reduceToNat, Int.reduceLE, Int.reduceLT, Int.reducePow]; done) | (simp only [go_sem, Try.ntmps12, reduceIte, reduceCtorEq, Nat.reduceAdd, Nat.reduceEqDiff, Nat.reduceLT, Nat.reduceLeDiff, Nat.reduceSub, Nat.reduceMul, Nat.reduceBEq, Int.reduceToNat, Int.reduceLE, Int.reduceLT, Int.reducePow]; omega)
            case k11 => simp only [go_sem, Try.ntmps12, reduceIte, reduceCtorEq, Nat.reduceAdd, Nat.reduceEqDiff, Nat.reduceLT, Nat.reduceLeDiff, Nat.reduceSub, Nat.reduceMul, Nat.reduceBEq, Int.reduceToNat, Int.reduceLE, Int.reduceLT, Int.reducePow]; rfl
            exact ⟨es.length - (i + 1), _, by omega, Conv.keep [0, 1, 5] [] (by simp), i + 1, by omega, rfl, by rw [take_one (i := i) (by omega) [], take_one (i := i) (by omega) [], ht]; simpa using hb3, rfl⟩
        case f7 =>
          intro hb2
          have hi : ¬ i < es.length := by simp at hb2; omega
          refine AWp.exit ?_
          refine thenA_exit ?_
          refine thenA_exit ?_
          refine inB_eq ?_
          refine AWp.seq ?_
          refine AWp.reg (S1 := ?S12) (ob := ?o12) (S' := ?K12) tab_ok (noKnow _) mixed [4] ?r12 ?h12 ?k12 ?w12
          case r12 => simp only [go_sem, Try.ntmps12, reduceIte, reduceCtorEq, Nat.reduceAdd, Nat.reduceEqDiff, Nat.reduceLT, Nat.reduceLeDiff, Nat.reduceSub, Nat.reduceMul, Nat.reduceBEq, Int.reduceToNat, Int.reduceLE, Int.reduceLT, Int.reducePow]; rfl
          case h12 => first | exact True.intro | omega | (simp only [go_sem, Try.ntmps12, reduceIte, reduceCtorEq, Nat.reduceAdd, Nat.reduceEqDiff, Nat.reduceLT, Nat.reduceLeDiff, Nat.reduceSub, Nat.reduceMul, Nat.reduceBEq, Int.reduceToNat, Int.reduceLE, Int.reduceLT, Int.reducePow]; done) | (simp only [go_sem, Try.ntmps12, reduceIte, reduceCtorEq, Nat.reduceAdd, Nat.reduceEqDiff, Nat.reduceLT, Nat.reduceLeDiff, Nat.reduceSub, Nat.reduceMul, Nat.reduceBEq, Int.reduceToNat, Int.reduceLE, Int.reduceLT, Int.reducePow]; omega)
          case k12 => simp only [go_sem, Try.ntmps12, reduceIte, reduceCtorEq, Nat.reduceAdd, Nat.reduceEqDiff, Nat.reduceLT, Nat.reduceLeDiff, Nat.reduceSub, Nat.reduceMul, Nat.reduceBEq, Int.reduceToNat, Int.reduceLE, Int.reduceLT, Int.reducePow]; rfl
          refine AWp.ret ?_
          refine ends_p (vs := ?vs3) (ob := ?ro3) (vs' := ?ws3) (ks := ?ks3) (ob2 := ?rp3) tab_ok (by simp) ?er3 ?eo3 ?ef3 ?eg3 ?en3 ?ek3 ?ev3
          case er3 => simp only [go_sem, Try.ntmps12, reduceIte, reduceCtorEq, Nat.reduceAdd, Nat.reduceEqDiff, Nat.reduceLT, Nat.reduceLeDiff, Nat.reduceSub, Nat.reduceMul, Nat.reduceBEq, Int.reduceToNat, Int.reduceLE, Int.reduceLT, Int.reducePow, Try.results12]; rfl
          case eo3 => first | exact True.intro | simp only [go_sem, Try.ntmps12, reduceIte, reduceCtorEq, Nat.reduceAdd, Nat.reduceEqDiff, Nat.reduceLT, Nat.reduceLeDiff, Nat.reduceSub, Nat.reduceMul, Nat.reduceBEq, Int.reduceToNat, Int.reduceLE, Int.reduceLT, Int.reducePow]
          case ef3 => simp only [go_sem, Try.ntmps12, reduceIte, reduceCtorEq, Nat.reduceAdd, Nat.reduceEqDiff, Nat.reduceLT, Nat.reduceLeDiff, Nat.reduceSub, Nat.reduceMul, Nat.reduceBEq, Int.reduceToNat, Int.reduceLE, Int.reduceLT, Int.reducePow]; rfl
          case eg3 => first | exact True.intro | simp only [go_sem, Try.ntmps12, reduceIte, reduceCtorEq, Nat.reduceAdd, Nat.reduceEqDiff, Nat.reduceLT, Nat.reduceLeDiff, Nat.reduceSub, Nat.reduceMul, Nat.reduceBEq, Int.reduceToNat, Int.reduceLE, Int.reduceLT, Int.reducePow]
          case en3 => simp only [go_sem, Try.ntmps12, reduceIte, reduceCtorEq, Nat.reduceAdd, Nat.reduceEqDiff, Nat.reduceLT, Nat.reduceLeDiff, Nat.reduceSub, Nat.reduceMul, Nat.reduceBEq, Int.reduceToNat, Int.reduceLE, Int.reduceLT, Int.reducePow]
          case ek3 => simp only [go_sem, Try.ntmps12, reduceIte, reduceCtorEq, Nat.reduceAdd, Nat.reduceEqDiff, Nat.reduceLT, Nat.reduceLeDiff, Nat.reduceSub, Nat.reduceMul, Nat.reduceBEq, Int.reduceToNat, Int.reduceLE, Int.reduceLT, Int.reducePow]
          case ev3 =>
            show AVal.one (dv (.bool (decide (rowsB es = rowsB fs)))) = .one (dv (.bool true))
            have he : rowsB es = rowsB fs := by rw [← List.take_of_length_le (i := i) (l := rowsB es) (by omega), ht, List.take_of_length_le (by omega)]
            rw [decide_eq_true he]
  · cases hq

end Go.Proofs.Hg

set_option linter.unusedSimpArgs false
set_option linter.unusedVariables false
set_option maxHeartbeats 4000000
namespace Go.Proofs.Hg
open Go.RowKit
set_option maxRecDepth 100000
theorem encV_live : encV 5 (unf [[.str [102], .int .i64 2, .str [104, 105]]]) = .tup [dv (.slice none 1 [[.slice none 1 (brow [5, 0, 0, 0, 0, 0, 0, 0, 0, 0, 1, 0, 1, 102, 2, 0, 0, 0, 0, 0, 0, 0, 2, 0, 0, 0, 104, 105])]]), dv (.int .i64 0)] := by kernel_rfl
theorem unf_live : (([[.str [102], .int .i64 2, .str [104, 105]]] : List (List D)) = fdrow (unf [[.str [102], .int .i64 2, .str [104, 105]]])) = True := eq_true rfl
def aliveF : List AV → Option (AVal × Prop)
  | [] => some (.one (dv (.bool true)), True)
  | _ => none
def kn9 : List (Nat × Cont) := [(10, viewK encF)]
theorem kn9_ok : ∀ p ∈ kn9, ContOk Try.prog p.1 p.2 := by
  intro p hp
  simp only [kn9, List.mem_cons, List.not_mem_nil, or_false] at hp
  rcases hp with rfl
  · exact viewK_ok encF_ok
theorem aliveF_ok : ContOk Try.prog 9 (pureK aliveF) := by
  refine pure_ok (nargs := 0) Try.func9 rfl (by kernel_rfl) (Nat.le_of_ble_eq_true (by kernel_rfl)) ?_
  intro args q hq hob
  unfold aliveF at hq
  split at hq
  · skip
    injection hq with hq
    subst hq
    refine ⟨rfl, by simp [AV.ids, Sc.ids], by simp [AVal.ids, AV.ids, Sc.ids], by simp, ?_⟩
    show AWp Try.prog Try.f9.ntmps 0 _ _ _
    refine AWp.seq ?_
    refine AWp.reg (S1 := ?S1) (ob := ?o1) (S' := ?K1) tab_ok (knowL_ok kn9_ok) mixed [] ?r1 ?h1 ?k1 ?w1
    case r1 => simp only [go_sem, kn9, encF, encV_live, unf_live, Try.ntmps9, reduceIte, reduceCtorEq, Nat.reduceAdd, Nat.reduceEqDiff, Nat.reduceLT, Nat.reduceLeDiff, Nat.reduceSub, Nat.reduceMul, Nat.reduceBEq, Int.reduceToNat, Int.reduceLE, Int.reduceLT, Int.reducePow]; rfl
    case h1 => first | exact True.intro | omega | (simp only [go_sem, kn9, encF, encV_live, unf_live, Try.ntmps9, reduceIte, reduceCtorEq, Nat.reduceAdd, Nat.reduceEqDiff, Nat.reduceLT, Nat.reduceLeDiff, Nat.reduceSub, Nat.reduceMul, Nat.reduceBEq, Int.reduceToNat, Int.reduceLE, Int.reduceLT, Int.reducePow]; done) | (simp only [go_sem, kn9, encF, encV_live, unf_live, Try.ntmps9, reduceIte, reduceCtorEq, Nat.reduceAdd, Nat.reduceEqDiff, Nat.reduceLT, Nat.reduceLeDiff, Nat.reduceSub, Nat.reduceMul, Nat.reduceBEq, Int.reduceToNat, Int.reduceLE, Int.reduceLT, Int.reducePow]; omega)
    case k1 => simp only [go_sem, kn9, encF, encV_live, unf_live, Try.ntmps9, reduceIte, reduceCtorEq, Nat.reduceAdd, Nat.reduceEqDiff, Nat.reduceLT, Nat.reduceLeDiff, Nat.reduceSub, Nat.reduceMul, Nat.reduceBEq, Int.reduceToNat, Int.reduceLE, Int.reduceLT, Int.reducePow]; rfl
    refine AWp.seq ?_
    refine AWp.reg (S1 := ?S2) (ob := ?o2) (S' := ?K2) tab_ok (knowL_ok kn9_ok) mixed [1, 2] ?r2 ?h2 ?k2 ?w2
    case r2 => simp only [go_sem, kn9, encF, encV_live, unf_live, Try.ntmps9, reduceIte, reduceCtorEq, Nat.reduceAdd, Nat.reduceEqDiff, Nat.reduceLT, Nat.reduceLeDiff, Nat.reduceSub, Nat.reduceMul, Nat.reduceBEq, Int.reduceToNat, Int.reduceLE, Int.reduceLT, Int.reducePow]; rfl
    case h2 =>
      simp [FilesOk, unf, unf1]
    case k2 => simp only [go_sem, kn9, encF, encV_live, unf_live, Try.ntmps9, reduceIte, reduceCtorEq, Nat.reduceAdd, Nat.reduceEqDiff, Nat.reduceLT, Nat.reduceLeDiff, Nat.reduceSub, Nat.reduceMul, Nat.reduceBEq, Int.reduceToNat, Int.reduceLE, Int.reduceLT, Int.reducePow]; rfl
    refine AWp.seq ?_
    refine AWp.reg (S1 := ?S3) (ob := ?o3) (S' := ?K3) tab_ok (knowL_ok kn9_ok) mixed [0] ?r3 ?h3 ?k3 ?w3
    case r3 => simp only [go_sem, kn9, encF, encV_live, unf_live, Try.ntmps9, reduceIte, reduceCtorEq, Nat.reduceAdd, Nat.reduceEqDiff, Nat.reduceLT, Nat.reduceLeDiff, Nat.reduceSub, Nat.reduceMul, Nat.reduceBEq, Int.reduceToNat, Int.reduceLE, Int.reduceLT, Int.reducePow]; rfl
    case h3 => first | exact True.intro | omega | (simp only [go_sem, kn9, encF, encV_live, unf_live, Try.ntmps9, reduceIte, reduceCtorEq, Nat.reduceAdd, Nat.reduceEqDiff, Nat.reduceLT, Nat.reduceLeDiff, Nat.reduceSub, Nat.reduceMul, Nat.reduceBEq, Int.reduceToNat, Int.reduceLE, Int.reduceLT, Int.reducePow]; done) | (simp only [go_sem, kn9, encF, encV_live, unf_live, Try.ntmps9, reduceIte, reduceCtorEq, Nat.reduceAdd, Nat.reduceEqDiff, Nat.reduceLT, Nat.reduceLeDiff, Nat.reduceSub, Nat.reduceMul, Nat.reduceBEq, Int.reduceToNat, Int.reduceLE, Int.reduceLT, Int.reducePow]; omega)
    case k3 => simp only [go_sem, kn9, encF, encV_live, unf_live, Try.ntmps9, reduceIte, reduceCtorEq, Nat.reduceAdd, Nat.reduceEqDiff, Nat.reduceLT, Nat.reduceLeDiff, Nat.reduceSub, Nat.reduceMul, Nat.reduceBEq, Int.reduceToNat, Int.reduceLE, Int.reduceLT, Int.reducePow]; rfl
    refine AWp.ret ?_
    refine ends_p (vs := ?vs1) (ob := ?ro1) (vs' := ?ws1) (ks := ?ks1) (ob2 := ?rp1) tab_ok (by simp) ?er1 ?eo1 ?ef1 ?eg1 ?en1 ?ek1 ?ev1
    case er1 => simp only [go_sem, kn9, encF, encV_live, unf_live, Try.ntmps9, reduceIte, reduceCtorEq, Nat.reduceAdd, Nat.reduceEqDiff, Nat.reduceLT, Nat.reduceLeDiff, Nat.reduceSub, Nat.reduceMul, Nat.reduceBEq, Int.reduceToNat, Int.reduceLE, Int.reduceLT, Int.reducePow, Try.results9]; rfl
    case eo1 => first | exact True.intro | simp only [go_sem, kn9, encF, encV_live, unf_live, Try.ntmps9, reduceIte, reduceCtorEq, Nat.reduceAdd, Nat.reduceEqDiff, Nat.reduceLT, Nat.reduceLeDiff, Nat.reduceSub, Nat.reduceMul, Nat.reduceBEq, Int.reduceToNat, Int.reduceLE, Int.reduceLT, Int.reducePow]
    case ef1 => simp only [go_sem, kn9, encF, encV_live, unf_live, Try.ntmps9, reduceIte, reduceCtorEq, Nat.reduceAdd, Nat.reduceEqDiff, Nat.reduceLT, Nat.reduceLeDiff, Nat.reduceSub, Nat.reduceMul, Nat.reduceBEq, Int.reduceToNat, Int.reduceLE, Int.reduceLT, Int.reducePow]; rfl
    case eg1 => first | exact True.intro | simp only [go_sem, kn9, encF, encV_live, unf_live, Try.ntmps9, reduceIte, reduceCtorEq, Nat.reduceAdd, Nat.reduceEqDiff, Nat.reduceLT, Nat.reduceLeDiff, Nat.reduceSub, Nat.reduceMul, Nat.reduceBEq, Int.reduceToNat, Int.reduceLE, Int.reduceLT, Int.reducePow]
    case en1 => simp only [go_sem, kn9, encF, encV_live, unf_live, Try.ntmps9, reduceIte, reduceCtorEq, Nat.reduceAdd, Nat.reduceEqDiff, Nat.reduceLT, Nat.reduceLeDiff, Nat.reduceSub, Nat.reduceMul, Nat.reduceBEq, Int.reduceToNat, Int.reduceLE, Int.reduceLT, Int.reducePow]
    case ek1 => simp only [go_sem, kn9, encF, encV_live, unf_live, Try.ntmps9, reduceIte, reduceCtorEq, Nat.reduceAdd, Nat.reduceEqDiff, Nat.reduceLT, Nat.reduceLeDiff, Nat.reduceSub, Nat.reduceMul, Nat.reduceBEq, Int.reduceToNat, Int.reduceLE, Int.reduceLT, Int.reducePow]
    case ev1 =>
      rfl
  · cases hq

end Go.Proofs.Hg

set_option linter.unusedSimpArgs false
set_option linter.unusedVariables false
set_option maxHeartbeats 4000000
namespace Go.Proofs.Hg
open Go.RowKit
set_option maxRecDepth 100000
abbrev BigL := List UInt8 × Int × List UInt8 × Int
def bigD (b : BigL) : List D := [.str b.1, .int .i64 b.2.1, .str b.2.2.1, .int .i64 b.2.2.2]
def bgrow (l : List BigL) : List (List D) := l.map bigD
def unbg1 : List D → BigL
  | [.str p, .int _ v, .str s, .int _ t] => (p, v, s, t)
  | _ => ([], 0, [], 0)
def unbg (es : List (List D)) : List BigL := es.map unbg1
@[simp] theorem unbg_bgrow (l : List BigL) : unbg (bgrow l) = l := by
  simp only [unbg, bgrow, List.map_map]
  conv => rhs; rw [← List.map_id l]
  exact List.map_congr_left fun _ _ => rfl
theorem bgrow_len (l : List BigL) : (bgrow l).length = l.length := by simp [bgrow]
def b0L : BigL := ([], 0, [], 0)
theorem bgrow_get (l : List BigL) (i : Nat) : (bgrow l).getD i [.str [], .int .i64 0, .str [], .int .i64 0] = bigD (l.getD i b0L) := by
  simp only [bgrow, List.getD_eq_getElem?_getD, List.getElem?_map]
  cases l[i]? <;> rfl
def grow (s : List UInt8) : Nat → List UInt8 → List UInt8
  | 0, t => t
  | n + 1, t => if t.length < 20000 then grow s n (t ++ s) else t
theorem grow_stop {s t : List UInt8} (h : ¬ t.length < 20000) : ∀ n, grow s n t = t
  | 0 => rfl
  | n + 1 => by unfold grow; rw [if_neg h]
theorem grow_step {s t : List UInt8} {T : Int} {j : Nat} (h : t.length < 20000) (hj : (j : Int) < T) : grow s (T.toNat - j) t = grow s (T.toNat - (j + 1)) (t ++ s) := by
  have e : T.toNat - j = (T.toNat - (j + 1)) + 1 := by omega
  rw [e]
  show (if t.length < 20000 then _ else _) = _
  rw [if_pos h]
theorem grow_len (s : List UInt8) (hs : s.length ≤ 60) : ∀ (n : Nat) (t : List UInt8), t.length ≤ 20060 → (grow s n t).length ≤ 20060
  | 0, t, h => h
  | n + 1, t, h => by
    unfold grow
    split
    · exact grow_len s hs n _ (by rw [List.length_append]; omega)
    · exact h
def bigF (b : BigL) : FileL := (b.1, b.2.1, grow b.2.2.1 b.2.2.2.toNat [])
def bigs (l : List BigL) : List FileL := l.map bigF
def badB (l : List BigL) (i : Nat) : Bool := decide ((i : Int) = 8) || decide (60 < ((l.getD i b0L).2.2.1.length : Int)) || decide (100 < ((l.getD i b0L).1.length : Int)) || decide ((l.getD i b0L).2.2.2 < 0) || decide (2000 < (l.getD i b0L).2.2.2)
def bigOk (l : List BigL) : Bool := (List.range l.length).all fun i => !badB l i
def bigV (l : List BigL) : AVal := if bigOk l then .tup [dv (.slice none 3 (fdrow (bigs l))), dv (.bool true)] else .tup [dv (.slice (some true) 0 []), dv (.bool false)]
theorem bigV_ids (l : List BigL) : (bigV l).ids = [] ∧ ∀ b x, bigV l ≠ .opt b x := by
  unfold bigV
  split <;> simp [AVal.ids, AV.ids, Sc.ids]
theorem bigs_len (l : List BigL) : (bigs l).length = l.length := by simp [bigs]
theorem bigs_succ {l : List BigL} {i : Nat} (h : i < l.length) : bigs (l.take (i + 1)) = bigs (l.take i) ++ [bigF (l.getD i b0L)] := by
  rw [take_one (by omega) b0L, bigs, List.map_append]; rfl
theorem good_le {l : List BigL} {i : Nat} (h : (List.range i).all (fun j => !badB l j) = true) : i ≤ 8 := by
  by_cases h8 : i ≤ 8
  · exact h8
  · have := List.all_eq_true.1 h 8 (by simp; omega)
    simp [badB] at this
def filesF : List AV → Option (AVal × Prop)
  | [.s (.d (.slice z e es))] => some (bigV (unbg es), e = 4 ∧ es = bgrow (unbg es))
  | _ => none
theorem filesF_ok : ContOk Try.prog 8 (pureK filesF) := by
  refine pure_ok (nargs := 1) Try.func8 rfl (by kernel_rfl) (Nat.le_of_ble_eq_true (by kernel_rfl)) ?_
  intro args q hq hob
  unfold filesF at hq
  split at hq
  · rename_i z e es
    injection hq with hq
    subst hq
    obtain ⟨h1, h2⟩ : e = 4 ∧ es = bgrow (unbg es) := hob
    generalize unbg es = bl at *
    subst h1 h2
    refine ⟨rfl, by simp [AV.ids, Sc.ids], (bigV_ids _).1, (bigV_ids _).2, ?_⟩
    refine AWp.seq ?_
    refine AWp.reg (S1 := ?S1) (ob := ?o1) (S' := ?K1) tab_ok (noKnow _) mixed [0] ?r1 ?h1 ?k1 ?w1
    case r1 => simp only [go_sem, bgrow_get, bgrow_len, bigD, Try.ntmps8, reduceIte, reduceCtorEq, Nat.reduceAdd, Nat.reduceEqDiff, Nat.reduceLT, Nat.reduceLeDiff, Nat.reduceSub, Nat.reduceMul, Nat.reduceBEq, Int.reduceToNat, Int.reduceLE, Int.reduceLT, Int.reducePow]; rfl
    case h1 => first | exact True.intro | omega | (simp only [go_sem, bgrow_get, bgrow_len, bigD, Try.ntmps8, reduceIte, reduceCtorEq, Nat.reduceAdd, Nat.reduceEqDiff, Nat.reduceLT, Nat.reduceLeDiff, Nat.reduceSub, Nat.reduceMul, Nat.reduceBEq, Int.reduceToNat, Int.reduceLE, Int.reduceLT, Int.reducePow]; done) | (simp only [go_sem, bgrow_get, bgrow_len, bigD, Try.ntmps8, reduceIte, reduceCtorEq, Nat.reduceAdd, Nat.reduceEqDiff, Nat.reduceLT, Nat.reduceLeDiff, Nat.reduceSub, Nat.reduceMul, Nat.reduceBEq, Int.reduceToNat, Int.reduceLE, Int.reduceLT, Int.reducePow]; omega)
    case k1 => simp only [go_sem, bgrow_get, bgrow_len, bigD, Try.ntmps8, reduceIte, reduceCtorEq, Nat.reduceAdd, Nat.reduceEqDiff, Nat.reduceLT, Nat.reduceLeDiff, Nat.reduceSub, Nat.reduceMul, Nat.reduceBEq, Int.reduceToNat, Int.reduceLE, Int.reduceLT, Int.reducePow]; rfl
    refine AWp.seq ?_
    refine AWp.reg (S1 := ?S2) (ob := ?o2) (S' := ?K2) tab_ok (noKnow _) mixed [0, 4] ?r2 ?h2 ?k2 ?w2
    case r2 => simp only [go_sem, bgrow_get, bgrow_len, bigD, Try.ntmps8, reduceIte, reduceCtorEq, Nat.reduceAdd, Nat.reduceEqDiff, Nat.reduceLT, Nat.reduceLeDiff, Nat.reduceSub, Nat.reduceMul, Nat.reduceBEq, Int.reduceToNat, Int.reduceLE, Int.reduceLT, Int.reducePow]; rfl
    case h2 => first | exact True.intro | omega | (simp only [go_sem, bgrow_get, bgrow_len, bigD, Try.ntmps8, reduceIte, reduceCtorEq, Nat.reduceAdd, Nat.reduceEqDiff, Nat.reduceLT, Nat.reduceLeDiff, Nat.reduceSub, Nat.reduceMul, Nat.reduceBEq, Int.reduceToNat, Int.reduceLE, Int.reduceLT, Int.reducePow]; done) | (simp only [go_sem, bgrow_get, bgrow_len, bigD, Try.ntmps8, reduceIte, reduceCtorEq, Nat.reduceAdd, Nat.reduceEqDiff, Nat.reduceLT, Nat.reduceLeDiff, Nat.reduceSub, Nat.reduceMul, Nat.reduceBEq, Int.reduceToNat, Int.reduceLE, Int.reduceLT, Int.reducePow]; omega)
    case k2 => simp only [go_sem, bgrow_get, bgrow_len, bigD, Try.ntmps8, reduceIte, reduceCtorEq, Nat.reduceAdd, Nat.reduceEqDiff, Nat.reduceLT, Nat.reduceLeDiff, Nat.reduceSub, Nat.reduceMul, Nat.reduceBEq, Int.reduceToNat, Int.reduceLE, Int.reduceLT, Int.reducePow]; rfl
    refine AWp.seq ?_
    refine AWp.seq ?_
    refine AWp.reg (S1 := ?S3) (ob := ?o3) (S' := ?K3) tab_ok (noKnow _) mixed [0, 4, 5] ?r3 ?h3 ?k3 ?w3
    case r3 => simp only [go_sem, bgrow_get, bgrow_len, bigD, Try.ntmps8, reduceIte, reduceCtorEq, Nat.reduceAdd, Nat.reduceEqDiff, Nat.reduceLT, Nat.reduceLeDiff, Nat.reduceSub, Nat.reduceMul, Nat.reduceBEq, Int.reduceToNat, Int.reduceLE, Int.reduceLT, Int.reducePow]; rfl
    case h3 => first | exact True.intro | omega | (simp only [go_sem, bgrow_get, bgrow_len, bigD, Try.ntmps8, reduceIte, reduceCtorEq, Nat.reduceAdd, Nat.reduceEqDiff, Nat.reduceLT, Nat.reduceLeDiff, Nat.reduceSub, Nat.reduceMul, Nat.reduceBEq, Int.reduceToNat, Int.reduceLE, Int.reduceLT, Int.reducePow]; done) | (simp only [go_sem, bgrow_get, bgrow_len, bigD, Try.ntmps8, reduceIte, reduceCtorEq, Nat.reduceAdd, Nat.reduceEqDiff, Nat.reduceLT, Nat.reduceLeDiff, Nat.reduceSub, Nat.reduceMul, Nat.reduceBEq, Int.reduceToNat, Int.reduceLE, Int.reduceLT, Int.reducePow]; omega)
    case k3 => simp only [go_sem, bgrow_get, bgrow_len, bigD, Try.ntmps8, reduceIte, reduceCtorEq, Nat.reduceAdd, Nat.reduceEqDiff, Nat.reduceLT, Nat.reduceLeDiff, Nat.reduceSub, Nat.reduceMul, Nat.reduceBEq, Int.reduceToNat, Int.reduceLE, Int.reduceLT, Int.reducePow]; rfl
    refine AWp.block ?_
    refine AWp.conv (Conv.nilT 4 (e := 3) (ety := 56) rfl rfl) ?_
    refine AWp.conv (Conv.keep [0, 4, 5] [0] (by simp [St.nilT])) ?_
    refine AWp.loop (fun k S => ∃ i : Nat, i ≤ bl.length ∧ k = bl.length - i ∧ (List.range i).all (fun j => !badB bl j) = true ∧ S = ⟨[(0, .one (.s (.d (.slice z 4 (bgrow bl))))), (4, .one (.s (.row 0 3 0 i none))), (5, .one (dv (.int .i64 ((i : Nat) : Int))))], [(0, .row (fdrow (bigs (bl.take i))) 56)], 1⟩) bl.length ?i1 ?n1
    case i1 =>
      exact ⟨0, by omega, rfl, by simp, by simp [St.nilT, St.keep, keepE, lookN, fdrow, bigs]⟩
    case n1 =>
      rintro k S ⟨i, hi0, rfl, ht, rfl⟩
      refine AWp.seq ?_
      refine AWp.seq ?_
      refine AWp.reg (S1 := ?S4) (ob := ?o4) (S' := ?K4) tab_ok (noKnow _) mixed [0, 4, 5, 12] ?r4 ?h4 ?k4 ?w4
      case r4 => simp only [go_sem, bgrow_get, bgrow_len, bigD, Try.ntmps8, reduceIte, reduceCtorEq, Nat.reduceAdd, Nat.reduceEqDiff, Nat.reduceLT, Nat.reduceLeDiff, Nat.reduceSub, Nat.reduceMul, Nat.reduceBEq, Int.reduceToNat, Int.reduceLE, Int.reduceLT, Int.reducePow]; rfl
      case h4 => first | exact True.intro | omega | (simp only [go_sem, bgrow_get, bgrow_len, bigD, Try.ntmps8, reduceIte, reduceCtorEq, Nat.reduceAdd, Nat.reduceEqDiff, Nat.reduceLT, Nat.reduceLeDiff, Nat.reduceSub, Nat.reduceMul, Nat.reduceBEq, Int.reduceToNat, Int.reduceLE, Int.reduceLT, Int.reducePow]; done) | (simp only [go_sem, bgrow_get, bgrow_len, bigD, Try.ntmps8, reduceIte, reduceCtorEq, Nat.reduceAdd, Nat.reduceEqDiff, Nat.reduceLT, Nat.reduceLeDiff, Nat.reduceSub, Nat.reduceMul, Nat.reduceBEq, Int.reduceToNat, Int.reduceLE, Int.reduceLT, Int.reducePow]; omega)
      case k4 => simp only [go_sem, bgrow_get, bgrow_len, bigD, Try.ntmps8, reduceIte, reduceCtorEq, Nat.reduceAdd, Nat.reduceEqDiff, Nat.reduceLT, Nat.reduceLeDiff, Nat.reduceSub, Nat.reduceMul, Nat.reduceBEq, Int.reduceToNat, Int.reduceLE, Int.reduceLT, Int.reducePow]; rfl
      refine AWp.cond (b := ?b5) ?c5 ?t5 ?f5
      case c5 => simp only [go_sem, bgrow_get, bgrow_len, bigD, Try.ntmps8, reduceIte, reduceCtorEq, Nat.reduceAdd, Nat.reduceEqDiff, Nat.reduceLT, Nat.reduceLeDiff, Nat.reduceSub, Nat.reduceMul, Nat.reduceBEq, Int.reduceToNat, Int.reduceLE, Int.reduceLT, Int.reducePow]; rfl
      case t5 =>
        intro hb1
        have hi : i < bl.length := by simp at hb1; omega
        refine AWp.skip ?_
        refine AWp.seq ?_
        refine AWp.block ?_
        refine AWp.seq ?_
        refine AWp.reg (S1 := ?S6) (ob := ?o6) (S' := ?K6) tab_ok (noKnow _) mixed [0, 4, 5, 6] ?r6 ?h6 ?k6 ?w6
        case r6 => simp only [go_sem, bgrow_get, bgrow_len, bigD, Try.ntmps8, reduceIte, reduceCtorEq, Nat.reduceAdd, Nat.reduceEqDiff, Nat.reduceLT, Nat.reduceLeDiff, Nat.reduceSub, Nat.reduceMul, Nat.reduceBEq, Int.reduceToNat, Int.reduceLE, Int.reduceLT, Int.reducePow]; rfl
        case h6 => first | exact True.intro | omega | (simp only [go_sem, bgrow_get, bgrow_len, bigD, Try.ntmps8, reduceIte, reduceCtorEq, Nat.reduceAdd, Nat.reduceEqDiff, Nat.reduceLT, Nat.reduceLeDiff, Nat.reduceSub, Nat.reduceMul, Nat.reduceBEq, Int.reduceToNat, Int.reduceLE, Int.reduceLT, Int.reducePow]; done) | (simp only [go_sem, bgrow_get, bgrow_len, bigD, Try.ntmps8, reduceIte, reduceCtorEq, Nat.reduceAdd, Nat.reduceEqDiff, Nat.reduceLT, Nat.reduceLeDiff, Nat.reduceSub, Nat.reduceMul, Nat.reduceBEq, Int.reduceToNat, Int.reduceLE, Int.reduceLT, Int.reducePow]; omega)
        case k6 => simp only [go_sem, bgrow_get, bgrow_len, bigD, Try.ntmps8, reduceIte, reduceCtorEq, Nat.reduceAdd, Nat.reduceEqDiff, Nat.reduceLT, Nat.reduceLeDiff, Nat.reduceSub, Nat.reduceMul, Nat.reduceBEq, Int.reduceToNat, Int.reduceLE, Int.reduceLT, Int.reducePow]; rfl
        refine AWp.seq ?_
        refine AWp.seq ?_
        refine AWp.reg (S1 := ?S7) (ob := ?o7) (S' := ?K7) tab_ok (noKnow _) mixed [0, 4, 5, 6, 42] ?r7 ?h7 ?k7 ?w7
        case r7 => simp only [go_sem, bgrow_get, bgrow_len, bigD, Try.ntmps8, reduceIte, reduceCtorEq, Nat.reduceAdd, Nat.reduceEqDiff, Nat.reduceLT, Nat.reduceLeDiff, Nat.reduceSub, Nat.reduceMul, Nat.reduceBEq, Int.reduceToNat, Int.reduceLE, Int.reduceLT, Int.reducePow]; rfl
        case h7 => first | exact True.intro | omega | (simp only [go_sem, bgrow_get, bgrow_len, bigD, Try.ntmps8, reduceIte, reduceCtorEq, Nat.reduceAdd, Nat.reduceEqDiff, Nat.reduceLT, Nat.reduceLeDiff, Nat.reduceSub, Nat.reduceMul, Nat.reduceBEq, Int.reduceToNat, Int.reduceLE, Int.reduceLT, Int.reducePow]; done) | (simp only [go_sem, bgrow_get, bgrow_len, bigD, Try.ntmps8, reduceIte, reduceCtorEq, Nat.reduceAdd, Nat.reduceEqDiff, Nat.reduceLT, Nat.reduceLeDiff, Nat.reduceSub, Nat.reduceMul, Nat.reduceBEq, Int.reduceToNat, Int.reduceLE, Int.reduceLT, Int.reducePow]; omega)
        case k7 => simp only [go_sem, bgrow_get, bgrow_len, bigD, Try.ntmps8, reduceIte, reduceCtorEq, Nat.reduceAdd, Nat.reduceEqDiff, Nat.reduceLT, Nat.reduceLeDiff, Nat.reduceSub, Nat.reduceMul, Nat.reduceBEq, Int.reduceToNat, Int.reduceLE, Int.reduceLT, Int.reducePow]; rfl
        refine AWp.cond (b := ?b8) ?c8 ?t8 ?f8
        case c8 => simp only [go_sem, bgrow_get, bgrow_len, bigD, Try.ntmps8, reduceIte, reduceCtorEq, Nat.reduceAdd, Nat.reduceEqDiff, Nat.reduceLT, Nat.reduceLeDiff, Nat.reduceSub, Nat.reduceMul, Nat.reduceBEq, Int.reduceToNat, Int.reduceLE, Int.reduceLT, Int.reducePow]; rfl
        case t8 =>
          intro hb2
          have hbad : badB bl i = true := hb2
          refine AWp.seq ?_
          refine AWp.reg (S1 := ?S9) (ob := ?o9) (S' := ?K9) tab_ok (noKnow _) mixed [2, 3] ?r9 ?h9 ?k9 ?w9
          case r9 => simp only [go_sem, bgrow_get, bgrow_len, bigD, Try.ntmps8, reduceIte, reduceCtorEq, Nat.reduceAdd, Nat.reduceEqDiff, Nat.reduceLT, Nat.reduceLeDiff, Nat.reduceSub, Nat.reduceMul, Nat.reduceBEq, Int.reduceToNat, Int.reduceLE, Int.reduceLT, Int.reducePow]; rfl
          case h9 => first | exact True.intro | omega | (simp only [go_sem, bgrow_get, bgrow_len, bigD, Try.ntmps8, reduceIte, reduceCtorEq, Nat.reduceAdd, Nat.reduceEqDiff, Nat.reduceLT, Nat.reduceLeDiff, Nat.reduceSub, Nat.reduceMul, Nat.reduceBEq, Int.reduceToNat, Int.reduceLE, Int.reduceLT, Int.reducePow]; done) | (simp only [go_sem, bgrow_get, bgrow_len, bigD, Try.ntmps8, reduceIte, reduceCtorEq, Nat.reduceAdd, Nat.reduceEqDiff, Nat.reduceLT, Nat.reduceLeDiff, Nat.reduceSub, Nat.reduceMul, Nat.reduceBEq, Int.reduceToNat, Int.reduceLE, Int.reduceLT, Int.reducePow]; omega)
          case k9 => simp only [go_sem, bgrow_get, bgrow_len, bigD, Try.ntmps8, reduceIte, reduceCtorEq, Nat.reduceAdd, Nat.reduceEqDiff, Nat.reduceLT, Nat.reduceLeDiff, Nat.reduceSub, Nat.reduceMul, Nat.reduceBEq, Int.reduceToNat, Int.reduceLE, Int.reduceLT, Int.reducePow]; rfl
          refine AWp.ret ?_
          refine ends_p (vs := ?vs1) (ob := ?ro1) (vs' := ?ws1) (ks := ?ks1) (ob2 := ?rp1) tab_ok (by simp) ?er1 ?eo1 ?ef1 ?eg1 ?en1 ?ek1 ?ev1
          case er1 => simp only [go_sem, bgrow_get, bgrow_len, bigD, Try.ntmps8, reduceIte, reduceCtorEq, Nat.reduceAdd, Nat.reduceEqDiff, Nat.reduceLT, Nat.reduceLeDiff, Nat.reduceSub, Nat.reduceMul, Nat.reduceBEq, Int.reduceToNat, Int.reduceLE, Int.reduceLT, Int.reducePow, Try.results8]; rfl
          case eo1 => first | exact True.intro | simp only [go_sem, bgrow_get, bgrow_len, bigD, Try.ntmps8, reduceIte, reduceCtorEq, Nat.reduceAdd, Nat.reduceEqDiff, Nat.reduceLT, Nat.reduceLeDiff, Nat.reduceSub, Nat.reduceMul, Nat.reduceBEq, Int.reduceToNat, Int.reduceLE, Int.reduceLT, Int.reducePow]
          case ef1 => simp only [go_sem, bgrow_get, bgrow_len, bigD, Try.ntmps8, reduceIte, reduceCtorEq, Nat.reduceAdd, Nat.reduceEqDiff, Nat.reduceLT, Nat.reduceLeDiff, Nat.reduceSub, Nat.reduceMul, Nat.reduceBEq, Int.reduceToNat, Int.reduceLE, Int.reduceLT, Int.reducePow]; rfl
          case eg1 => first | exact True.intro | simp only [go_sem, bgrow_get, bgrow_len, bigD, Try.ntmps8, reduceIte, reduceCtorEq, Nat.reduceAdd, Nat.reduceEqDiff, Nat.reduceLT, Nat.reduceLeDiff, Nat.reduceSub, Nat.reduceMul, Nat.reduceBEq, Int.reduceToNat, Int.reduceLE, Int.reduceLT, Int.reducePow]
          case en1 => simp only [go_sem, bgrow_get, bgrow_len, bigD, Try.ntmps8, reduceIte, reduceCtorEq, Nat.reduceAdd, Nat.reduceEqDiff, Nat.reduceLT, Nat.reduceLeDiff, Nat.reduceSub, Nat.reduceMul, Nat.reduceBEq, Int.reduceToNat, Int.reduceLE, Int.reduceLT, Int.reducePow]
          case ek1 => simp only [go_sem, bgrow_get, bgrow_len, bigD, Try.ntmps8, reduceIte, reduceCtorEq, Nat.reduceAdd, Nat.reduceEqDiff, Nat.reduceLT, Nat.reduceLeDiff, Nat.reduceSub, Nat.reduceMul, Nat.reduceBEq, Int.reduceToNat, Int.reduceLE, Int.reduceLT, Int.reducePow]
          case ev1 =>
            have : bigOk bl = false := all_no (l := List.range bl.length) (i := i) (p := fun i => !badB bl i) (by simpa using hi) 0 (by simpa [List.getD_eq_getElem?_getD, List.getElem?_range hi] using hbad)
            rw [bigV, this]; rfl
        case f8 =>
          intro hb2
          have hbad : badB bl i = false := hb2
          simp only [Bool.or_eq_false_iff, decide_eq_false_iff_not] at hb2
          refine AWp.skip ?_
          refine AWp.seq ?_
          refine AWp.reg (S1 := ?S10) (ob := ?o10) (S' := ?K10) tab_ok (noKnow _) mixed [0, 4, 5, 6, 7] ?r10 ?h10 ?k10 ?w10
          case r10 => simp only [go_sem, bgrow_get, bgrow_len, bigD, Try.ntmps8, reduceIte, reduceCtorEq, Nat.reduceAdd, Nat.reduceEqDiff, Nat.reduceLT, Nat.reduceLeDiff, Nat.reduceSub, Nat.reduceMul, Nat.reduceBEq, Int.reduceToNat, Int.reduceLE, Int.reduceLT, Int.reducePow]; rfl
          case h10 => first | exact True.intro | omega | (simp only [go_sem, bgrow_get, bgrow_len, bigD, Try.ntmps8, reduceIte, reduceCtorEq, Nat.reduceAdd, Nat.reduceEqDiff, Nat.reduceLT, Nat.reduceLeDiff, Nat.reduceSub, Nat.reduceMul, Nat.reduceBEq, Int.reduceToNat, Int.reduceLE, Int.reduceLT, Int.reducePow]; done) | (simp only [go_sem, bgrow_get, bgrow_len, bigD, Try.ntmps8, reduceIte, reduceCtorEq, Nat.reduceAdd, Nat.reduceEqDiff, Nat.reduceLT, Nat.reduceLeDiff, Nat.reduceSub, Nat.reduceMul, Nat.reduceBEq, Int.reduceToNat, Int.reduceLE, Int.reduceLT, Int.reducePow]; omega)
          case k10 => simp only [go_sem, bgrow_get, bgrow_len, bigD, Try.ntmps8, reduceIte, reduceCtorEq, Nat.reduceAdd, Nat.reduceEqDiff, Nat.reduceLT, Nat.reduceLeDiff, Nat.reduceSub, Nat.reduceMul, Nat.reduceBEq, Int.reduceToNat, Int.reduceLE, Int.reduceLT, Int.reducePow]; rfl
          refine AWp.seq ?_
          refine AWp.seq ?_
          refine AWp.reg (S1 := ?S11) (ob := ?o11) (S' := ?K11) tab_ok (noKnow _) mixed [0, 4, 5, 6, 7, 8] ?r11 ?h11 ?k11 ?w11
          case r11 => simp only [go_sem, bgrow_get, bgrow_len, bigD, Try.ntmps8, reduceIte, reduceCtorEq, Nat.reduceAdd, Nat.reduceEqDiff, Nat.reduceLT, Nat.reduceLeDiff, Nat.reduceSub, Nat.reduceMul, Nat.reduceBEq, Int.reduceToNat, Int.reduceLE, Int.reduceLT, Int.reducePow]; rfl
          case h11 => first | exact True.intro | omega | (simp only [go_sem, bgrow_get, bgrow_len, bigD, Try.ntmps8, reduceIte, reduceCtorEq, Nat.reduceAdd, Nat.reduceEqDiff, Nat.reduceLT, Nat.reduceLeDiff, Nat.reduceSub, Nat.reduceMul, Nat.reduceBEq, Int.reduceToNat, Int.reduceLE, Int.reduceLT, Int.reducePow]; done) | (simp only [go_sem, bgrow_get, bgrow_len, bigD, Try.ntmps8, reduceIte, reduceCtorEq, Nat.reduceAdd, Nat.reduceEqDiff, Nat.reduceLT, Nat.reduceLeDiff, Nat.reduceSub, Nat.reduceMul, Nat.reduceBEq, Int.reduceToNat, Int.reduceLE, Int.reduceLT, Int.reducePow]; omega)
          case k11 => simp only [go_sem, bgrow_get, bgrow_len, bigD, Try.ntmps8, reduceIte, reduceCtorEq, Nat.reduceAdd, Nat.reduceEqDiff, Nat.reduceLT, Nat.reduceLeDiff, Nat.reduceSub, Nat.reduceMul, Nat.reduceBEq, Int.reduceToNat, Int.reduceLE, Int.reduceLT, Int.reducePow]; rfl
          refine AWp.block ?_
          refine AWp.loop (fun k S => ∃ (j : Nat) (s : List UInt8), (j : Int) ≤ 2000 ∧ k = 2000 - j ∧ (j : Int) ≤ (bl.getD i b0L).2.2.2 ∧ grow (bl.getD i b0L).2.2.1 ((bl.getD i b0L).2.2.2.toNat - j) s = grow (bl.getD i b0L).2.2.1 (bl.getD i b0L).2.2.2.toNat [] ∧ s.length ≤ 20060 ∧ S = ⟨[(0, .one (.s (.d (.slice z 4 (bgrow bl))))), (4, .one (.s (.row 0 3 0 i none))), (5, .one (dv (.int .i64 ((i : Nat) : Int)))), (6, .one (.s (.ptr 1 0))), (7, .one (dv (.str s))), (8, .one (dv (.int .i64 ((j : Nat) : Int))))], [(1, .cells [.d (.str (bl.getD i b0L).1), .d (.int .i64 (bl.getD i b0L).2.1), .d (.str (bl.getD i b0L).2.2.1), .d (.int .i64 (bl.getD i b0L).2.2.2)] 54), (0, .row (fdrow (bigs (bl.take i))) 56)], 2⟩) 2000 ?i2 ?n2
          case i2 =>
            exact ⟨0, [], by omega, rfl, by omega, by simp, by simp, rfl⟩
          case n2 =>
            rintro k S ⟨j, s, hj0, rfl, hj1, hg, hs, rfl⟩
            refine AWp.seq ?_
            refine AWp.seq ?_
            refine AWp.reg (S1 := ?S12) (ob := ?o12) (S' := ?K12) tab_ok (noKnow _) mixed [0, 4, 5, 6, 7, 8, 51] ?r12 ?h12 ?k12 ?w12
            case r12 => simp only [go_sem, bgrow_get, bgrow_len, bigD, Try.ntmps8, reduceIte, reduceCtorEq, Nat.reduceAdd, Nat.reduceEqDiff, Nat.reduceLT, Nat.reduceLeDiff, Nat.reduceSub, Nat.reduceMul, Nat.reduceBEq, Int.reduceToNat, Int.reduceLE, Int.reduceLT, Int.reducePow]; rfl
            case h12 => first | exact True.intro | omega | (simp only [go_sem, bgrow_get, bgrow_len, bigD, Try.ntmps8, reduceIte, reduceCtorEq, Nat.reduceAdd, Nat.reduceEqDiff, Nat.reduceLT, Nat.reduceLeDiff, Nat.reduceSub, Nat.reduceMul, Nat.reduceBEq, Int.reduceToNat, Int.reduceLE, Int.reduceLT, Int.reducePow]; done) | (simp only [go_sem, bgrow_get, bgrow_len, bigD, Try.ntmps8, reduceIte, reduceCtorEq, Nat.reduceAdd, Nat.reduceEqDiff, Nat.reduceLT, Nat.reduceLeDiff, Nat.reduceSub, Nat.reduceMul, Nat.reduceBEq, Int.reduceToNat, Int.reduceLE, Int.reduceLT, Int.reducePow]; omega)
            case k12 => simp only [go_sem, bgrow_get, bgrow_len, bigD, Try.ntmps8, reduceIte, reduceCtorEq, Nat.reduceAdd, Nat.reduceEqDiff, Nat.reduceLT, Nat.reduceLeDiff, Nat.reduceSub, Nat.reduceMul, Nat.reduceBEq, Int.reduceToNat, Int.reduceLE, Int.reduceLT, Int.reducePow]; rfl
            refine AWp.cond (b := ?b13) ?c13 ?t13 ?f13
            case c13 => simp only [go_sem, bgrow_get, bgrow_len, bigD, Try.ntmps8, reduceIte, reduceCtorEq, Nat.reduceAdd, Nat.reduceEqDiff, Nat.reduceLT, Nat.reduceLeDiff, Nat.reduceSub, Nat.reduceMul, Nat.reduceBEq, Int.reduceToNat, Int.reduceLE, Int.reduceLT, Int.reducePow]; rfl
            case t13 =>
              intro hb3
              simp only [Bool.and_eq_true, decide_eq_true_eq] at hb3
              refine AWp.skip ?_
              refine AWp.seq ?_
              refine AWp.block ?_
              refine AWp.reg (S1 := ?S14) (ob := ?o14) (S' := ?K14) tab_ok (noKnow _) mixed [0, 4, 5, 6, 7, 8] ?r14 ?h14 ?k14 ?w14
              case r14 => simp only [go_sem, bgrow_get, bgrow_len, bigD, Try.ntmps8, reduceIte, reduceCtorEq, Nat.reduceAdd, Nat.reduceEqDiff, Nat.reduceLT, Nat.reduceLeDiff, Nat.reduceSub, Nat.reduceMul, Nat.reduceBEq, Int.reduceToNat, Int.reduceLE, Int.reduceLT, Int.reducePow]; rfl
              case h14 => first | exact True.intro | omega | (simp only [go_sem, bgrow_get, bgrow_len, bigD, Try.ntmps8, reduceIte, reduceCtorEq, Nat.reduceAdd, Nat.reduceEqDiff, Nat.reduceLT, Nat.reduceLeDiff, Nat.reduceSub, Nat.reduceMul, Nat.reduceBEq, Int.reduceToNat, Int.reduceLE, Int.reduceLT, Int.reducePow]; done) | (simp only [go_sem, bgrow_get, bgrow_len, bigD, Try.ntmps8, reduceIte, reduceCtorEq, Nat.reduceAdd, Nat.reduceEqDiff, Nat.reduceLT, Nat.reduceLeDiff, Nat.reduceSub, Nat.reduceMul, Nat.reduceBEq, Int.reduceToNat, Int.reduceLE, Int.reduceLT, Int.reducePow]; omega)
              case k14 => simp only [go_sem, bgrow_get, bgrow_len, bigD, Try.ntmps8, reduceIte, reduceCtorEq, Nat.reduceAdd, Nat.reduceEqDiff, Nat.reduceLT, Nat.reduceLeDiff, Nat.reduceSub, Nat.reduceMul, Nat.reduceBEq, Int.reduceToNat, Int.reduceLE, Int.reduceLT, Int.reducePow]; rfl
              refine AWp.reg (S1 := ?S15) (ob := ?o15) (S' := ?K15) tab_ok (noKnow _) mixed [0, 4, 5, 6, 7, 8] ?r15 ?h15 ?k15 ?w15
              case r15 => simp only [go_sem, bgrow_get, bgrow_len, bigD, Try.ntmps8, reduceIte, reduceCtorEq, Nat.reduceAdd, Nat.reduceEqDiff, Nat.reduceLT, Nat.reduceLeDiff, Nat.reduceSub, Nat.reduceMul, Nat.reduceBEq, Int.reduceToNat, Int.reduceLE, Int.reduceLT, Int.reducePow]; rfl
              case h15 => first | exact True.intro | omega | (simp only [go_sem, bgrow_get, bgrow_len, bigD, Try.ntmps8, reduceIte, reduceCtorEq, Nat.reduceAdd, Nat.reduceEqDiff, Nat.reduceLT, Nat.reduceLeDiff, Nat.reduceSub, Nat.reduceMul, Nat.reduceBEq, Int.reduceToNat, Int.reduceLE, Int.reduceLT, Int.reducePow]; done) | (simp only [go_sem, bgrow_get, bgrow_len, bigD, Try.ntmps8, reduceIte, reduceCtorEq, Nat.reduceAdd, Nat.reduceEqDiff, Nat.reduceLT, Nat.reduceLeDiff, Nat.reduceSub, Nat.reduceMul, Nat.reduceBEq, Int.reduceToNat, Int.reduceLE, Int.reduceLT, Int.reducePow]; omega)
              case k15 => simp only [go_sem, bgrow_get, bgrow_len, bigD, Try.ntmps8, reduceIte, reduceCtorEq, Nat.reduceAdd, Nat.reduceEqDiff, Nat.reduceLT, Nat.reduceLeDiff, Nat.reduceSub, Nat.reduceMul, Nat.reduceBEq, Int.reduceToNat, Int.reduceLE, Int.reduceLT, Int.reducePow]; rfl
              refine ⟨2000 - (j + 1), ⟨[(0, .one (.s (.d (.slice z 4 (bgrow bl))))), (4, .one (.s (.row 0 3 0 i none))), (5, .one (dv (.int .i64 ((i : Nat) : Int)))), (6, .one (.s (.ptr 1 0))), (7, .one (dv (.str (s ++ (bl.getD i b0L).2.2.1)))), (8, .one (dv (.int .i64 (((j + 1) : Nat) : Int))))], [(1, .cells [.d (.str (bl.getD i b0L).1), .d (.int .i64 (bl.getD i b0L).2.1), .d (.str (bl.getD i b0L).2.2.1), .d (.int .i64 (bl.getD i b0L).2.2.2)] 54), (0, .row (fdrow (bigs (bl.take i))) 56)], 2⟩, by omega, Conv.refl _, j + 1, s ++ (bl.getD i b0L).2.2.1, by omega, rfl, by omega, ?_, by rw [List.length_append]; omega, rfl⟩
              rw [← hg]
              exact (grow_step (by omega) hb3.1).symm
            case f13 =>
              intro hb3
              simp only [Bool.and_eq_false_iff, decide_eq_false_iff_not] at hb3
              have hfin : s = grow (bl.getD i b0L).2.2.1 (bl.getD i b0L).2.2.2.toNat [] := by
                by_cases hl : s.length < 20000
                · have e : (bl.getD i b0L).2.2.2.toNat - j = 0 := by omega
                  rw [e] at hg
                  exact hg
                · rw [grow_stop hl] at hg
                  exact hg
              refine AWp.exit ?_
              refine thenA_exit ?_
              refine thenA_exit ?_
              refine inB_eq ?_
              refine AWp.reg (S1 := ?S16) (ob := ?o16) (S' := ?K16) tab_ok (noKnow _) mixed [0, 4, 5] ?r16 ?h16 ?k16 ?w16
              case r16 => simp only [go_sem, bgrow_get, bgrow_len, bigD, Try.ntmps8, reduceIte, reduceCtorEq, Nat.reduceAdd, Nat.reduceEqDiff, Nat.reduceLT, Nat.reduceLeDiff, Nat.reduceSub, Nat.reduceMul, Nat.reduceBEq, Int.reduceToNat, Int.reduceLE, Int.reduceLT, Int.reducePow]; rfl
              case h16 =>
                have h8 := good_le ht
                have e1 : (fdrow (bigs (bl.take i))).length = i := by rw [fdrow_len, bigs_len, List.length_take]; omega
                simp only [go_sem, bgrow_get, bgrow_len, bigD, Try.ntmps8, reduceIte, reduceCtorEq, Nat.reduceAdd, Nat.reduceEqDiff, Nat.reduceLT, Nat.reduceLeDiff, Nat.reduceSub, Nat.reduceMul, Nat.reduceBEq, Int.reduceToNat, Int.reduceLE, Int.reduceLT, Int.reducePow, e1]
                omega
              case k16 => simp only [go_sem, bgrow_get, bgrow_len, bigD, Try.ntmps8, reduceIte, reduceCtorEq, Nat.reduceAdd, Nat.reduceEqDiff, Nat.reduceLT, Nat.reduceLeDiff, Nat.reduceSub, Nat.reduceMul, Nat.reduceBEq, Int.reduceToNat, Int.reduceLE, Int.reduceLT, Int.reducePow]; rfl
              refine AWp.reg (S1 := ?S17) (ob := ?o17) (S' := ?K17) tab_ok (noKnow _) mixed [0, 4, 5] ?r17 ?h17 ?k17 ?w17
              case r17 => simp only [go_sem, bgrow_get, bgrow_len, bigD, Try.ntmps8, reduceIte, reduceCtorEq, Nat.reduceAdd, Nat.reduceEqDiff, Nat.reduceLT, Nat.reduceLeDiff, Nat.reduceSub, Nat.reduceMul, Nat.reduceBEq, Int.reduceToNat, Int.reduceLE, Int.reduceLT, Int.reducePow]; rfl
              case h17 =>
                have h8 := good_le ht
                exact ⟨by omega, by omega⟩
              case k17 => simp only [go_sem, bgrow_get, bgrow_len, bigD, Try.ntmps8, reduceIte, reduceCtorEq, Nat.reduceAdd, Nat.reduceEqDiff, Nat.reduceLT, Nat.reduceLeDiff, Nat.reduceSub, Nat.reduceMul, Nat.reduceBEq, Int.reduceToNat, Int.reduceLE, Int.reduceLT, Int.reducePow]; rfl
              have h8 := good_le ht
              refine ⟨bl.length - (i + 1), ⟨[(0, .one (.s (.d (.slice z 4 (bgrow bl))))), (4, .one (.s (.row 0 3 0 (i + 1) none))), (5, .one (dv (.int .i64 (((i + 1) : Nat) : Int))))], [(0, .row (fdrow (bigs (bl.take (i + 1)))) 56)], 1⟩, by omega, ?_, i + 1, by omega, rfl, by simp [List.range_succ, ht, hbad], rfl⟩
              have hA : fdrow (bigs (bl.take (i + 1))) = fdrow (bigs (bl.take i)) ++ [[.str (bl.getD i b0L).1, .int .i64 (bl.getD i b0L).2.1, .str s]] := by rw [bigs_succ hi, fdrow, List.map_append, hfin]; rfl
              exact (Conv.keep [0, 4, 5] [3] (by simp)).trans (Conv.rename (fun j => if j = 0 then 3 else j) (by simp; done) (by simp; done) (by simp [St.keep, keepE, lookN, AVal.ren, AV.ren, Sc.ren, AVal.ids, AV.ids, Sc.ids, fdrow_len, bigs_len]; omega) (by simp [St.keep, keepE, lookN, AObj.ren, AObj.ids, Sc.ids, Sc.ren, hA]; done) (by simp; done))
      case f5 =>
        intro hb1
        have hi : i = bl.length := by simp at hb1; omega
        subst hi
        refine AWp.exit ?_
        refine thenA_exit ?_
        refine thenA_exit ?_
        refine inB_eq ?_
        refine AWp.seq ?_
        refine AWp.reg (S1 := ?S18) (ob := ?o18) (S' := ?K18) tab_ok (noKnow _) mixed [2, 3] ?r18 ?h18 ?k18 ?w18
        case r18 => simp only [go_sem, bgrow_get, bgrow_len, bigD, Try.ntmps8, reduceIte, reduceCtorEq, Nat.reduceAdd, Nat.reduceEqDiff, Nat.reduceLT, Nat.reduceLeDiff, Nat.reduceSub, Nat.reduceMul, Nat.reduceBEq, Int.reduceToNat, Int.reduceLE, Int.reduceLT, Int.reducePow]; rfl
        case h18 => first | exact True.intro | omega | (simp only [go_sem, bgrow_get, bgrow_len, bigD, Try.ntmps8, reduceIte, reduceCtorEq, Nat.reduceAdd, Nat.reduceEqDiff, Nat.reduceLT, Nat.reduceLeDiff, Nat.reduceSub, Nat.reduceMul, Nat.reduceBEq, Int.reduceToNat, Int.reduceLE, Int.reduceLT, Int.reducePow]; done) | (simp only [go_sem, bgrow_get, bgrow_len, bigD, Try.ntmps8, reduceIte, reduceCtorEq, Nat.reduceAdd, Nat.reduceEqDiff, Nat.reduceLT, Nat.reduceLeDiff, Nat.reduceSub, Nat.reduceMul, Nat.reduceBEq, Int.reduceToNat, Int.reduceLE, Int.reduceLT, Int.reducePow]; omega)
        case k18 => simp only [go_sem, bgrow_get, bgrow_len, bigD, Try.ntmps8, reduceIte, reduceCtorEq, Nat.reduceAdd, Nat.reduceEqDiff, Nat.reduceLT, Nat.reduceLeDiff, Nat.reduceSub, Nat.reduceMul, Nat.reduceBEq, Int.reduceToNat, Int.reduceLE, Int.reduceLT, Int.reducePow]; rfl
        refine AWp.ret ?_
        refine ends_p (vs := ?vs2) (ob := ?ro2) (vs' := ?ws2) (ks := ?ks2) (ob2 := ?rp2) tab_ok (by simp) ?er2 ?eo2 ?ef2 ?eg2 ?en2 ?ek2 ?ev2
        case er2 => simp only [go_sem, bgrow_get, bgrow_len, bigD, Try.ntmps8, reduceIte, reduceCtorEq, Nat.reduceAdd, Nat.reduceEqDiff, Nat.reduceLT, Nat.reduceLeDiff, Nat.reduceSub, Nat.reduceMul, Nat.reduceBEq, Int.reduceToNat, Int.reduceLE, Int.reduceLT, Int.reducePow, Try.results8]; rfl
        case eo2 => first | exact True.intro | simp only [go_sem, bgrow_get, bgrow_len, bigD, Try.ntmps8, reduceIte, reduceCtorEq, Nat.reduceAdd, Nat.reduceEqDiff, Nat.reduceLT, Nat.reduceLeDiff, Nat.reduceSub, Nat.reduceMul, Nat.reduceBEq, Int.reduceToNat, Int.reduceLE, Int.reduceLT, Int.reducePow]
        case ef2 => simp only [go_sem, bgrow_get, bgrow_len, bigD, Try.ntmps8, reduceIte, reduceCtorEq, Nat.reduceAdd, Nat.reduceEqDiff, Nat.reduceLT, Nat.reduceLeDiff, Nat.reduceSub, Nat.reduceMul, Nat.reduceBEq, Int.reduceToNat, Int.reduceLE, Int.reduceLT, Int.reducePow]; rfl
        case eg2 => simp [fdrow_len, bigs_len]
        case en2 => simp only [go_sem, bgrow_get, bgrow_len, bigD, Try.ntmps8, reduceIte, reduceCtorEq, Nat.reduceAdd, Nat.reduceEqDiff, Nat.reduceLT, Nat.reduceLeDiff, Nat.reduceSub, Nat.reduceMul, Nat.reduceBEq, Int.reduceToNat, Int.reduceLE, Int.reduceLT, Int.reducePow]
        case ek2 => simp only [go_sem, bgrow_get, bgrow_len, bigD, Try.ntmps8, reduceIte, reduceCtorEq, Nat.reduceAdd, Nat.reduceEqDiff, Nat.reduceLT, Nat.reduceLeDiff, Nat.reduceSub, Nat.reduceMul, Nat.reduceBEq, Int.reduceToNat, Int.reduceLE, Int.reduceLT, Int.reducePow]
        case ev2 =>
          have hk : bigOk bl = true := ht
          rw [bigV, if_pos hk]; rfl
  · cases hq

end Go.Proofs.Hg

set_option linter.unusedSimpArgs false
set_option linter.unusedVariables false
set_option maxHeartbeats 4000000
namespace Go.Proofs.Hg
open Go.RowKit
set_option maxRecDepth 100000
def enE (n : Int) (l : List FileL) : Int := if rightL n l then 0 else 201
def enZ (n : Int) (l : List FileL) : Option Bool := if rightL n l then none else some true
def enW (n : Int) (l : List FileL) : Nat := if rightL n l then 1 else 0
def enR (n : Int) (l : List FileL) : List (List D) := if rightL n l then recR n (nP (bytesL l)) (bytesL l) (nP (bytesL l)) else []
theorem encV_tup (n : Int) (l : List FileL) : encV n l = .tup [dv (.slice (enZ n l) (enW n l) (enR n l)), dv (.int .i64 (enE n l))] := by
  unfold encV enE enZ enW enR
  split <;> rfl
theorem recR_ok (n : Int) (N : Nat) (B : List UInt8) (i : Nat) : RowsOk (recR n N B i) := by
  intro r hr
  obtain ⟨j, _, rfl⟩ := List.mem_map.1 hr
  simp [rowZ1, rowB1]
theorem enR_ok (n : Int) (l : List FileL) : RowsOk (enR n l) := by
  unfold enR
  split
  · exact recR_ok _ _ _ _
  · intro r hr; simp at hr
theorem enR_len (n : Int) (l : List FileL) : (enR n l).length ≤ 16789 := by
  unfold enR
  split
  · rename_i h
    have hN := nChunks_le (bytesL_len (rightL_in h).2.2)
    rw [recR_len]
    unfold nP
    split <;> omega
  · simp
theorem enR_w (n : Int) (l : List FileL) : enR n l = [] ∨ enW n l = 1 := by
  unfold enR enW
  split
  · exact .inr rfl
  · exact .inl rfl
def bgK (l : List BigL) : Bool := bigOk l
def bgZ (l : List BigL) : Option Bool := if bigOk l then none else some true
def bgW (l : List BigL) : Nat := if bigOk l then 3 else 0
def bgR (l : List BigL) : List FileL := if bigOk l then bigs l else []
theorem bigV_tup (l : List BigL) : bigV l = .tup [dv (.slice (bgZ l) (bgW l) (fdrow (bgR l))), dv (.bool (bgK l))] := by
  unfold bigV bgK bgZ bgW bgR
  split
  · rename_i h; rw [h]
  · rename_i h; simp only [Bool.not_eq_true] at h; rw [h]; rfl
theorem bigs_ok {l : List BigL} (h : bigOk l = true) : FilesOk (bigs l) := by
  have h8 := good_le h
  refine ⟨by rw [bigs_len]; omega, fun f hf => ?_⟩
  obtain ⟨b, hb, rfl⟩ := List.mem_map.1 hf
  obtain ⟨i, hi, rfl⟩ := List.mem_iff_getElem.1 hb
  have hg := List.all_eq_true.1 h i (by simpa using hi)
  have h1 : badB l i = false := by simpa using hg
  simp only [badB, Bool.or_eq_false_iff, decide_eq_false_iff_not, getD_lt hi] at h1
  show l[i].1.length ≤ 1000000
  omega
theorem map_id {α : Type} {f : α → α} {l : List α} (h : ∀ x ∈ l, f x = x) : l.map f = l := by
  conv => rhs; rw [← List.map_id l]
  exact List.map_congr_left h
theorem has_bigs {es : List (List D)} (h : ∀ r ∈ es, (Ty.struct [.str, .int .i64, .str, .int .i64]).has r) : es = bgrow (unbg es) := by
  rw [bgrow, unbg, List.map_map]
  refine (map_id fun r hr => ?_).symm
  have := h r hr
  simp only [Ty.has, Ty.hasL] at this
  obtain ⟨_, _, rfl, ⟨p, rfl, _⟩, _, _, rfl, ⟨v, rfl, _⟩, _, _, rfl, ⟨s, rfl, _⟩, _, _, rfl, ⟨t, rfl, _⟩, rfl⟩ := this
  rfl
def encodesF : List AV → Option (AVal × Prop)
  | [.s (.d (.int .i64 n)), .s (.d (.slice z e es))] => some (.one (dv (.bool true)), e = 4 ∧ es = bgrow (unbg es))
  | _ => none
def kn3 : List (Nat × Cont) := [(8, pureK filesF), (9, pureK aliveF), (10, pureK encF), (11, pureK rEncF), (12, pureK sameBF)]
theorem kn3_ok : ∀ p ∈ kn3, ContOk Try.prog p.1 p.2 := by
  intro p hp
  simp only [kn3, List.mem_cons, List.not_mem_nil, or_false] at hp
  rcases hp with rfl | rfl | rfl | rfl | rfl
  · exact filesF_ok
  · exact aliveF_ok
  · exact encF_ok
  · exact rEncF_ok
  · exact sameBF_ok
theorem encodesF_ok : ContOk Try.prog 3 (pureK encodesF) := by
  refine pure_ok (nargs := 2) Try.func3 rfl (by kernel_rfl) (Nat.le_of_ble_eq_true (by kernel_rfl)) ?_
  intro args q hq hob
  unfold encodesF at hq
  split at hq
  · rename_i n z e es
    injection hq with hq
    subst hq
    obtain ⟨h1, h2⟩ : e = 4 ∧ es = bgrow (unbg es) := hob
    generalize unbg es = bl at *
    subst h1 h2
    refine ⟨rfl, by simp [AV.ids, Sc.ids], by simp [AVal.ids, AV.ids, Sc.ids], by simp, ?_⟩
    refine AWp.seq ?_
    refine AWp.reg (S1 := ?S1) (ob := ?o1) (S' := ?K1) tab_ok (knowL_ok kn3_ok) mixed [0, 1] ?r1 ?h1 ?k1 ?w1
    case r1 => simp only [go_sem, kn3, filesF, aliveF, encF, rEncF, sameBF, bigV_tup, encV_tup, unf_fdrow, unbg_bgrow, Try.ntmps3, reduceIte, reduceCtorEq, Nat.reduceAdd, Nat.reduceEqDiff, Nat.reduceLT, Nat.reduceLeDiff, Nat.reduceSub, Nat.reduceMul, Nat.reduceBEq, Int.reduceToNat, Int.reduceLE, Int.reduceLT, Int.reducePow]; rfl
    case h1 => first | exact True.intro | omega | (simp only [go_sem, kn3, filesF, aliveF, encF, rEncF, sameBF, bigV_tup, encV_tup, unf_fdrow, unbg_bgrow, Try.ntmps3, reduceIte, reduceCtorEq, Nat.reduceAdd, Nat.reduceEqDiff, Nat.reduceLT, Nat.reduceLeDiff, Nat.reduceSub, Nat.reduceMul, Nat.reduceBEq, Int.reduceToNat, Int.reduceLE, Int.reduceLT, Int.reducePow]; done) | (simp only [go_sem, kn3, filesF, aliveF, encF, rEncF, sameBF, bigV_tup, encV_tup, unf_fdrow, unbg_bgrow, Try.ntmps3, reduceIte, reduceCtorEq, Nat.reduceAdd, Nat.reduceEqDiff, Nat.reduceLT, Nat.reduceLeDiff, Nat.reduceSub, Nat.reduceMul, Nat.reduceBEq, Int.reduceToNat, Int.reduceLE, Int.reduceLT, Int.reducePow]; omega)
    case k1 => simp only [go_sem, kn3, filesF, aliveF, encF, rEncF, sameBF, bigV_tup, encV_tup, unf_fdrow, unbg_bgrow, Try.ntmps3, reduceIte, reduceCtorEq, Nat.reduceAdd, Nat.reduceEqDiff, Nat.reduceLT, Nat.reduceLeDiff, Nat.reduceSub, Nat.reduceMul, Nat.reduceBEq, Int.reduceToNat, Int.reduceLE, Int.reduceLT, Int.reducePow]; rfl
    refine AWp.seq ?_
    refine AWp.reg (S1 := ?S2) (ob := ?o2) (S' := ?K2) tab_ok (knowL_ok kn3_ok) mixed [0, 5, 6] ?r2 ?h2 ?k2 ?w2
    case r2 => simp only [go_sem, kn3, filesF, aliveF, encF, rEncF, sameBF, bigV_tup, encV_tup, unf_fdrow, unbg_bgrow, Try.ntmps3, reduceIte, reduceCtorEq, Nat.reduceAdd, Nat.reduceEqDiff, Nat.reduceLT, Nat.reduceLeDiff, Nat.reduceSub, Nat.reduceMul, Nat.reduceBEq, Int.reduceToNat, Int.reduceLE, Int.reduceLT, Int.reducePow]; rfl
    case h2 => first | exact True.intro | omega | (simp only [go_sem, kn3, filesF, aliveF, encF, rEncF, sameBF, bigV_tup, encV_tup, unf_fdrow, unbg_bgrow, Try.ntmps3, reduceIte, reduceCtorEq, Nat.reduceAdd, Nat.reduceEqDiff, Nat.reduceLT, Nat.reduceLeDiff, Nat.reduceSub, Nat.reduceMul, Nat.reduceBEq, Int.reduceToNat, Int.reduceLE, Int.reduceLT, Int.reducePow]; done) | (simp only [go_sem, kn3, filesF, aliveF, encF, rEncF, sameBF, bigV_tup, encV_tup, unf_fdrow, unbg_bgrow, Try.ntmps3, reduceIte, reduceCtorEq, Nat.reduceAdd, Nat.reduceEqDiff, Nat.reduceLT, Nat.reduceLeDiff, Nat.reduceSub, Nat.reduceMul, Nat.reduceBEq, Int.reduceToNat, Int.reduceLE, Int.reduceLT, Int.reducePow]; omega)
    case k2 => simp only [go_sem, kn3, filesF, aliveF, encF, rEncF, sameBF, bigV_tup, encV_tup, unf_fdrow, unbg_bgrow, Try.ntmps3, reduceIte, reduceCtorEq, Nat.reduceAdd, Nat.reduceEqDiff, Nat.reduceLT, Nat.reduceLeDiff, Nat.reduceSub, Nat.reduceMul, Nat.reduceBEq, Int.reduceToNat, Int.reduceLE, Int.reduceLT, Int.reducePow]; rfl
    refine AWp.seq ?_
    refine AWp.seq ?_
    refine AWp.reg (S1 := ?S3) (ob := ?o3) (S' := ?K3) tab_ok (knowL_ok kn3_ok) mixed [0, 5, 18] ?r3 ?h3 ?k3 ?w3
    case r3 => simp only [go_sem, kn3, filesF, aliveF, encF, rEncF, sameBF, bigV_tup, encV_tup, unf_fdrow, unbg_bgrow, Try.ntmps3, reduceIte, reduceCtorEq, Nat.reduceAdd, Nat.reduceEqDiff, Nat.reduceLT, Nat.reduceLeDiff, Nat.reduceSub, Nat.reduceMul, Nat.reduceBEq, Int.reduceToNat, Int.reduceLE, Int.reduceLT, Int.reducePow]; rfl
    case h3 => first | exact True.intro | omega | (simp only [go_sem, kn3, filesF, aliveF, encF, rEncF, sameBF, bigV_tup, encV_tup, unf_fdrow, unbg_bgrow, Try.ntmps3, reduceIte, reduceCtorEq, Nat.reduceAdd, Nat.reduceEqDiff, Nat.reduceLT, Nat.reduceLeDiff, Nat.reduceSub, Nat.reduceMul, Nat.reduceBEq, Int.reduceToNat, Int.reduceLE, Int.reduceLT, Int.reducePow]; done) | (simp only [go_sem, kn3, filesF, aliveF, encF, rEncF, sameBF, bigV_tup, encV_tup, unf_fdrow, unbg_bgrow, Try.ntmps3, reduceIte, reduceCtorEq, Nat.reduceAdd, Nat.reduceEqDiff, Nat.reduceLT, Nat.reduceLeDiff, Nat.reduceSub, Nat.reduceMul, Nat.reduceBEq, Int.reduceToNat, Int.reduceLE, Int.reduceLT, Int.reducePow]; omega)
    case k3 => simp only [go_sem, kn3, filesF, aliveF, encF, rEncF, sameBF, bigV_tup, encV_tup, unf_fdrow, unbg_bgrow, Try.ntmps3, reduceIte, reduceCtorEq, Nat.reduceAdd, Nat.reduceEqDiff, Nat.reduceLT, Nat.reduceLeDiff, Nat.reduceSub, Nat.reduceMul, Nat.reduceBEq, Int.reduceToNat, Int.reduceLE, Int.reduceLT, Int.reducePow]; rfl
    refine AWp.cond (b := ?b4) ?c4 ?t4 ?f4
    case c4 => simp only [go_sem, kn3, filesF, aliveF, encF, rEncF, sameBF, bigV_tup, encV_tup, unf_fdrow, unbg_bgrow, Try.ntmps3, reduceIte, reduceCtorEq, Nat.reduceAdd, Nat.reduceEqDiff, Nat.reduceLT, Nat.reduceLeDiff, Nat.reduceSub, Nat.reduceMul, Nat.reduceBEq, Int.reduceToNat, Int.reduceLE, Int.reduceLT, Int.reducePow]; rfl
    case t4 =>
      intro hb1
      refine AWp.seq ?_
      refine AWp.reg (S1 := ?S5) (ob := ?o5) (S' := ?K5) tab_ok (knowL_ok kn3_ok) mixed [4] ?r5 ?h5 ?k5 ?w5
      case r5 => simp only [go_sem, kn3, filesF, aliveF, encF, rEncF, sameBF, bigV_tup, encV_tup, unf_fdrow, unbg_bgrow, Try.ntmps3, reduceIte, reduceCtorEq, Nat.reduceAdd, Nat.reduceEqDiff, Nat.reduceLT, Nat.reduceLeDiff, Nat.reduceSub, Nat.reduceMul, Nat.reduceBEq, Int.reduceToNat, Int.reduceLE, Int.reduceLT, Int.reducePow]; rfl
      case h5 => first | exact True.intro | omega | (simp only [go_sem, kn3, filesF, aliveF, encF, rEncF, sameBF, bigV_tup, encV_tup, unf_fdrow, unbg_bgrow, Try.ntmps3, reduceIte, reduceCtorEq, Nat.reduceAdd, Nat.reduceEqDiff, Nat.reduceLT, Nat.reduceLeDiff, Nat.reduceSub, Nat.reduceMul, Nat.reduceBEq, Int.reduceToNat, Int.reduceLE, Int.reduceLT, Int.reducePow]; done) | (simp only [go_sem, kn3, filesF, aliveF, encF, rEncF, sameBF, bigV_tup, encV_tup, unf_fdrow, unbg_bgrow, Try.ntmps3, reduceIte, reduceCtorEq, Nat.reduceAdd, Nat.reduceEqDiff, Nat.reduceLT, Nat.reduceLeDiff, Nat.reduceSub, Nat.reduceMul, Nat.reduceBEq, Int.reduceToNat, Int.reduceLE, Int.reduceLT, Int.reducePow]; omega)
      case k5 => simp only [go_sem, kn3, filesF, aliveF, encF, rEncF, sameBF, bigV_tup, encV_tup, unf_fdrow, unbg_bgrow, Try.ntmps3, reduceIte, reduceCtorEq, Nat.reduceAdd, Nat.reduceEqDiff, Nat.reduceLT, Nat.reduceLeDiff, Nat.reduceSub, Nat.reduceMul, Nat.reduceBEq, Int.reduceToNat, Int.reduceLE, Int.reduceLT, Int.reducePow]; rfl
      refine AWp.ret ?_
      refine ends_p (vs := ?vs1) (ob := ?ro1) (vs' := ?ws1) (ks := ?ks1) (ob2 := ?rp1) tab_ok (by simp) ?er1 ?eo1 ?ef1 ?eg1 ?en1 ?ek1 ?ev1
      case er1 => simp only [go_sem, kn3, filesF, aliveF, encF, rEncF, sameBF, bigV_tup, encV_tup, unf_fdrow, unbg_bgrow, Try.ntmps3, reduceIte, reduceCtorEq, Nat.reduceAdd, Nat.reduceEqDiff, Nat.reduceLT, Nat.reduceLeDiff, Nat.reduceSub, Nat.reduceMul, Nat.reduceBEq, Int.reduceToNat, Int.reduceLE, Int.reduceLT, Int.reducePow, Try.results3]; rfl
      case eo1 => first | exact True.intro | simp only [go_sem, kn3, filesF, aliveF, encF, rEncF, sameBF, bigV_tup, encV_tup, unf_fdrow, unbg_bgrow, Try.ntmps3, reduceIte, reduceCtorEq, Nat.reduceAdd, Nat.reduceEqDiff, Nat.reduceLT, Nat.reduceLeDiff, Nat.reduceSub, Nat.reduceMul, Nat.reduceBEq, Int.reduceToNat, Int.reduceLE, Int.reduceLT, Int.reducePow]
      case ef1 => simp only [go_sem, kn3, filesF, aliveF, encF, rEncF, sameBF, bigV_tup, encV_tup, unf_fdrow, unbg_bgrow, Try.ntmps3, reduceIte, reduceCtorEq, Nat.reduceAdd, Nat.reduceEqDiff, Nat.reduceLT, Nat.reduceLeDiff, Nat.reduceSub, Nat.reduceMul, Nat.reduceBEq, Int.reduceToNat, Int.reduceLE, Int.reduceLT, Int.reducePow]; rfl
      case eg1 => first | exact True.intro | simp only [go_sem, kn3, filesF, aliveF, encF, rEncF, sameBF, bigV_tup, encV_tup, unf_fdrow, unbg_bgrow, Try.ntmps3, reduceIte, reduceCtorEq, Nat.reduceAdd, Nat.reduceEqDiff, Nat.reduceLT, Nat.reduceLeDiff, Nat.reduceSub, Nat.reduceMul, Nat.reduceBEq, Int.reduceToNat, Int.reduceLE, Int.reduceLT, Int.reducePow]
      case en1 => simp only [go_sem, kn3, filesF, aliveF, encF, rEncF, sameBF, bigV_tup, encV_tup, unf_fdrow, unbg_bgrow, Try.ntmps3, reduceIte, reduceCtorEq, Nat.reduceAdd, Nat.reduceEqDiff, Nat.reduceLT, Nat.reduceLeDiff, Nat.reduceSub, Nat.reduceMul, Nat.reduceBEq, Int.reduceToNat, Int.reduceLE, Int.reduceLT, Int.reducePow]
      case ek1 => simp only [go_sem, kn3, filesF, aliveF, encF, rEncF, sameBF, bigV_tup, encV_tup, unf_fdrow, unbg_bgrow, Try.ntmps3, reduceIte, reduceCtorEq, Nat.reduceAdd, Nat.reduceEqDiff, Nat.reduceLT, Nat.reduceLeDiff, Nat.reduceSub, Nat.reduceMul, Nat.reduceBEq, Int.reduceToNat, Int.reduceLE, Int.reduceLT, Int.reducePow]
      case ev1 =>
        first | rfl | simp only [go_sem, kn3, filesF, aliveF, encF, rEncF, sameBF, bigV_tup, encV_tup, unf_fdrow, unbg_bgrow, Try.ntmps3, reduceIte, reduceCtorEq, Nat.reduceAdd, Nat.reduceEqDiff, Nat.reduceLT, Nat.reduceLeDiff, Nat.reduceSub, Nat.reduceMul, Nat.reduceBEq, Int.reduceToNat, Int.reduceLE, Int.reduceLT, Int.reducePow]
    case f4 =>
      intro hb1
      have hk : bigOk bl = true := by simpa [bgK] using hb1
      have hR : bgR bl = bigs bl := by rw [bgR, if_pos hk]
      have hW : bgW bl = 3 := by rw [bgW, if_pos hk]
      have hO := bigs_ok hk
      refine AWp.skip ?_
      refine AWp.seq ?_
      refine AWp.reg (S1 := ?S6) (ob := ?o6) (S' := ?K6) tab_ok (knowL_ok kn3_ok) mixed [0, 5, 7, 8] ?r6 ?h6 ?k6 ?w6
      case r6 => simp only [go_sem, kn3, filesF, aliveF, encF, rEncF, sameBF, bigV_tup, encV_tup, unf_fdrow, unbg_bgrow, Try.ntmps3, reduceIte, reduceCtorEq, Nat.reduceAdd, Nat.reduceEqDiff, Nat.reduceLT, Nat.reduceLeDiff, Nat.reduceSub, Nat.reduceMul, Nat.reduceBEq, Int.reduceToNat, Int.reduceLE, Int.reduceLT, Int.reducePow]; rfl
      case h6 =>
        exact ⟨hW, by rw [hR]; exact hO⟩
      case k6 => simp only [go_sem, kn3, filesF, aliveF, encF, rEncF, sameBF, bigV_tup, encV_tup, unf_fdrow, unbg_bgrow, Try.ntmps3, reduceIte, reduceCtorEq, Nat.reduceAdd, Nat.reduceEqDiff, Nat.reduceLT, Nat.reduceLeDiff, Nat.reduceSub, Nat.reduceMul, Nat.reduceBEq, Int.reduceToNat, Int.reduceLE, Int.reduceLT, Int.reducePow]; rfl
      refine AWp.seq ?_
      refine AWp.reg (S1 := ?S7) (ob := ?o7) (S' := ?K7) tab_ok (knowL_ok kn3_ok) mixed [7, 8, 9, 10] ?r7 ?h7 ?k7 ?w7
      case r7 => simp only [go_sem, kn3, filesF, aliveF, encF, rEncF, sameBF, bigV_tup, encV_tup, unf_fdrow, unbg_bgrow, Try.ntmps3, reduceIte, reduceCtorEq, Nat.reduceAdd, Nat.reduceEqDiff, Nat.reduceLT, Nat.reduceLeDiff, Nat.reduceSub, Nat.reduceMul, Nat.reduceBEq, Int.reduceToNat, Int.reduceLE, Int.reduceLT, Int.reducePow]; rfl
      case h7 =>
        exact ⟨hW, by rw [hR]; exact hO⟩
      case k7 => simp only [go_sem, kn3, filesF, aliveF, encF, rEncF, sameBF, bigV_tup, encV_tup, unf_fdrow, unbg_bgrow, Try.ntmps3, reduceIte, reduceCtorEq, Nat.reduceAdd, Nat.reduceEqDiff, Nat.reduceLT, Nat.reduceLeDiff, Nat.reduceSub, Nat.reduceMul, Nat.reduceBEq, Int.reduceToNat, Int.reduceLE, Int.reduceLT, Int.reducePow]; rfl
      refine AWp.seq ?_
      refine AWp.reg (S1 := ?S8) (ob := ?o8) (S' := ?K8) tab_ok (knowL_ok kn3_ok) mixed [8, 10, 11] ?r8 ?h8 ?k8 ?w8
      case r8 => simp only [go_sem, kn3, filesF, aliveF, encF, rEncF, sameBF, bigV_tup, encV_tup, unf_fdrow, unbg_bgrow, Try.ntmps3, reduceIte, reduceCtorEq, Nat.reduceAdd, Nat.reduceEqDiff, Nat.reduceLT, Nat.reduceLeDiff, Nat.reduceSub, Nat.reduceMul, Nat.reduceBEq, Int.reduceToNat, Int.reduceLE, Int.reduceLT, Int.reducePow]; rfl
      case h8 =>
        exact ⟨enR_w _ _, enR_w _ _, enR_ok _ _, enR_ok _ _, Nat.le_trans (enR_len _ _) (by omega)⟩
      case k8 => simp only [go_sem, kn3, filesF, aliveF, encF, rEncF, sameBF, bigV_tup, encV_tup, unf_fdrow, unbg_bgrow, Try.ntmps3, reduceIte, reduceCtorEq, Nat.reduceAdd, Nat.reduceEqDiff, Nat.reduceLT, Nat.reduceLeDiff, Nat.reduceSub, Nat.reduceMul, Nat.reduceBEq, Int.reduceToNat, Int.reduceLE, Int.reduceLT, Int.reducePow]; rfl
      refine AWp.seq ?_
      refine AWp.reg (S1 := ?S9) (ob := ?o9) (S' := ?K9) tab_ok (knowL_ok kn3_ok) mixed [4] ?r9 ?h9 ?k9 ?w9
      case r9 => simp only [go_sem, kn3, filesF, aliveF, encF, rEncF, sameBF, bigV_tup, encV_tup, unf_fdrow, unbg_bgrow, Try.ntmps3, reduceIte, reduceCtorEq, Nat.reduceAdd, Nat.reduceEqDiff, Nat.reduceLT, Nat.reduceLeDiff, Nat.reduceSub, Nat.reduceMul, Nat.reduceBEq, Int.reduceToNat, Int.reduceLE, Int.reduceLT, Int.reducePow]; rfl
      case h9 => first | exact True.intro | omega | (simp only [go_sem, kn3, filesF, aliveF, encF, rEncF, sameBF, bigV_tup, encV_tup, unf_fdrow, unbg_bgrow, Try.ntmps3, reduceIte, reduceCtorEq, Nat.reduceAdd, Nat.reduceEqDiff, Nat.reduceLT, Nat.reduceLeDiff, Nat.reduceSub, Nat.reduceMul, Nat.reduceBEq, Int.reduceToNat, Int.reduceLE, Int.reduceLT, Int.reducePow]; done) | (simp only [go_sem, kn3, filesF, aliveF, encF, rEncF, sameBF, bigV_tup, encV_tup, unf_fdrow, unbg_bgrow, Try.ntmps3, reduceIte, reduceCtorEq, Nat.reduceAdd, Nat.reduceEqDiff, Nat.reduceLT, Nat.reduceLeDiff, Nat.reduceSub, Nat.reduceMul, Nat.reduceBEq, Int.reduceToNat, Int.reduceLE, Int.reduceLT, Int.reducePow]; omega)
      case k9 => simp only [go_sem, kn3, filesF, aliveF, encF, rEncF, sameBF, bigV_tup, encV_tup, unf_fdrow, unbg_bgrow, Try.ntmps3, reduceIte, reduceCtorEq, Nat.reduceAdd, Nat.reduceEqDiff, Nat.reduceLT, Nat.reduceLeDiff, Nat.reduceSub, Nat.reduceMul, Nat.reduceBEq, Int.reduceToNat, Int.reduceLE, Int.reduceLT, Int.reducePow]; rfl
      refine AWp.ret ?_
      refine ends_p (vs := ?vs2) (ob := ?ro2) (vs' := ?ws2) (ks := ?ks2) (ob2 := ?rp2) tab_ok (by simp) ?er2 ?eo2 ?ef2 ?eg2 ?en2 ?ek2 ?ev2
      case er2 => simp only [go_sem, kn3, filesF, aliveF, encF, rEncF, sameBF, bigV_tup, encV_tup, unf_fdrow, unbg_bgrow, Try.ntmps3, reduceIte, reduceCtorEq, Nat.reduceAdd, Nat.reduceEqDiff, Nat.reduceLT, Nat.reduceLeDiff, Nat.reduceSub, Nat.reduceMul, Nat.reduceBEq, Int.reduceToNat, Int.reduceLE, Int.reduceLT, Int.reducePow, Try.results3]; rfl
      case eo2 => first | exact True.intro | simp only [go_sem, kn3, filesF, aliveF, encF, rEncF, sameBF, bigV_tup, encV_tup, unf_fdrow, unbg_bgrow, Try.ntmps3, reduceIte, reduceCtorEq, Nat.reduceAdd, Nat.reduceEqDiff, Nat.reduceLT, Nat.reduceLeDiff, Nat.reduceSub, Nat.reduceMul, Nat.reduceBEq, Int.reduceToNat, Int.reduceLE, Int.reduceLT, Int.reducePow]
      case ef2 => simp only [go_sem, kn3, filesF, aliveF, encF, rEncF, sameBF, bigV_tup, encV_tup, unf_fdrow, unbg_bgrow, Try.ntmps3, reduceIte, reduceCtorEq, Nat.reduceAdd, Nat.reduceEqDiff, Nat.reduceLT, Nat.reduceLeDiff, Nat.reduceSub, Nat.reduceMul, Nat.reduceBEq, Int.reduceToNat, Int.reduceLE, Int.reduceLT, Int.reducePow]; rfl
      case eg2 => first | exact True.intro | simp only [go_sem, kn3, filesF, aliveF, encF, rEncF, sameBF, bigV_tup, encV_tup, unf_fdrow, unbg_bgrow, Try.ntmps3, reduceIte, reduceCtorEq, Nat.reduceAdd, Nat.reduceEqDiff, Nat.reduceLT, Nat.reduceLeDiff, Nat.reduceSub, Nat.reduceMul, Nat.reduceBEq, Int.reduceToNat, Int.reduceLE, Int.reduceLT, Int.reducePow]
      case en2 => simp only [go_sem, kn3, filesF, aliveF, encF, rEncF, sameBF, bigV_tup, encV_tup, unf_fdrow, unbg_bgrow, Try.ntmps3, reduceIte, reduceCtorEq, Nat.reduceAdd, Nat.reduceEqDiff, Nat.reduceLT, Nat.reduceLeDiff, Nat.reduceSub, Nat.reduceMul, Nat.reduceBEq, Int.reduceToNat, Int.reduceLE, Int.reduceLT, Int.reducePow]
      case ek2 => simp only [go_sem, kn3, filesF, aliveF, encF, rEncF, sameBF, bigV_tup, encV_tup, unf_fdrow, unbg_bgrow, Try.ntmps3, reduceIte, reduceCtorEq, Nat.reduceAdd, Nat.reduceEqDiff, Nat.reduceLT, Nat.reduceLeDiff, Nat.reduceSub, Nat.reduceMul, Nat.reduceBEq, Int.reduceToNat, Int.reduceLE, Int.reduceLT, Int.reducePow]
      case ev2 =>
        first | rfl | simp only [go_sem, kn3, filesF, aliveF, encF, rEncF, sameBF, bigV_tup, encV_tup, unf_fdrow, unbg_bgrow, Try.ntmps3, reduceIte, reduceCtorEq, Nat.reduceAdd, Nat.reduceEqDiff, Nat.reduceLT, Nat.reduceLeDiff, Nat.reduceSub, Nat.reduceMul, Nat.reduceBEq, Int.reduceToNat, Int.reduceLE, Int.reduceLT, Int.reducePow]
  · cases hq

end Go.Proofs.Hg

set_option linter.unusedSimpArgs false
set_option linter.unusedVariables false
set_option maxHeartbeats 4000000
namespace Go.Proofs.Hg
open Go.RowKit
set_option maxRecDepth 100000
def numU : List UInt8 → Nat
  | [] => 0
  | c :: t => c.toNat + 256 * numU t
theorem numU_lt : ∀ s : List UInt8, numU s < 256 ^ s.length
  | [] => by simp [numU]
  | c :: t => by
    have h := numU_lt t
    have hc := c.toNat_lt
    simp only [numU, List.length_cons, Nat.pow_succ]
    omega
theorem numU_append : ∀ (s t : List UInt8), numU (s ++ t) = numU s + 256 ^ s.length * numU t
  | [], t => by simp [numU]
  | c :: s, t => by
    simp only [List.cons_append, numU, numU_append s t, List.length_cons, Nat.pow_succ, Nat.mul_add]
    rw [Nat.mul_comm (256 ^ s.length) 256, Nat.mul_assoc]
    omega
theorem numU_take {s : List UInt8} {i : Nat} (h : i < s.length) : numU (s.take (i + 1)) = numU (s.take i) + 256 ^ i * (s.getD i 0).toNat := by
  rw [take_one (by omega) 0, numU_append]
  simp only [List.length_take, Nat.min_eq_left (Nat.le_of_lt h), numU, Nat.mul_zero, Nat.add_zero]
theorem numU_drop {s : List UInt8} {i : Nat} (h : i < s.length) : numU (s.drop i) = (s.getD i 0).toNat + 256 * numU (s.drop (i + 1)) := by
  rw [List.drop_eq_getElem_cons h, numU, getD_lt h]
theorem numU_max {s : List UInt8} (h : s.length ≤ 8) : numU s ≤ 18446744073709551615 := by
  have h1 := numU_lt s
  have h2 : 256 ^ s.length ≤ 256 ^ 8 := Nat.pow_le_pow_right (by omega) h
  have e : (256 : Nat) ^ 8 = 18446744073709551616 := by decide
  omega
theorem or_u64 (x y : Nat) (hx : x < 2 ^ 64) (hy : y < 2 ^ 64) : bitsV .or .u64 (x : Int) (y : Int) = ((x ||| y : Nat) : Int) := by
  unfold bitsV
  have h1 : BitVec.ofInt IntKind.u64.bits (x : Int) = BitVec.ofNat 64 x := by rw [BitVec.ofInt_natCast]; rfl
  have h2 : BitVec.ofInt IntKind.u64.bits (y : Int) = BitVec.ofNat 64 y := by rw [BitVec.ofInt_natCast]; rfl
  simp only [h1, h2]
  have h3 : (BitVec.ofNat 64 x ||| BitVec.ofNat 64 y).toNat = x ||| y := by
    rw [BitVec.toNat_or, BitVec.toNat_ofNat, BitVec.toNat_ofNat, Nat.mod_eq_of_lt hx, Nat.mod_eq_of_lt hy]
  have h4 : x ||| y < 2 ^ 64 := Nat.or_lt_two_pow hx hy
  show IntKind.u64.wrap ((BitVec.ofNat 64 x ||| BitVec.ofNat 64 y).toNat : Int) = _
  rw [h3, IntKind.wrap_u64]
  omega
theorem num_or {s : List UInt8} {i : Nat} (h : i < s.length) (h8 : s.length ≤ 8) : bitsV .or .u64 (numU (s.take i) : Int) (((s.getD i 0).toNat : Int) * 2 ^ (8 * i)) = (numU (s.take (i + 1)) : Int) := by
  have hl := numU_lt (s.take i)
  rw [List.length_take, Nat.min_eq_left (Nat.le_of_lt h)] at hl
  have hc := (s.getD i 0).toNat_lt
  have e1 : (256 : Nat) ^ i = 2 ^ (8 * i) := by rw [show (256 : Nat) = 2 ^ 8 from rfl, ← Nat.pow_mul]
  rw [e1] at hl
  have e2 : ((s.getD i 0).toNat : Int) * 2 ^ (8 * i) = (((s.getD i 0).toNat * 2 ^ (8 * i) : Nat) : Int) := by push_cast; rfl
  have hm : (s.getD i 0).toNat * 2 ^ (8 * i) < 2 ^ 64 := by
    have a : (s.getD i 0).toNat * 2 ^ (8 * i) < 2 ^ 8 * 2 ^ (8 * i) := Nat.mul_lt_mul_of_pos_right hc (Nat.two_pow_pos _)
    rw [← Nat.pow_add] at a
    exact Nat.lt_of_lt_of_le a (Nat.pow_le_pow_right (by omega) (by omega))
  have ht : numU (s.take i) < 2 ^ 64 := Nat.lt_of_lt_of_le hl (Nat.pow_le_pow_right (by omega) (by omega))
  rw [e2, or_u64 _ _ ht hm, numU_take h, e1, Nat.or_comm, ← Nat.shiftLeft_eq, ← Nat.shiftLeft_add_eq_or_of_lt hl, Nat.shiftLeft_eq, Nat.mul_comm]
  omega
theorem num_wrap {i : Nat} (h : i < 8) (c : UInt8) : IntKind.u64.wrap (IntKind.u64.wrap (c.toNat : Int) * 2 ^ (8 * i)) = (c.toNat : Int) * 2 ^ (8 * i) := by
  have hc := c.toNat_lt
  have e0 : IntKind.u64.wrap (c.toNat : Int) = (c.toNat : Int) := by rw [IntKind.wrap_u64]; omega
  have e2 : (c.toNat : Int) * 2 ^ (8 * i) = ((c.toNat * 2 ^ (8 * i) : Nat) : Int) := by push_cast; rfl
  have hm : c.toNat * 2 ^ (8 * i) < 2 ^ 64 := by
    have a : c.toNat * 2 ^ (8 * i) < 2 ^ 8 * 2 ^ (8 * i) := Nat.mul_lt_mul_of_pos_right hc (Nat.two_pow_pos _)
    rw [← Nat.pow_add] at a
    exact Nat.lt_of_lt_of_le a (Nat.pow_le_pow_right (by omega) (by omega))
  rw [e0, e2, IntKind.wrap_u64]
  omega
def numF : List AV → Option (AVal × Prop)
  | [.s (.d (.slice z e es))] => some (.one (dv (.int .u64 (numU (unb es) : Int))), e = 1 ∧ es = brow (unb es) ∧ es.length ≤ 8)
  | _ => none
theorem numF_ok : ContOk Try.prog 28 (pureK numF) := by
  refine pure_ok (nargs := 1) Try.func28 rfl (by kernel_rfl) (Nat.le_of_ble_eq_true (by kernel_rfl)) ?_
  intro args q hq hob
  unfold numF at hq
  split at hq
  · rename_i z e es
    injection hq with hq
    subst hq
    obtain ⟨h1, h2, h3⟩ : e = 1 ∧ es = brow (unb es) ∧ es.length ≤ 8 := hob
    generalize unb es = s at *
    subst h1 h2
    rw [brow_length] at h3
    refine ⟨rfl, by simp [AV.ids, Sc.ids], by simp [AVal.ids, AV.ids, Sc.ids], by simp, ?_⟩
    refine AWp.seq ?_
    refine AWp.reg (S1 := ?S1) (ob := ?o1) (S' := ?K1) tab_ok (noKnow _) mixed [0] ?r1 ?h1 ?k1 ?w1
    case r1 => simp only [go_sem, Try.ntmps28, reduceIte, reduceCtorEq, Nat.reduceAdd, Nat.reduceEqDiff, Nat.reduceLT, Nat.reduceLeDiff, Nat.reduceSub, Nat.reduceMul, Nat.reduceBEq, Int.reduceToNat, Int.reduceLE, Int.reduceLT, Int.reducePow]; rfl
    case h1 => first | exact True.intro | omega | (simp only [go_sem, Try.ntmps28, reduceIte, reduceCtorEq, Nat.reduceAdd, Nat.reduceEqDiff, Nat.reduceLT, Nat.reduceLeDiff, Nat.reduceSub, Nat.reduceMul, Nat.reduceBEq, Int.reduceToNat, Int.reduceLE, Int.reduceLT, Int.reducePow]; done) | (simp only [go_sem, Try.ntmps28, reduceIte, reduceCtorEq, Nat.reduceAdd, Nat.reduceEqDiff, Nat.reduceLT, Nat.reduceLeDiff, Nat.reduceSub, Nat.reduceMul, Nat.reduceBEq, Int.reduceToNat, Int.reduceLE, Int.reduceLT, Int.reducePow]; omega)
    case k1 => simp only [go_sem, Try.ntmps28, reduceIte, reduceCtorEq, Nat.reduceAdd, Nat.reduceEqDiff, Nat.reduceLT, Nat.reduceLeDiff, Nat.reduceSub, Nat.reduceMul, Nat.reduceBEq, Int.reduceToNat, Int.reduceLE, Int.reduceLT, Int.reducePow]; rfl
    refine AWp.seq ?_
    refine AWp.reg (S1 := ?S2) (ob := ?o2) (S' := ?K2) tab_ok (noKnow _) mixed [0, 3] ?r2 ?h2 ?k2 ?w2
    case r2 => simp only [go_sem, Try.ntmps28, reduceIte, reduceCtorEq, Nat.reduceAdd, Nat.reduceEqDiff, Nat.reduceLT, Nat.reduceLeDiff, Nat.reduceSub, Nat.reduceMul, Nat.reduceBEq, Int.reduceToNat, Int.reduceLE, Int.reduceLT, Int.reducePow]; rfl
    case h2 => first | exact True.intro | omega | (simp only [go_sem, Try.ntmps28, reduceIte, reduceCtorEq, Nat.reduceAdd, Nat.reduceEqDiff, Nat.reduceLT, Nat.reduceLeDiff, Nat.reduceSub, Nat.reduceMul, Nat.reduceBEq, Int.reduceToNat, Int.reduceLE, Int.reduceLT, Int.reducePow]; done) | (simp only [go_sem, Try.ntmps28, reduceIte, reduceCtorEq, Nat.reduceAdd, Nat.reduceEqDiff, Nat.reduceLT, Nat.reduceLeDiff, Nat.reduceSub, Nat.reduceMul, Nat.reduceBEq, Int.reduceToNat, Int.reduceLE, Int.reduceLT, Int.reducePow]; omega)
    case k2 => simp only [go_sem, Try.ntmps28, reduceIte, reduceCtorEq, Nat.reduceAdd, Nat.reduceEqDiff, Nat.reduceLT, Nat.reduceLeDiff, Nat.reduceSub, Nat.reduceMul, Nat.reduceBEq, Int.reduceToNat, Int.reduceLE, Int.reduceLT, Int.reducePow]; rfl
    refine AWp.seq ?_
    refine AWp.seq ?_
    refine AWp.reg (S1 := ?S3) (ob := ?o3) (S' := ?K3) tab_ok (noKnow _) mixed [3, 6, 7, 8] ?r3 ?h3 ?k3 ?w3
    case r3 => simp only [go_sem, Try.ntmps28, reduceIte, reduceCtorEq, Nat.reduceAdd, Nat.reduceEqDiff, Nat.reduceLT, Nat.reduceLeDiff, Nat.reduceSub, Nat.reduceMul, Nat.reduceBEq, Int.reduceToNat, Int.reduceLE, Int.reduceLT, Int.reducePow]; rfl
    case h3 => first | exact True.intro | omega | (simp only [go_sem, Try.ntmps28, reduceIte, reduceCtorEq, Nat.reduceAdd, Nat.reduceEqDiff, Nat.reduceLT, Nat.reduceLeDiff, Nat.reduceSub, Nat.reduceMul, Nat.reduceBEq, Int.reduceToNat, Int.reduceLE, Int.reduceLT, Int.reducePow]; done) | (simp only [go_sem, Try.ntmps28, reduceIte, reduceCtorEq, Nat.reduceAdd, Nat.reduceEqDiff, Nat.reduceLT, Nat.reduceLeDiff, Nat.reduceSub, Nat.reduceMul, Nat.reduceBEq, Int.reduceToNat, Int.reduceLE, Int.reduceLT, Int.reducePow]; omega)
    case k3 => simp only [go_sem, Try.ntmps28, reduceIte, reduceCtorEq, Nat.reduceAdd, Nat.reduceEqDiff, Nat.reduceLT, Nat.reduceLeDiff, Nat.reduceSub, Nat.reduceMul, Nat.reduceBEq, Int.reduceToNat, Int.reduceLE, Int.reduceLT, Int.reducePow]; rfl
    refine AWp.block ?_
    refine AWp.loop (fun k S => ∃ i : Nat, i ≤ s.length ∧ k = s.length - i ∧ S = ⟨[(3, .one (dv (.int .u64 (numU (s.take i) : Int)))), (6, .one (.s (.d (.slice z 1 (brow s))))), (7, .one (dv (.int .i64 (s.length : Int)))), (8, .one (dv (.int .i64 ((i : Nat) : Int))))], [], 0⟩) s.length ?i1 ?n1
    case i1 =>
      exact ⟨0, by omega, rfl, rfl⟩
    case n1 =>
      rintro k S ⟨i, hi0, rfl, rfl⟩
      refine AWp.seq ?_
      refine AWp.reg (S1 := ?S4) (ob := ?o4) (S' := ?K4) tab_ok (noKnow _) mixed [3, 6, 7, 8, 9] ?r4 ?h4 ?k4 ?w4
      case r4 => simp only [go_sem, Try.ntmps28, reduceIte, reduceCtorEq, Nat.reduceAdd, Nat.reduceEqDiff, Nat.reduceLT, Nat.reduceLeDiff, Nat.reduceSub, Nat.reduceMul, Nat.reduceBEq, Int.reduceToNat, Int.reduceLE, Int.reduceLT, Int.reducePow]; rfl
      case h4 => first | exact True.intro | omega | (simp only [go_sem, Try.ntmps28, reduceIte, reduceCtorEq, Nat.reduceAdd, Nat.reduceEqDiff, Nat.reduceLT, Nat.reduceLeDiff, Nat.reduceSub, Nat.reduceMul, Nat.reduceBEq, Int.reduceToNat, Int.reduceLE, Int.reduceLT, Int.reducePow]; done) | (simp only [go_sem, Try.ntmps28, reduceIte, reduceCtorEq, Nat.reduceAdd, Nat.reduceEqDiff, Nat.reduceLT, Nat.reduceLeDiff, Nat.reduceSub, Nat.reduceMul, Nat.reduceBEq, Int.reduceToNat, Int.reduceLE, Int.reduceLT, Int.reducePow]; omega)
      case k4 => simp only [go_sem, Try.ntmps28, reduceIte, reduceCtorEq, Nat.reduceAdd, Nat.reduceEqDiff, Nat.reduceLT, Nat.reduceLeDiff, Nat.reduceSub, Nat.reduceMul, Nat.reduceBEq, Int.reduceToNat, Int.reduceLE, Int.reduceLT, Int.reducePow]; rfl
      refine AWp.seq ?_
      refine AWp.cond (b := ?b5) ?c5 ?t5 ?f5
      case c5 => simp only [go_sem, Try.ntmps28, reduceIte, reduceCtorEq, Nat.reduceAdd, Nat.reduceEqDiff, Nat.reduceLT, Nat.reduceLeDiff, Nat.reduceSub, Nat.reduceMul, Nat.reduceBEq, Int.reduceToNat, Int.reduceLE, Int.reduceLT, Int.reducePow]; rfl
      case t5 =>
        intro hb1
        have hi : i < s.length := by simp at hb1; omega
        have hsh := low_sh2 (i := i) (by omega)
        have hor := num_or hi h3
        have hwr := num_wrap (i := i) (by omega) (s.getD i 0)
        refine AWp.skip ?_
        refine AWp.seq ?_
        refine AWp.block ?_
        refine AWp.seq ?_
        refine AWp.reg (S1 := ?S6) (ob := ?o6) (S' := ?K6) tab_ok (noKnow _) mixed [3, 4, 5, 6, 7, 8] ?r6 ?h6 ?k6 ?w6
        case r6 => simp only [go_sem, Try.ntmps28, reduceIte, reduceCtorEq, Nat.reduceAdd, Nat.reduceEqDiff, Nat.reduceLT, Nat.reduceLeDiff, Nat.reduceSub, Nat.reduceMul, Nat.reduceBEq, Int.reduceToNat, Int.reduceLE, Int.reduceLT, Int.reducePow]; rfl
        case h6 => first | exact True.intro | omega | (simp only [go_sem, Try.ntmps28, reduceIte, reduceCtorEq, Nat.reduceAdd, Nat.reduceEqDiff, Nat.reduceLT, Nat.reduceLeDiff, Nat.reduceSub, Nat.reduceMul, Nat.reduceBEq, Int.reduceToNat, Int.reduceLE, Int.reduceLT, Int.reducePow]; done) | (simp only [go_sem, Try.ntmps28, reduceIte, reduceCtorEq, Nat.reduceAdd, Nat.reduceEqDiff, Nat.reduceLT, Nat.reduceLeDiff, Nat.reduceSub, Nat.reduceMul, Nat.reduceBEq, Int.reduceToNat, Int.reduceLE, Int.reduceLT, Int.reducePow]; omega)
        case k6 => simp only [go_sem, Try.ntmps28, reduceIte, reduceCtorEq, Nat.reduceAdd, Nat.reduceEqDiff, Nat.reduceLT, Nat.reduceLeDiff, Nat.reduceSub, Nat.reduceMul, Nat.reduceBEq, Int.reduceToNat, Int.reduceLE, Int.reduceLT, Int.reducePow]; rfl
        refine AWp.reg (S1 := ?S7) (ob := ?o7) (S' := ?K7) tab_ok (noKnow _) mixed [3, 6, 7, 8] ?r7 ?h7 ?k7 ?w7
        case r7 => simp only [go_sem, Try.ntmps28, reduceIte, reduceCtorEq, Nat.reduceAdd, Nat.reduceEqDiff, Nat.reduceLT, Nat.reduceLeDiff, Nat.reduceSub, Nat.reduceMul, Nat.reduceBEq, Int.reduceToNat, Int.reduceLE, Int.reduceLT, Int.reducePow, hsh, hwr, hor]; rfl
        case h7 => first | exact True.intro | omega | (simp only [go_sem, Try.ntmps28, reduceIte, reduceCtorEq, Nat.reduceAdd, Nat.reduceEqDiff, Nat.reduceLT, Nat.reduceLeDiff, Nat.reduceSub, Nat.reduceMul, Nat.reduceBEq, Int.reduceToNat, Int.reduceLE, Int.reduceLT, Int.reducePow]; done) | (simp only [go_sem, Try.ntmps28, reduceIte, reduceCtorEq, Nat.reduceAdd, Nat.reduceEqDiff, Nat.reduceLT, Nat.reduceLeDiff, Nat.reduceSub, Nat.reduceMul, Nat.reduceBEq, Int.reduceToNat, Int.reduceLE, Int.reduceLT, Int.reducePow]; omega)
        case k7 => simp only [go_sem, Try.ntmps28, reduceIte, reduceCtorEq, Nat.reduceAdd, Nat.reduceEqDiff, Nat.reduceLT, Nat.reduceLeDiff, Nat.reduceSub, Nat.reduceMul, Nat.reduceBEq, Int.reduceToNat, Int.reduceLE, Int.reduceLT, Int.reducePow]; rfl
        refine AWp.reg (S1 := ?S8) (ob := ?o8) (S' := ?K8) tab_ok (noKnow _) mixed [3, 6, 7, 8] ?r8 ?h8 ?k8 ?w8
        case r8 => simp only [go_sem, Try.ntmps28, reduceIte, reduceCtorEq, Nat.reduceAdd, Nat.reduceEqDiff, Nat.reduceLT, Nat.reduceLeDiff, Nat.reduceSub, Nat.reduceMul, Nat.reduceBEq, Int.reduceToNat, Int.reduceLE, Int.reduceLT, Int.reducePow]; rfl
        case h8 => first | exact True.intro | omega | (simp only [go_sem, Try.ntmps28, reduceIte, reduceCtorEq, Nat.reduceAdd, Nat.reduceEqDiff, Nat.reduceLT, Nat.reduceLeDiff, Nat.reduceSub, Nat.reduceMul, Nat.reduceBEq, Int.reduceToNat, Int.reduceLE, Int.reduceLT, Int.reducePow]; done) | (simp only [go_sem, Try.ntmps28, reduceIte, reduceCtorEq, Nat.reduceAdd, Nat.reduceEqDiff, Nat.reduceLT, Nat.reduceLeDiff, Nat.reduceSub, Nat.reduceMul, Nat.reduceBEq, Int.reduceToNat, Int.reduceLE, Int.reduceLT, Int.reducePow]; omega)
        case k8 => simp only [go_sem, Try.ntmps28, reduceIte, reduceCtorEq, Nat.reduceAdd, Nat.reduceEqDiff, Nat.reduceLT, Nat.reduceLeDiff, Nat.reduceSub, Nat.reduceMul, Nat.reduceBEq, Int.reduceToNat, Int.reduceLE, Int.reduceLT, Int.reducePow]; rfl
        exact ⟨s.length - (i + 1), _, by omega, Conv.refl _, i + 1, by omega, rfl, rfl⟩
      case f5 =>
        intro hb1
        have hi : i = s.length := by simp at hb1; omega
        subst hi
        refine AWp.exit ?_
        refine thenA_exit ?_
        refine thenA_exit ?_
        refine inB_eq ?_
        refine AWp.seq ?_
        refine AWp.reg (S1 := ?S9) (ob := ?o9) (S' := ?K9) tab_ok (noKnow _) mixed [2] ?r9 ?h9 ?k9 ?w9
        case r9 => simp only [go_sem, Try.ntmps28, reduceIte, reduceCtorEq, Nat.reduceAdd, Nat.reduceEqDiff, Nat.reduceLT, Nat.reduceLeDiff, Nat.reduceSub, Nat.reduceMul, Nat.reduceBEq, Int.reduceToNat, Int.reduceLE, Int.reduceLT, Int.reducePow]; rfl
        case h9 => first | exact True.intro | omega | (simp only [go_sem, Try.ntmps28, reduceIte, reduceCtorEq, Nat.reduceAdd, Nat.reduceEqDiff, Nat.reduceLT, Nat.reduceLeDiff, Nat.reduceSub, Nat.reduceMul, Nat.reduceBEq, Int.reduceToNat, Int.reduceLE, Int.reduceLT, Int.reducePow]; done) | (simp only [go_sem, Try.ntmps28, reduceIte, reduceCtorEq, Nat.reduceAdd, Nat.reduceEqDiff, Nat.reduceLT, Nat.reduceLeDiff, Nat.reduceSub, Nat.reduceMul, Nat.reduceBEq, Int.reduceToNat, Int.reduceLE, Int.reduceLT, Int.reducePow]; omega)
        case k9 => simp only [go_sem, Try.ntmps28, reduceIte, reduceCtorEq, Nat.reduceAdd, Nat.reduceEqDiff, Nat.reduceLT, Nat.reduceLeDiff, Nat.reduceSub, Nat.reduceMul, Nat.reduceBEq, Int.reduceToNat, Int.reduceLE, Int.reduceLT, Int.reducePow]; rfl
        refine AWp.ret ?_
        refine ends_p (vs := ?vs1) (ob := ?ro1) (vs' := ?ws1) (ks := ?ks1) (ob2 := ?rp1) tab_ok (by simp) ?er1 ?eo1 ?ef1 ?eg1 ?en1 ?ek1 ?ev1
        case er1 => simp only [go_sem, Try.ntmps28, reduceIte, reduceCtorEq, Nat.reduceAdd, Nat.reduceEqDiff, Nat.reduceLT, Nat.reduceLeDiff, Nat.reduceSub, Nat.reduceMul, Nat.reduceBEq, Int.reduceToNat, Int.reduceLE, Int.reduceLT, Int.reducePow, Try.results28]; rfl
        case eo1 => first | exact True.intro | simp only [go_sem, Try.ntmps28, reduceIte, reduceCtorEq, Nat.reduceAdd, Nat.reduceEqDiff, Nat.reduceLT, Nat.reduceLeDiff, Nat.reduceSub, Nat.reduceMul, Nat.reduceBEq, Int.reduceToNat, Int.reduceLE, Int.reduceLT, Int.reducePow]
        case ef1 => simp only [go_sem, Try.ntmps28, reduceIte, reduceCtorEq, Nat.reduceAdd, Nat.reduceEqDiff, Nat.reduceLT, Nat.reduceLeDiff, Nat.reduceSub, Nat.reduceMul, Nat.reduceBEq, Int.reduceToNat, Int.reduceLE, Int.reduceLT, Int.reducePow]; rfl
        case eg1 => first | exact True.intro | simp only [go_sem, Try.ntmps28, reduceIte, reduceCtorEq, Nat.reduceAdd, Nat.reduceEqDiff, Nat.reduceLT, Nat.reduceLeDiff, Nat.reduceSub, Nat.reduceMul, Nat.reduceBEq, Int.reduceToNat, Int.reduceLE, Int.reduceLT, Int.reducePow]
        case en1 => simp only [go_sem, Try.ntmps28, reduceIte, reduceCtorEq, Nat.reduceAdd, Nat.reduceEqDiff, Nat.reduceLT, Nat.reduceLeDiff, Nat.reduceSub, Nat.reduceMul, Nat.reduceBEq, Int.reduceToNat, Int.reduceLE, Int.reduceLT, Int.reducePow]
        case ek1 => simp only [go_sem, Try.ntmps28, reduceIte, reduceCtorEq, Nat.reduceAdd, Nat.reduceEqDiff, Nat.reduceLT, Nat.reduceLeDiff, Nat.reduceSub, Nat.reduceMul, Nat.reduceBEq, Int.reduceToNat, Int.reduceLE, Int.reduceLT, Int.reducePow]
        case ev1 =>
          rfl
  · cases hq

def numI (s : List UInt8) : Int := IntKind.i64.wrap (numU s : Int)
theorem num_add {s : List UInt8} {i : Nat} (h : i < s.length) (h8 : s.length ≤ 8) : IntKind.u64.wrap (IntKind.u64.wrap (256 * (numU (s.drop (i + 1)) : Int)) + IntKind.u64.wrap ((s.getD i 0).toNat : Int)) = (numU (s.drop i) : Int) := by
  have h1 := numU_drop h
  have h2 := numU_max (s := s.drop i) (by simp; omega)
  have hc := (s.getD i 0).toNat_lt
  simp only [IntKind.wrap_u64]
  omega
def rNumF : List AV → Option (AVal × Prop)
  | [.s (.d (.slice z e es))] => some (.one (dv (.int .i64 (numI (unb es)))), e = 1 ∧ es = brow (unb es) ∧ es.length ≤ 8)
  | _ => none
theorem rNumF_ok : ContOk Try.prog 31 (pureK rNumF) := by
  refine pure_ok (nargs := 1) Try.func31 rfl (by kernel_rfl) (Nat.le_of_ble_eq_true (by kernel_rfl)) ?_
  intro args q hq hob
  unfold rNumF at hq
  split at hq
  · rename_i z e es
    injection hq with hq
    subst hq
    obtain ⟨h1, h2, h3⟩ : e = 1 ∧ es = brow (unb es) ∧ es.length ≤ 8 := hob
    generalize unb es = s at *
    subst h1 h2
    rw [brow_length] at h3
    refine ⟨rfl, by simp [AV.ids, Sc.ids], by simp [AVal.ids, AV.ids, Sc.ids], by simp, ?_⟩
    refine AWp.seq ?_
    refine AWp.reg (S1 := ?S1) (ob := ?o1) (S' := ?K1) tab_ok (noKnow _) mixed [0] ?r1 ?h1 ?k1 ?w1
    case r1 => simp only [go_sem, Try.ntmps31, reduceIte, reduceCtorEq, Nat.reduceAdd, Nat.reduceEqDiff, Nat.reduceLT, Nat.reduceLeDiff, Nat.reduceSub, Nat.reduceMul, Nat.reduceBEq, Int.reduceToNat, Int.reduceLE, Int.reduceLT, Int.reducePow]; rfl
    case h1 => first | exact True.intro | omega | (simp only [go_sem, Try.ntmps31, reduceIte, reduceCtorEq, Nat.reduceAdd, Nat.reduceEqDiff, Nat.reduceLT, Nat.reduceLeDiff, Nat.reduceSub, Nat.reduceMul, Nat.reduceBEq, Int.reduceToNat, Int.reduceLE, Int.reduceLT, Int.reducePow]; done) | (simp only [go_sem, Try.ntmps31, reduceIte, reduceCtorEq, Nat.reduceAdd, Nat.reduceEqDiff, Nat.reduceLT, Nat.reduceLeDiff, Nat.reduceSub, Nat.reduceMul, Nat.reduceBEq, Int.reduceToNat, Int.reduceLE, Int.reduceLT, Int.reducePow]; omega)
    case k1 => simp only [go_sem, Try.ntmps31, reduceIte, reduceCtorEq, Nat.reduceAdd, Nat.reduceEqDiff, Nat.reduceLT, Nat.reduceLeDiff, Nat.reduceSub, Nat.reduceMul, Nat.reduceBEq, Int.reduceToNat, Int.reduceLE, Int.reduceLT, Int.reducePow]; rfl
    refine AWp.seq ?_
    refine AWp.reg (S1 := ?S2) (ob := ?o2) (S' := ?K2) tab_ok (noKnow _) mixed [0, 3] ?r2 ?h2 ?k2 ?w2
    case r2 => simp only [go_sem, Try.ntmps31, reduceIte, reduceCtorEq, Nat.reduceAdd, Nat.reduceEqDiff, Nat.reduceLT, Nat.reduceLeDiff, Nat.reduceSub, Nat.reduceMul, Nat.reduceBEq, Int.reduceToNat, Int.reduceLE, Int.reduceLT, Int.reducePow]; rfl
    case h2 => first | exact True.intro | omega | (simp only [go_sem, Try.ntmps31, reduceIte, reduceCtorEq, Nat.reduceAdd, Nat.reduceEqDiff, Nat.reduceLT, Nat.reduceLeDiff, Nat.reduceSub, Nat.reduceMul, Nat.reduceBEq, Int.reduceToNat, Int.reduceLE, Int.reduceLT, Int.reducePow]; done) | (simp only [go_sem, Try.ntmps31, reduceIte, reduceCtorEq, Nat.reduceAdd, Nat.reduceEqDiff, Nat.reduceLT, Nat.reduceLeDiff, Nat.reduceSub, Nat.reduceMul, Nat.reduceBEq, Int.reduceToNat, Int.reduceLE, Int.reduceLT, Int.reducePow]; omega)
    case k2 => simp only [go_sem, Try.ntmps31, reduceIte, reduceCtorEq, Nat.reduceAdd, Nat.reduceEqDiff, Nat.reduceLT, Nat.reduceLeDiff, Nat.reduceSub, Nat.reduceMul, Nat.reduceBEq, Int.reduceToNat, Int.reduceLE, Int.reduceLT, Int.reducePow]; rfl
    refine AWp.seq ?_
    refine AWp.seq ?_
    refine AWp.reg (S1 := ?S3) (ob := ?o3) (S' := ?K3) tab_ok (noKnow _) mixed [0, 3, 4] ?r3 ?h3 ?k3 ?w3
    case r3 => simp only [go_sem, Try.ntmps31, reduceIte, reduceCtorEq, Nat.reduceAdd, Nat.reduceEqDiff, Nat.reduceLT, Nat.reduceLeDiff, Nat.reduceSub, Nat.reduceMul, Nat.reduceBEq, Int.reduceToNat, Int.reduceLE, Int.reduceLT, Int.reducePow]; rfl
    case h3 => first | exact True.intro | omega | (simp only [go_sem, Try.ntmps31, reduceIte, reduceCtorEq, Nat.reduceAdd, Nat.reduceEqDiff, Nat.reduceLT, Nat.reduceLeDiff, Nat.reduceSub, Nat.reduceMul, Nat.reduceBEq, Int.reduceToNat, Int.reduceLE, Int.reduceLT, Int.reducePow]; done) | (simp only [go_sem, Try.ntmps31, reduceIte, reduceCtorEq, Nat.reduceAdd, Nat.reduceEqDiff, Nat.reduceLT, Nat.reduceLeDiff, Nat.reduceSub, Nat.reduceMul, Nat.reduceBEq, Int.reduceToNat, Int.reduceLE, Int.reduceLT, Int.reducePow]; omega)
    case k3 => simp only [go_sem, Try.ntmps31, reduceIte, reduceCtorEq, Nat.reduceAdd, Nat.reduceEqDiff, Nat.reduceLT, Nat.reduceLeDiff, Nat.reduceSub, Nat.reduceMul, Nat.reduceBEq, Int.reduceToNat, Int.reduceLE, Int.reduceLT, Int.reducePow]; rfl
    refine AWp.block ?_
    refine AWp.loop (fun k S => ∃ i : Nat, i ≤ s.length ∧ k = i ∧ S = ⟨[(0, .one (.s (.d (.slice z 1 (brow s))))), (3, .one (dv (.int .u64 (numU (s.drop i) : Int)))), (4, .one (dv (.int .i64 (((i : Nat) : Int) - 1))))], [], 0⟩) s.length ?i1 ?n1
    case i1 =>
      exact ⟨s.length, by omega, rfl, by simp [numU]⟩
    case n1 =>
      rintro k S ⟨i, hi0, rfl, rfl⟩
      refine AWp.seq ?_
      refine AWp.seq ?_
      refine AWp.reg (S1 := ?S4) (ob := ?o4) (S' := ?K4) tab_ok (noKnow _) mixed [0, 3, 4, 9] ?r4 ?h4 ?k4 ?w4
      case r4 => simp only [go_sem, Try.ntmps31, reduceIte, reduceCtorEq, Nat.reduceAdd, Nat.reduceEqDiff, Nat.reduceLT, Nat.reduceLeDiff, Nat.reduceSub, Nat.reduceMul, Nat.reduceBEq, Int.reduceToNat, Int.reduceLE, Int.reduceLT, Int.reducePow]; rfl
      case h4 => first | exact True.intro | omega | (simp only [go_sem, Try.ntmps31, reduceIte, reduceCtorEq, Nat.reduceAdd, Nat.reduceEqDiff, Nat.reduceLT, Nat.reduceLeDiff, Nat.reduceSub, Nat.reduceMul, Nat.reduceBEq, Int.reduceToNat, Int.reduceLE, Int.reduceLT, Int.reducePow]; done) | (simp only [go_sem, Try.ntmps31, reduceIte, reduceCtorEq, Nat.reduceAdd, Nat.reduceEqDiff, Nat.reduceLT, Nat.reduceLeDiff, Nat.reduceSub, Nat.reduceMul, Nat.reduceBEq, Int.reduceToNat, Int.reduceLE, Int.reduceLT, Int.reducePow]; omega)
      case k4 => simp only [go_sem, Try.ntmps31, reduceIte, reduceCtorEq, Nat.reduceAdd, Nat.reduceEqDiff, Nat.reduceLT, Nat.reduceLeDiff, Nat.reduceSub, Nat.reduceMul, Nat.reduceBEq, Int.reduceToNat, Int.reduceLE, Int.reduceLT, Int.reducePow]; rfl
      refine AWp.cond (b := ?b5) ?c5 ?t5 ?f5
      case c5 => simp only [go_sem, Try.ntmps31, reduceIte, reduceCtorEq, Nat.reduceAdd, Nat.reduceEqDiff, Nat.reduceLT, Nat.reduceLeDiff, Nat.reduceSub, Nat.reduceMul, Nat.reduceBEq, Int.reduceToNat, Int.reduceLE, Int.reduceLT, Int.reducePow]; rfl
      case t5 =>
        intro hb1
        obtain ⟨i, rfl⟩ : ∃ i, k = i + 1 := ⟨k - 1, by simp at hb1; omega⟩
        have hi1 : (((i + 1 : Nat) : Int) - 1).toNat = i := by omega
        have hadd := num_add (i := i) hi0 h3
        refine AWp.skip ?_
        refine AWp.seq ?_
        refine AWp.block ?_
        refine AWp.reg (S1 := ?S6) (ob := ?o6) (S' := ?K6) tab_ok (noKnow _) mixed [0, 3, 4] ?r6 ?h6 ?k6 ?w6
        case r6 => simp only [go_sem, Try.ntmps31, reduceIte, reduceCtorEq, Nat.reduceAdd, Nat.reduceEqDiff, Nat.reduceLT, Nat.reduceLeDiff, Nat.reduceSub, Nat.reduceMul, Nat.reduceBEq, Int.reduceToNat, Int.reduceLE, Int.reduceLT, Int.reducePow, hi1, hadd]; rfl
        case h6 =>
          exact ⟨by omega, by omega⟩
        case k6 => simp only [go_sem, Try.ntmps31, reduceIte, reduceCtorEq, Nat.reduceAdd, Nat.reduceEqDiff, Nat.reduceLT, Nat.reduceLeDiff, Nat.reduceSub, Nat.reduceMul, Nat.reduceBEq, Int.reduceToNat, Int.reduceLE, Int.reduceLT, Int.reducePow]; rfl
        refine AWp.reg (S1 := ?S7) (ob := ?o7) (S' := ?K7) tab_ok (noKnow _) mixed [0, 3, 4] ?r7 ?h7 ?k7 ?w7
        case r7 => simp only [go_sem, Try.ntmps31, reduceIte, reduceCtorEq, Nat.reduceAdd, Nat.reduceEqDiff, Nat.reduceLT, Nat.reduceLeDiff, Nat.reduceSub, Nat.reduceMul, Nat.reduceBEq, Int.reduceToNat, Int.reduceLE, Int.reduceLT, Int.reducePow]; rfl
        case h7 => first | exact True.intro | omega | (simp only [go_sem, Try.ntmps31, reduceIte, reduceCtorEq, Nat.reduceAdd, Nat.reduceEqDiff, Nat.reduceLT, Nat.reduceLeDiff, Nat.reduceSub, Nat.reduceMul, Nat.reduceBEq, Int.reduceToNat, Int.reduceLE, Int.reduceLT, Int.reducePow]; done) | (simp only [go_sem, Try.ntmps31, reduceIte, reduceCtorEq, Nat.reduceAdd, Nat.reduceEqDiff, Nat.reduceLT, Nat.reduceLeDiff, Nat.reduceSub, Nat.reduceMul, Nat.reduceBEq, Int.reduceToNat, Int.reduceLE, Int.reduceLT, Int.reducePow]; omega)
        case k7 => simp only [go_sem, Try.ntmps31, reduceIte, reduceCtorEq, Nat.reduceAdd, Nat.reduceEqDiff, Nat.reduceLT, Nat.reduceLeDiff, Nat.reduceSub, Nat.reduceMul, Nat.reduceBEq, Int.reduceToNat, Int.reduceLE, Int.reduceLT, Int.reducePow]; rfl
        refine ⟨i, ⟨[(0, .one (.s (.d (.slice z 1 (brow s))))), (3, .one (dv (.int .u64 (numU (s.drop i) : Int)))), (4, .one (dv (.int .i64 (((i : Nat) : Int) - 1))))], [], 0⟩, by omega, Conv.eq ?_, i, by omega, rfl, rfl⟩
        have e : ((i + 1 : Nat) : Int) - 1 - 1 = (i : Int) - 1 := by omega
        rw [e]
      case f5 =>
        intro hb1
        have : k = 0 := by simp at hb1; omega
        subst this
        refine AWp.exit ?_
        refine thenA_exit ?_
        refine thenA_exit ?_
        refine inB_eq ?_
        refine AWp.seq ?_
        refine AWp.reg (S1 := ?S8) (ob := ?o8) (S' := ?K8) tab_ok (noKnow _) mixed [2] ?r8 ?h8 ?k8 ?w8
        case r8 => simp only [go_sem, Try.ntmps31, reduceIte, reduceCtorEq, Nat.reduceAdd, Nat.reduceEqDiff, Nat.reduceLT, Nat.reduceLeDiff, Nat.reduceSub, Nat.reduceMul, Nat.reduceBEq, Int.reduceToNat, Int.reduceLE, Int.reduceLT, Int.reducePow]; rfl
        case h8 => first | exact True.intro | omega | (simp only [go_sem, Try.ntmps31, reduceIte, reduceCtorEq, Nat.reduceAdd, Nat.reduceEqDiff, Nat.reduceLT, Nat.reduceLeDiff, Nat.reduceSub, Nat.reduceMul, Nat.reduceBEq, Int.reduceToNat, Int.reduceLE, Int.reduceLT, Int.reducePow]; done) | (simp only [go_sem, Try.ntmps31, reduceIte, reduceCtorEq, Nat.reduceAdd, Nat.reduceEqDiff, Nat.reduceLT, Nat.reduceLeDiff, Nat.reduceSub, Nat.reduceMul, Nat.reduceBEq, Int.reduceToNat, Int.reduceLE, Int.reduceLT, Int.reducePow]; omega)
        case k8 => simp only [go_sem, Try.ntmps31, reduceIte, reduceCtorEq, Nat.reduceAdd, Nat.reduceEqDiff, Nat.reduceLT, Nat.reduceLeDiff, Nat.reduceSub, Nat.reduceMul, Nat.reduceBEq, Int.reduceToNat, Int.reduceLE, Int.reduceLT, Int.reducePow]; rfl
        refine AWp.ret ?_
        refine ends_p (vs := ?vs1) (ob := ?ro1) (vs' := ?ws1) (ks := ?ks1) (ob2 := ?rp1) tab_ok (by simp) ?er1 ?eo1 ?ef1 ?eg1 ?en1 ?ek1 ?ev1
        case er1 => simp only [go_sem, Try.ntmps31, reduceIte, reduceCtorEq, Nat.reduceAdd, Nat.reduceEqDiff, Nat.reduceLT, Nat.reduceLeDiff, Nat.reduceSub, Nat.reduceMul, Nat.reduceBEq, Int.reduceToNat, Int.reduceLE, Int.reduceLT, Int.reducePow, Try.results31]; rfl
        case eo1 => first | exact True.intro | simp only [go_sem, Try.ntmps31, reduceIte, reduceCtorEq, Nat.reduceAdd, Nat.reduceEqDiff, Nat.reduceLT, Nat.reduceLeDiff, Nat.reduceSub, Nat.reduceMul, Nat.reduceBEq, Int.reduceToNat, Int.reduceLE, Int.reduceLT, Int.reducePow]
        case ef1 => simp only [go_sem, Try.ntmps31, reduceIte, reduceCtorEq, Nat.reduceAdd, Nat.reduceEqDiff, Nat.reduceLT, Nat.reduceLeDiff, Nat.reduceSub, Nat.reduceMul, Nat.reduceBEq, Int.reduceToNat, Int.reduceLE, Int.reduceLT, Int.reducePow]; rfl
        case eg1 => first | exact True.intro | simp only [go_sem, Try.ntmps31, reduceIte, reduceCtorEq, Nat.reduceAdd, Nat.reduceEqDiff, Nat.reduceLT, Nat.reduceLeDiff, Nat.reduceSub, Nat.reduceMul, Nat.reduceBEq, Int.reduceToNat, Int.reduceLE, Int.reduceLT, Int.reducePow]
        case en1 => simp only [go_sem, Try.ntmps31, reduceIte, reduceCtorEq, Nat.reduceAdd, Nat.reduceEqDiff, Nat.reduceLT, Nat.reduceLeDiff, Nat.reduceSub, Nat.reduceMul, Nat.reduceBEq, Int.reduceToNat, Int.reduceLE, Int.reduceLT, Int.reducePow]
        case ek1 => simp only [go_sem, Try.ntmps31, reduceIte, reduceCtorEq, Nat.reduceAdd, Nat.reduceEqDiff, Nat.reduceLT, Nat.reduceLeDiff, Nat.reduceSub, Nat.reduceMul, Nat.reduceBEq, Int.reduceToNat, Int.reduceLE, Int.reduceLT, Int.reducePow]
        case ev1 =>
          rfl
  · cases hq

end Go.Proofs.Hg

set_option linter.unusedSimpArgs false
set_option linter.unusedVariables false
set_option maxHeartbeats 4000000
namespace Go.Proofs.Hg
open Go.RowKit
set_option maxRecDepth 100000
def takeOk (r : Bool) (n : Int) (s : List UInt8) : Bool := r && decide (n ≤ (s.length : Int))
def takeL (r : Bool) (n : Int) (s : List UInt8) : List UInt8 := if takeOk r n s then s.take n.toNat else [0]
def restL (r : Bool) (n : Int) (s : List UInt8) : List UInt8 := if takeOk r n s then s.drop n.toNat else s
def takeK : Cont := fun fresh H args => match args with
  | [.s (.d (.int .i64 n)), .s (.ptr i oi), .s (.ptr j oj)] => (match H i, H j with
    | some (.cells [.d (.bool r)] ti), some (.cells [.d (.slice z e es)] tj) => some ⟨.one (dv (.slice (if takeOk r n (unb es) then z else none) 1 (brow (takeL r n (unb es))))), [(i, .cells [.d (.bool r)] ti), (j, .cells [.d (.slice z e es)] tj)], false,
        [(i, .o (.cells [.d (.bool (takeOk r n (unb es)))] ti)), (j, .o (.cells [.d (.slice z 1 (brow (restL r n (unb es))))] tj))], oi = 0 ∧ oj = 0 ∧ i ≠ j ∧ e = 1 ∧ 0 ≤ n ∧ ti = 4 ∧ tj = 38 ∧ es = brow (unb es)⟩
    | _, _ => none)
  | _ => none
theorem takeK_ok : ContOk Try.prog 39 takeK := by
  intro fresh H args r0 hr hob
  unfold takeK at hr
  split at hr
  · rename_i n i oi j oj
    split at hr
    · rename_i r ti z e es tj hHi hHj
      injection hr with hr
      subst hr
      obtain ⟨h1, h2, h3, h4, h5, h6, h7, h8⟩ : oi = 0 ∧ oj = 0 ∧ i ≠ j ∧ e = 1 ∧ 0 ≤ n ∧ ti = 4 ∧ tj = 38 ∧ es = brow (unb es) := hob
      generalize unb es = s at *
      subst h1 h2 h4 h6 h7 h8
      have h3' : j ≠ i := fun e => h3 e.symm
      refine fn_gives (i := ⟨Try.f39, _, ⟨[(0, .one (dv (.int .i64 n))), (1, .one (.s (.ptr 0 0))), (2, .one (.s (.ptr 1 0)))], [(0, .cells [.d (.bool r)] 4), (1, .cells [.d (.slice z 1 (brow s))] 38)], 2⟩, 2, fun x => if x = 0 then i else j⟩) (nargs := 3) Try.func39 rfl (by kernel_rfl) ?_ ?_
      rotate_left
      · exact { len := ⟨rfl, Nat.le_of_ble_eq_true (by kernel_rfl)⟩, env := (by simp [AVal.ren, AV.ren, Sc.ren, AVal.ids, AV.ids, Sc.ids]), heap := (by simp [AObj.ren, AObj.ids, Sc.ren, Sc.ids]), nxt := rfl, inj := (by simp [h3, h3']) }
      show AWp Try.prog Try.f39.ntmps 2 _ _ _
      refine AWp.seq ?_
      refine AWp.reg (S1 := ?S1) (ob := ?o1) (S' := ?K1) tab_ok (noKnow _) mixed [0, 1, 2] ?r1 ?h1 ?k1 ?w1
      case r1 => simp only [go_sem, Try.ntmps39, reduceIte, reduceCtorEq, Nat.reduceAdd, Nat.reduceEqDiff, Nat.reduceLT, Nat.reduceLeDiff, Nat.reduceSub, Nat.reduceMul, Nat.reduceBEq, Int.reduceToNat, Int.reduceLE, Int.reduceLT, Int.reducePow]; rfl
      case h1 => first | exact True.intro | omega | (simp only [go_sem, Try.ntmps39, reduceIte, reduceCtorEq, Nat.reduceAdd, Nat.reduceEqDiff, Nat.reduceLT, Nat.reduceLeDiff, Nat.reduceSub, Nat.reduceMul, Nat.reduceBEq, Int.reduceToNat, Int.reduceLE, Int.reduceLT, Int.reducePow]; done) | (simp only [go_sem, Try.ntmps39, reduceIte, reduceCtorEq, Nat.reduceAdd, Nat.reduceEqDiff, Nat.reduceLT, Nat.reduceLeDiff, Nat.reduceSub, Nat.reduceMul, Nat.reduceBEq, Int.reduceToNat, Int.reduceLE, Int.reduceLT, Int.reducePow]; omega)
      case k1 => simp only [go_sem, Try.ntmps39, reduceIte, reduceCtorEq, Nat.reduceAdd, Nat.reduceEqDiff, Nat.reduceLT, Nat.reduceLeDiff, Nat.reduceSub, Nat.reduceMul, Nat.reduceBEq, Int.reduceToNat, Int.reduceLE, Int.reduceLT, Int.reducePow]; rfl
      refine AWp.seq ?_
      refine AWp.seq ?_
      refine AWp.reg (S1 := ?S2) (ob := ?o2) (S' := ?K2) tab_ok (noKnow _) mixed [0, 1, 2] ?r2 ?h2 ?k2 ?w2
      case r2 => simp only [go_sem, Try.ntmps39, reduceIte, reduceCtorEq, Nat.reduceAdd, Nat.reduceEqDiff, Nat.reduceLT, Nat.reduceLeDiff, Nat.reduceSub, Nat.reduceMul, Nat.reduceBEq, Int.reduceToNat, Int.reduceLE, Int.reduceLT, Int.reducePow]; rfl
      case h2 => first | exact True.intro | omega | (simp only [go_sem, Try.ntmps39, reduceIte, reduceCtorEq, Nat.reduceAdd, Nat.reduceEqDiff, Nat.reduceLT, Nat.reduceLeDiff, Nat.reduceSub, Nat.reduceMul, Nat.reduceBEq, Int.reduceToNat, Int.reduceLE, Int.reduceLT, Int.reducePow]; done) | (simp only [go_sem, Try.ntmps39, reduceIte, reduceCtorEq, Nat.reduceAdd, Nat.reduceEqDiff, Nat.reduceLT, Nat.reduceLeDiff, Nat.reduceSub, Nat.reduceMul, Nat.reduceBEq, Int.reduceToNat, Int.reduceLE, Int.reduceLT, Int.reducePow]; omega)
      case k2 => simp only [go_sem, Try.ntmps39, reduceIte, reduceCtorEq, Nat.reduceAdd, Nat.reduceEqDiff, Nat.reduceLT, Nat.reduceLeDiff, Nat.reduceSub, Nat.reduceMul, Nat.reduceBEq, Int.reduceToNat, Int.reduceLE, Int.reduceLT, Int.reducePow]; rfl
      refine AWp.seq ?_
      refine AWp.reg (S1 := ?S3) (ob := ?o3) (S' := ?K3) tab_ok (noKnow _) mixed [0, 2, 14] ?r3 ?h3 ?k3 ?w3
      case r3 => simp only [go_sem, Try.ntmps39, reduceIte, reduceCtorEq, Nat.reduceAdd, Nat.reduceEqDiff, Nat.reduceLT, Nat.reduceLeDiff, Nat.reduceSub, Nat.reduceMul, Nat.reduceBEq, Int.reduceToNat, Int.reduceLE, Int.reduceLT, Int.reducePow]; rfl
      case h3 => first | exact True.intro | omega | (simp only [go_sem, Try.ntmps39, reduceIte, reduceCtorEq, Nat.reduceAdd, Nat.reduceEqDiff, Nat.reduceLT, Nat.reduceLeDiff, Nat.reduceSub, Nat.reduceMul, Nat.reduceBEq, Int.reduceToNat, Int.reduceLE, Int.reduceLT, Int.reducePow]; done) | (simp only [go_sem, Try.ntmps39, reduceIte, reduceCtorEq, Nat.reduceAdd, Nat.reduceEqDiff, Nat.reduceLT, Nat.reduceLeDiff, Nat.reduceSub, Nat.reduceMul, Nat.reduceBEq, Int.reduceToNat, Int.reduceLE, Int.reduceLT, Int.reducePow]; omega)
      case k3 => simp only [go_sem, Try.ntmps39, reduceIte, reduceCtorEq, Nat.reduceAdd, Nat.reduceEqDiff, Nat.reduceLT, Nat.reduceLeDiff, Nat.reduceSub, Nat.reduceMul, Nat.reduceBEq, Int.reduceToNat, Int.reduceLE, Int.reduceLT, Int.reducePow]; rfl
      refine AWp.cond (b := ?b4) ?c4 ?t4 ?f4
      case c4 => simp only [go_sem, Try.ntmps39, reduceIte, reduceCtorEq, Nat.reduceAdd, Nat.reduceEqDiff, Nat.reduceLT, Nat.reduceLeDiff, Nat.reduceSub, Nat.reduceMul, Nat.reduceBEq, Int.reduceToNat, Int.reduceLE, Int.reduceLT, Int.reducePow]; rfl
      case t4 =>
        intro hb1
        have ok1 : (r && decide (n ≤ (s.length : Int))) = false := by rw [Bool.not_eq_true'] at hb1; exact hb1
        refine AWp.seq ?_
        refine AWp.reg (S1 := ?S5) (ob := ?o5) (S' := ?K5) tab_ok (noKnow _) mixed [4] ?r5 ?h5 ?k5 ?w5
        case r5 => simp only [go_sem, Try.ntmps39, reduceIte, reduceCtorEq, Nat.reduceAdd, Nat.reduceEqDiff, Nat.reduceLT, Nat.reduceLeDiff, Nat.reduceSub, Nat.reduceMul, Nat.reduceBEq, Int.reduceToNat, Int.reduceLE, Int.reduceLT, Int.reducePow]; rfl
        case h5 => first | exact True.intro | omega | (simp only [go_sem, Try.ntmps39, reduceIte, reduceCtorEq, Nat.reduceAdd, Nat.reduceEqDiff, Nat.reduceLT, Nat.reduceLeDiff, Nat.reduceSub, Nat.reduceMul, Nat.reduceBEq, Int.reduceToNat, Int.reduceLE, Int.reduceLT, Int.reducePow]; done) | (simp only [go_sem, Try.ntmps39, reduceIte, reduceCtorEq, Nat.reduceAdd, Nat.reduceEqDiff, Nat.reduceLT, Nat.reduceLeDiff, Nat.reduceSub, Nat.reduceMul, Nat.reduceBEq, Int.reduceToNat, Int.reduceLE, Int.reduceLT, Int.reducePow]; omega)
        case k5 => simp only [go_sem, Try.ntmps39, reduceIte, reduceCtorEq, Nat.reduceAdd, Nat.reduceEqDiff, Nat.reduceLT, Nat.reduceLeDiff, Nat.reduceSub, Nat.reduceMul, Nat.reduceBEq, Int.reduceToNat, Int.reduceLE, Int.reduceLT, Int.reducePow]; rfl
        refine AWp.ret ?_
        refine ends_f (vs := ?vs1) (ob := ?ro1) (vs' := ?ws1) (ks := ?ks1) (ob2 := ?rp1) (ex := none) (g1 := fun x => if x = 0 then i else j) tab_ok (by simp) ?er1 ?eo1 ?ef1 ?eg1 ?en1 ?ek1 ?et1
        case er1 => simp only [go_sem, Try.ntmps39, reduceIte, reduceCtorEq, Nat.reduceAdd, Nat.reduceEqDiff, Nat.reduceLT, Nat.reduceLeDiff, Nat.reduceSub, Nat.reduceMul, Nat.reduceBEq, Int.reduceToNat, Int.reduceLE, Int.reduceLT, Int.reducePow, Try.results39]; rfl
        case eo1 => first | exact True.intro | (simp only [go_sem, Try.ntmps39, reduceIte, reduceCtorEq, Nat.reduceAdd, Nat.reduceEqDiff, Nat.reduceLT, Nat.reduceLeDiff, Nat.reduceSub, Nat.reduceMul, Nat.reduceBEq, Int.reduceToNat, Int.reduceLE, Int.reduceLT, Int.reducePow]; done)
        case ef1 => simp only [go_sem, Try.ntmps39, reduceIte, reduceCtorEq, Nat.reduceAdd, Nat.reduceEqDiff, Nat.reduceLT, Nat.reduceLeDiff, Nat.reduceSub, Nat.reduceMul, Nat.reduceBEq, Int.reduceToNat, Int.reduceLE, Int.reduceLT, Int.reducePow]; rfl
        case eg1 => first | exact True.intro | (simp only [go_sem, Try.ntmps39, reduceIte, reduceCtorEq, Nat.reduceAdd, Nat.reduceEqDiff, Nat.reduceLT, Nat.reduceLeDiff, Nat.reduceSub, Nat.reduceMul, Nat.reduceBEq, Int.reduceToNat, Int.reduceLE, Int.reduceLT, Int.reducePow]; done) | (simp; done)
        case en1 => simp only [go_sem, Try.ntmps39, reduceIte, reduceCtorEq, Nat.reduceAdd, Nat.reduceEqDiff, Nat.reduceLT, Nat.reduceLeDiff, Nat.reduceSub, Nat.reduceMul, Nat.reduceBEq, Int.reduceToNat, Int.reduceLE, Int.reduceLT, Int.reducePow]
        case ek1 => simp only [go_sem, Try.ntmps39, reduceIte, reduceCtorEq, Nat.reduceAdd, Nat.reduceEqDiff, Nat.reduceLT, Nat.reduceLeDiff, Nat.reduceSub, Nat.reduceMul, Nat.reduceBEq, Int.reduceToNat, Int.reduceLE, Int.reduceLT, Int.reducePow]
        case et1 =>
          refine { val := ?_, plain := (by simp [pack]), vids := (by simp [pack, AVal.ids, AV.ids, Sc.ids]), fr := rfl, exn := (by simp), hand := (by simp), wr := ?_ }
          · simp [pack, AVal.ren, AV.ren, Sc.ren, takeOk, takeL, restL, brow, ok1]
          · intro p hp
            simp only [List.mem_cons, List.not_mem_nil, or_false] at hp
            rcases hp with rfl | rfl
            · exact .inr ⟨0, _, rfl, rfl, by simp [AObj.ren, Sc.ren, takeOk, ok1], by simp [CallOut.told, lookN], by simp [AObj.ids, Sc.ids]⟩
            · exact .inr ⟨1, _, rfl, rfl, by simp [AObj.ren, Sc.ren, takeOk, restL, ok1], by simp [CallOut.told, lookN], by simp [AObj.ids, Sc.ids]⟩
      case f4 =>
        intro hb1
        have ok2 : (r && decide (n ≤ (s.length : Int))) = true := by simpa using hb1
        have hn : n ≤ (s.length : Int) := by simp at ok2; exact ok2.2
        refine AWp.skip ?_
        refine AWp.seq ?_
        refine AWp.reg (S1 := ?S6) (ob := ?o6) (S' := ?K6) tab_ok (noKnow _) mixed [0, 2, 5] ?r6 ?h6 ?k6 ?w6
        case r6 => simp only [go_sem, Try.ntmps39, reduceIte, reduceCtorEq, Nat.reduceAdd, Nat.reduceEqDiff, Nat.reduceLT, Nat.reduceLeDiff, Nat.reduceSub, Nat.reduceMul, Nat.reduceBEq, Int.reduceToNat, Int.reduceLE, Int.reduceLT, Int.reducePow]; rfl
        case h6 => first | exact True.intro | omega | (simp only [go_sem, Try.ntmps39, reduceIte, reduceCtorEq, Nat.reduceAdd, Nat.reduceEqDiff, Nat.reduceLT, Nat.reduceLeDiff, Nat.reduceSub, Nat.reduceMul, Nat.reduceBEq, Int.reduceToNat, Int.reduceLE, Int.reduceLT, Int.reducePow]; done) | (simp only [go_sem, Try.ntmps39, reduceIte, reduceCtorEq, Nat.reduceAdd, Nat.reduceEqDiff, Nat.reduceLT, Nat.reduceLeDiff, Nat.reduceSub, Nat.reduceMul, Nat.reduceBEq, Int.reduceToNat, Int.reduceLE, Int.reduceLT, Int.reducePow]; omega)
        case k6 => simp only [go_sem, Try.ntmps39, reduceIte, reduceCtorEq, Nat.reduceAdd, Nat.reduceEqDiff, Nat.reduceLT, Nat.reduceLeDiff, Nat.reduceSub, Nat.reduceMul, Nat.reduceBEq, Int.reduceToNat, Int.reduceLE, Int.reduceLT, Int.reducePow]; rfl
        refine AWp.seq ?_
        refine AWp.reg (S1 := ?S7) (ob := ?o7) (S' := ?K7) tab_ok (noKnow _) mixed [5] ?r7 ?h7 ?k7 ?w7
        case r7 => simp only [go_sem, Try.ntmps39, reduceIte, reduceCtorEq, Nat.reduceAdd, Nat.reduceEqDiff, Nat.reduceLT, Nat.reduceLeDiff, Nat.reduceSub, Nat.reduceMul, Nat.reduceBEq, Int.reduceToNat, Int.reduceLE, Int.reduceLT, Int.reducePow]; rfl
        case h7 => first | exact True.intro | omega | (simp only [go_sem, Try.ntmps39, reduceIte, reduceCtorEq, Nat.reduceAdd, Nat.reduceEqDiff, Nat.reduceLT, Nat.reduceLeDiff, Nat.reduceSub, Nat.reduceMul, Nat.reduceBEq, Int.reduceToNat, Int.reduceLE, Int.reduceLT, Int.reducePow]; done) | (simp only [go_sem, Try.ntmps39, reduceIte, reduceCtorEq, Nat.reduceAdd, Nat.reduceEqDiff, Nat.reduceLT, Nat.reduceLeDiff, Nat.reduceSub, Nat.reduceMul, Nat.reduceBEq, Int.reduceToNat, Int.reduceLE, Int.reduceLT, Int.reducePow]; omega)
        case k7 => simp only [go_sem, Try.ntmps39, reduceIte, reduceCtorEq, Nat.reduceAdd, Nat.reduceEqDiff, Nat.reduceLT, Nat.reduceLeDiff, Nat.reduceSub, Nat.reduceMul, Nat.reduceBEq, Int.reduceToNat, Int.reduceLE, Int.reduceLT, Int.reducePow]; rfl
        refine AWp.seq ?_
        refine AWp.reg (S1 := ?S8) (ob := ?o8) (S' := ?K8) tab_ok (noKnow _) mixed [4] ?r8 ?h8 ?k8 ?w8
        case r8 => simp only [go_sem, Try.ntmps39, reduceIte, reduceCtorEq, Nat.reduceAdd, Nat.reduceEqDiff, Nat.reduceLT, Nat.reduceLeDiff, Nat.reduceSub, Nat.reduceMul, Nat.reduceBEq, Int.reduceToNat, Int.reduceLE, Int.reduceLT, Int.reducePow]; rfl
        case h8 => first | exact True.intro | omega | (simp only [go_sem, Try.ntmps39, reduceIte, reduceCtorEq, Nat.reduceAdd, Nat.reduceEqDiff, Nat.reduceLT, Nat.reduceLeDiff, Nat.reduceSub, Nat.reduceMul, Nat.reduceBEq, Int.reduceToNat, Int.reduceLE, Int.reduceLT, Int.reducePow]; done) | (simp only [go_sem, Try.ntmps39, reduceIte, reduceCtorEq, Nat.reduceAdd, Nat.reduceEqDiff, Nat.reduceLT, Nat.reduceLeDiff, Nat.reduceSub, Nat.reduceMul, Nat.reduceBEq, Int.reduceToNat, Int.reduceLE, Int.reduceLT, Int.reducePow]; omega)
        case k8 => simp only [go_sem, Try.ntmps39, reduceIte, reduceCtorEq, Nat.reduceAdd, Nat.reduceEqDiff, Nat.reduceLT, Nat.reduceLeDiff, Nat.reduceSub, Nat.reduceMul, Nat.reduceBEq, Int.reduceToNat, Int.reduceLE, Int.reduceLT, Int.reducePow]; rfl
        refine AWp.ret ?_
        refine ends_f (vs := ?vs2) (ob := ?ro2) (vs' := ?ws2) (ks := ?ks2) (ob2 := ?rp2) (ex := none) (g1 := fun x => if x = 0 then i else j) tab_ok (by simp) ?er2 ?eo2 ?ef2 ?eg2 ?en2 ?ek2 ?et2
        case er2 => simp only [go_sem, Try.ntmps39, reduceIte, reduceCtorEq, Nat.reduceAdd, Nat.reduceEqDiff, Nat.reduceLT, Nat.reduceLeDiff, Nat.reduceSub, Nat.reduceMul, Nat.reduceBEq, Int.reduceToNat, Int.reduceLE, Int.reduceLT, Int.reducePow, Try.results39]; rfl
        case eo2 => first | exact True.intro | (simp only [go_sem, Try.ntmps39, reduceIte, reduceCtorEq, Nat.reduceAdd, Nat.reduceEqDiff, Nat.reduceLT, Nat.reduceLeDiff, Nat.reduceSub, Nat.reduceMul, Nat.reduceBEq, Int.reduceToNat, Int.reduceLE, Int.reduceLT, Int.reducePow]; done)
        case ef2 => simp only [go_sem, Try.ntmps39, reduceIte, reduceCtorEq, Nat.reduceAdd, Nat.reduceEqDiff, Nat.reduceLT, Nat.reduceLeDiff, Nat.reduceSub, Nat.reduceMul, Nat.reduceBEq, Int.reduceToNat, Int.reduceLE, Int.reduceLT, Int.reducePow]; rfl
        case eg2 => first | exact True.intro | (simp only [go_sem, Try.ntmps39, reduceIte, reduceCtorEq, Nat.reduceAdd, Nat.reduceEqDiff, Nat.reduceLT, Nat.reduceLeDiff, Nat.reduceSub, Nat.reduceMul, Nat.reduceBEq, Int.reduceToNat, Int.reduceLE, Int.reduceLT, Int.reducePow]; done) | (simp; done)
        case en2 => simp only [go_sem, Try.ntmps39, reduceIte, reduceCtorEq, Nat.reduceAdd, Nat.reduceEqDiff, Nat.reduceLT, Nat.reduceLeDiff, Nat.reduceSub, Nat.reduceMul, Nat.reduceBEq, Int.reduceToNat, Int.reduceLE, Int.reduceLT, Int.reducePow]
        case ek2 => simp only [go_sem, Try.ntmps39, reduceIte, reduceCtorEq, Nat.reduceAdd, Nat.reduceEqDiff, Nat.reduceLT, Nat.reduceLeDiff, Nat.reduceSub, Nat.reduceMul, Nat.reduceBEq, Int.reduceToNat, Int.reduceLE, Int.reduceLT, Int.reducePow]
        case et2 =>
          refine { val := ?_, plain := (by simp [pack]), vids := (by simp [pack, AVal.ids, AV.ids, Sc.ids]), fr := rfl, exn := (by simp), hand := (by simp), wr := ?_ }
          · simp [pack, AVal.ren, AV.ren, Sc.ren, takeOk, takeL, restL, brow, ok2]
          · intro p hp
            simp only [List.mem_cons, List.not_mem_nil, or_false] at hp
            rcases hp with rfl | rfl
            · exact .inr ⟨0, _, rfl, rfl, by simp [AObj.ren, Sc.ren, takeOk, ok2], by simp [CallOut.told, lookN], by simp [AObj.ids, Sc.ids]⟩
            · exact .inr ⟨1, _, rfl, rfl, by simp [AObj.ren, Sc.ren, takeOk, restL, ok2], by simp [CallOut.told, lookN], by simp [AObj.ids, Sc.ids]⟩
    · cases hr
  · cases hr

end Go.Proofs.Hg
