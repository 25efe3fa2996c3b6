import Derived.Test.YtcicjmhealkigaaCF10
set_option linter.unusedSimpArgs false
set_option linter.unusedVariables false
set_option maxHeartbeats 4000000
namespace Go.Proofs.Hg
open Go.RowKit
set_option maxRecDepth 100000
theorem nChunks_int (n : Nat) : ((n : Int) + 4000 - 1) / 4000 = ((nChunks 4000 n : Nat) : Int) := by unfold nChunks; omega
theorem sub_chunk (B : List UInt8) (i : Nat) : List.take ((if (B.length : Int) < 4000 * (i : Int) + 4000 then (B.length : Int) else 4000 * (i : Int) + 4000).toNat - (4000 * (i : Int)).toNat) (List.drop (4000 * (i : Int)).toNat B) = chunkAt 4000 B i := by
  unfold chunkAt
  have e : (4000 * (i : Int)).toNat = 4000 * i := by omega
  rw [e]
  split
  · rw [List.take_of_length_le (by rw [List.length_drop]; omega), List.take_of_length_le (by rw [List.length_drop]; omega)]
  · congr 1
    omega
def rEncF : List AV → Option (AVal × Prop)
  | [.agg [.d (.int .i64 n), .d (.slice z e fs)]] => some (encV n (unf fs), e = 3 ∧ fs = fdrow (unf fs) ∧ FilesOk (unf fs))
  | _ => none
def kn11 : List (Nat × Cont) := [(25, pureK rRightF), (26, pureK rBytesF), (27, pureK rLowF)]
theorem kn11_ok : ∀ p ∈ kn11, ContOk Try.prog p.1 p.2 := by
  intro p hp
  simp only [kn11, List.mem_cons, List.not_mem_nil, or_false] at hp
  rcases hp with rfl | rfl | rfl
  · exact rRightF_ok
  · exact rBytesF_ok
  · exact rLowF_ok
theorem rEncF_ok : ContOk Try.prog 11 (pureK rEncF) := by
  refine pure_ok (nargs := 1) Try.func11 rfl (by kernel_rfl) (Nat.le_of_ble_eq_true (by kernel_rfl)) ?_
  intro args q hq hob
  unfold rEncF at hq
  split at hq
  · rename_i n z e fs
    injection hq with hq
    subst hq
    obtain ⟨h1, h2, h3⟩ : e = 3 ∧ fs = fdrow (unf fs) ∧ FilesOk (unf fs) := hob
    generalize unf fs = fl at *
    subst h1 h2
    have hq := nChunks_int (bytesL fl).length
    refine ⟨rfl, by simp [AV.ids, Sc.ids], (encV_ids _ _).1, (encV_ids _ _).2, ?_⟩
    refine AWp.seq ?_
    refine AWp.reg (S1 := ?S1) (ob := ?o1) (S' := ?K1) tab_ok (knowL_ok kn11_ok) mixed [1] ?r1 ?h1 ?k1 ?w1
    case r1 => simp only [go_sem, kn11, rRightF, rBytesF, rLowF, unf_fdrow, lowB_len, Try.ntmps11, reduceIte, reduceCtorEq, Nat.reduceAdd, Nat.reduceEqDiff, Nat.reduceLT, Nat.reduceLeDiff, Nat.reduceSub, Nat.reduceMul, Nat.reduceBEq, Int.reduceToNat, Int.reduceLE, Int.reduceLT, Int.reducePow]; rfl
    case h1 => first | exact True.intro | omega | (simp only [go_sem, kn11, rRightF, rBytesF, rLowF, unf_fdrow, lowB_len, Try.ntmps11, reduceIte, reduceCtorEq, Nat.reduceAdd, Nat.reduceEqDiff, Nat.reduceLT, Nat.reduceLeDiff, Nat.reduceSub, Nat.reduceMul, Nat.reduceBEq, Int.reduceToNat, Int.reduceLE, Int.reduceLT, Int.reducePow]; done) | (simp only [go_sem, kn11, rRightF, rBytesF, rLowF, unf_fdrow, lowB_len, Try.ntmps11, reduceIte, reduceCtorEq, Nat.reduceAdd, Nat.reduceEqDiff, Nat.reduceLT, Nat.reduceLeDiff, Nat.reduceSub, Nat.reduceMul, Nat.reduceBEq, Int.reduceToNat, Int.reduceLE, Int.reduceLT, Int.reducePow]; omega)
    case k1 => simp only [go_sem, kn11, rRightF, rBytesF, rLowF, unf_fdrow, lowB_len, Try.ntmps11, reduceIte, reduceCtorEq, Nat.reduceAdd, Nat.reduceEqDiff, Nat.reduceLT, Nat.reduceLeDiff, Nat.reduceSub, Nat.reduceMul, Nat.reduceBEq, Int.reduceToNat, Int.reduceLE, Int.reduceLT, Int.reducePow]; rfl
    refine AWp.seq ?_
    refine AWp.reg (S1 := ?S2) (ob := ?o2) (S' := ?K2) tab_ok (knowL_ok kn11_ok) mixed [1, 4] ?r2 ?h2 ?k2 ?w2
    case r2 => simp only [go_sem, kn11, rRightF, rBytesF, rLowF, unf_fdrow, lowB_len, Try.ntmps11, reduceIte, reduceCtorEq, Nat.reduceAdd, Nat.reduceEqDiff, Nat.reduceLT, Nat.reduceLeDiff, Nat.reduceSub, Nat.reduceMul, Nat.reduceBEq, Int.reduceToNat, Int.reduceLE, Int.reduceLT, Int.reducePow]; rfl
    case h2 => first | exact True.intro | omega | (simp only [go_sem, kn11, rRightF, rBytesF, rLowF, unf_fdrow, lowB_len, Try.ntmps11, reduceIte, reduceCtorEq, Nat.reduceAdd, Nat.reduceEqDiff, Nat.reduceLT, Nat.reduceLeDiff, Nat.reduceSub, Nat.reduceMul, Nat.reduceBEq, Int.reduceToNat, Int.reduceLE, Int.reduceLT, Int.reducePow]; done) | (simp only [go_sem, kn11, rRightF, rBytesF, rLowF, unf_fdrow, lowB_len, Try.ntmps11, reduceIte, reduceCtorEq, Nat.reduceAdd, Nat.reduceEqDiff, Nat.reduceLT, Nat.reduceLeDiff, Nat.reduceSub, Nat.reduceMul, Nat.reduceBEq, Int.reduceToNat, Int.reduceLE, Int.reduceLT, Int.reducePow]; omega)
    case k2 => simp only [go_sem, kn11, rRightF, rBytesF, rLowF, unf_fdrow, lowB_len, Try.ntmps11, reduceIte, reduceCtorEq, Nat.reduceAdd, Nat.reduceEqDiff, Nat.reduceLT, Nat.reduceLeDiff, Nat.reduceSub, Nat.reduceMul, Nat.reduceBEq, Int.reduceToNat, Int.reduceLE, Int.reduceLT, Int.reducePow]; rfl
    refine AWp.seq ?_
    refine AWp.seq ?_
    refine AWp.reg (S1 := ?S3) (ob := ?o3) (S' := ?K3) tab_ok (knowL_ok kn11_ok) mixed [1, 13] ?r3 ?h3 ?k3 ?w3
    case r3 => simp only [go_sem, kn11, rRightF, rBytesF, rLowF, unf_fdrow, lowB_len, Try.ntmps11, reduceIte, reduceCtorEq, Nat.reduceAdd, Nat.reduceEqDiff, Nat.reduceLT, Nat.reduceLeDiff, Nat.reduceSub, Nat.reduceMul, Nat.reduceBEq, Int.reduceToNat, Int.reduceLE, Int.reduceLT, Int.reducePow]; rfl
    case h3 => first | exact True.intro | omega | (simp only [go_sem, kn11, rRightF, rBytesF, rLowF, unf_fdrow, lowB_len, Try.ntmps11, reduceIte, reduceCtorEq, Nat.reduceAdd, Nat.reduceEqDiff, Nat.reduceLT, Nat.reduceLeDiff, Nat.reduceSub, Nat.reduceMul, Nat.reduceBEq, Int.reduceToNat, Int.reduceLE, Int.reduceLT, Int.reducePow]; done) | (simp only [go_sem, kn11, rRightF, rBytesF, rLowF, unf_fdrow, lowB_len, Try.ntmps11, reduceIte, reduceCtorEq, Nat.reduceAdd, Nat.reduceEqDiff, Nat.reduceLT, Nat.reduceLeDiff, Nat.reduceSub, Nat.reduceMul, Nat.reduceBEq, Int.reduceToNat, Int.reduceLE, Int.reduceLT, Int.reducePow]; omega)
    case k3 => simp only [go_sem, kn11, rRightF, rBytesF, rLowF, unf_fdrow, lowB_len, Try.ntmps11, reduceIte, reduceCtorEq, Nat.reduceAdd, Nat.reduceEqDiff, Nat.reduceLT, Nat.reduceLeDiff, Nat.reduceSub, Nat.reduceMul, Nat.reduceBEq, Int.reduceToNat, Int.reduceLE, Int.reduceLT, Int.reducePow]; rfl
    refine AWp.cond (b := ?b4) ?c4 ?t4 ?f4
    case c4 => simp only [go_sem, kn11, rRightF, rBytesF, rLowF, unf_fdrow, lowB_len, Try.ntmps11, reduceIte, reduceCtorEq, Nat.reduceAdd, Nat.reduceEqDiff, Nat.reduceLT, Nat.reduceLeDiff, Nat.reduceSub, Nat.reduceMul, Nat.reduceBEq, Int.reduceToNat, Int.reduceLE, Int.reduceLT, Int.reducePow]; rfl
    case t4 =>
      intro hb1
      have hr : rightL n fl = false := by simpa using hb1
      refine AWp.seq ?_
      refine AWp.reg (S1 := ?S5) (ob := ?o5) (S' := ?K5) tab_ok (knowL_ok kn11_ok) mixed [2, 3] ?r5 ?h5 ?k5 ?w5
      case r5 => simp only [go_sem, kn11, rRightF, rBytesF, rLowF, unf_fdrow, lowB_len, Try.ntmps11, reduceIte, reduceCtorEq, Nat.reduceAdd, Nat.reduceEqDiff, Nat.reduceLT, Nat.reduceLeDiff, Nat.reduceSub, Nat.reduceMul, Nat.reduceBEq, Int.reduceToNat, Int.reduceLE, Int.reduceLT, Int.reducePow]; rfl
      case h5 => first | exact True.intro | omega | (simp only [go_sem, kn11, rRightF, rBytesF, rLowF, unf_fdrow, lowB_len, Try.ntmps11, reduceIte, reduceCtorEq, Nat.reduceAdd, Nat.reduceEqDiff, Nat.reduceLT, Nat.reduceLeDiff, Nat.reduceSub, Nat.reduceMul, Nat.reduceBEq, Int.reduceToNat, Int.reduceLE, Int.reduceLT, Int.reducePow]; done) | (simp only [go_sem, kn11, rRightF, rBytesF, rLowF, unf_fdrow, lowB_len, Try.ntmps11, reduceIte, reduceCtorEq, Nat.reduceAdd, Nat.reduceEqDiff, Nat.reduceLT, Nat.reduceLeDiff, Nat.reduceSub, Nat.reduceMul, Nat.reduceBEq, Int.reduceToNat, Int.reduceLE, Int.reduceLT, Int.reducePow]; omega)
      case k5 => simp only [go_sem, kn11, rRightF, rBytesF, rLowF, unf_fdrow, lowB_len, Try.ntmps11, reduceIte, reduceCtorEq, Nat.reduceAdd, Nat.reduceEqDiff, Nat.reduceLT, Nat.reduceLeDiff, Nat.reduceSub, Nat.reduceMul, Nat.reduceBEq, Int.reduceToNat, Int.reduceLE, Int.reduceLT, Int.reducePow]; rfl
      refine AWp.ret ?_
      refine ends_p (vs := ?vs1) (ob := ?ro1) (vs' := ?ws1) (ks := ?ks1) (ob2 := ?rp1) tab_ok (by simp) ?er1 ?eo1 ?ef1 ?eg1 ?en1 ?ek1 ?ev1
      case er1 => simp only [go_sem, kn11, rRightF, rBytesF, rLowF, unf_fdrow, lowB_len, Try.ntmps11, reduceIte, reduceCtorEq, Nat.reduceAdd, Nat.reduceEqDiff, Nat.reduceLT, Nat.reduceLeDiff, Nat.reduceSub, Nat.reduceMul, Nat.reduceBEq, Int.reduceToNat, Int.reduceLE, Int.reduceLT, Int.reducePow, Try.results11]; rfl
      case eo1 => first | exact True.intro | simp only [go_sem, kn11, rRightF, rBytesF, rLowF, unf_fdrow, lowB_len, Try.ntmps11, reduceIte, reduceCtorEq, Nat.reduceAdd, Nat.reduceEqDiff, Nat.reduceLT, Nat.reduceLeDiff, Nat.reduceSub, Nat.reduceMul, Nat.reduceBEq, Int.reduceToNat, Int.reduceLE, Int.reduceLT, Int.reducePow]
      case ef1 => simp only [go_sem, kn11, rRightF, rBytesF, rLowF, unf_fdrow, lowB_len, Try.ntmps11, reduceIte, reduceCtorEq, Nat.reduceAdd, Nat.reduceEqDiff, Nat.reduceLT, Nat.reduceLeDiff, Nat.reduceSub, Nat.reduceMul, Nat.reduceBEq, Int.reduceToNat, Int.reduceLE, Int.reduceLT, Int.reducePow]; rfl
      case eg1 => first | exact True.intro | simp only [go_sem, kn11, rRightF, rBytesF, rLowF, unf_fdrow, lowB_len, Try.ntmps11, reduceIte, reduceCtorEq, Nat.reduceAdd, Nat.reduceEqDiff, Nat.reduceLT, Nat.reduceLeDiff, Nat.reduceSub, Nat.reduceMul, Nat.reduceBEq, Int.reduceToNat, Int.reduceLE, Int.reduceLT, Int.reducePow]
      case en1 => simp only [go_sem, kn11, rRightF, rBytesF, rLowF, unf_fdrow, lowB_len, Try.ntmps11, reduceIte, reduceCtorEq, Nat.reduceAdd, Nat.reduceEqDiff, Nat.reduceLT, Nat.reduceLeDiff, Nat.reduceSub, Nat.reduceMul, Nat.reduceBEq, Int.reduceToNat, Int.reduceLE, Int.reduceLT, Int.reducePow]
      case ek1 => simp only [go_sem, kn11, rRightF, rBytesF, rLowF, unf_fdrow, lowB_len, Try.ntmps11, reduceIte, reduceCtorEq, Nat.reduceAdd, Nat.reduceEqDiff, Nat.reduceLT, Nat.reduceLeDiff, Nat.reduceSub, Nat.reduceMul, Nat.reduceBEq, Int.reduceToNat, Int.reduceLE, Int.reduceLT, Int.reducePow]
      case ev1 =>
        rw [encV, hr]; rfl
    case f4 =>
      intro hb1
      have hr : rightL n fl = true := by simpa using hb1
      obtain ⟨hn0, hn1, hF⟩ := rightL_in hr
      have hB := bytesL_len hF
      have hN := nChunks_le hB
      refine AWp.skip ?_
      refine AWp.seq ?_
      refine AWp.reg (S1 := ?S6) (ob := ?o6) (S' := ?K6) tab_ok (knowL_ok kn11_ok) mixed [1, 5] ?r6 ?h6 ?k6 ?w6
      case r6 => simp only [go_sem, kn11, rRightF, rBytesF, rLowF, unf_fdrow, lowB_len, Try.ntmps11, reduceIte, reduceCtorEq, Nat.reduceAdd, Nat.reduceEqDiff, Nat.reduceLT, Nat.reduceLeDiff, Nat.reduceSub, Nat.reduceMul, Nat.reduceBEq, Int.reduceToNat, Int.reduceLE, Int.reduceLT, Int.reducePow]; rfl
      case h6 => first | exact True.intro | omega | (simp only [go_sem, kn11, rRightF, rBytesF, rLowF, unf_fdrow, lowB_len, Try.ntmps11, reduceIte, reduceCtorEq, Nat.reduceAdd, Nat.reduceEqDiff, Nat.reduceLT, Nat.reduceLeDiff, Nat.reduceSub, Nat.reduceMul, Nat.reduceBEq, Int.reduceToNat, Int.reduceLE, Int.reduceLT, Int.reducePow]; done) | (simp only [go_sem, kn11, rRightF, rBytesF, rLowF, unf_fdrow, lowB_len, Try.ntmps11, reduceIte, reduceCtorEq, Nat.reduceAdd, Nat.reduceEqDiff, Nat.reduceLT, Nat.reduceLeDiff, Nat.reduceSub, Nat.reduceMul, Nat.reduceBEq, Int.reduceToNat, Int.reduceLE, Int.reduceLT, Int.reducePow]; omega)
      case k6 => simp only [go_sem, kn11, rRightF, rBytesF, rLowF, unf_fdrow, lowB_len, Try.ntmps11, reduceIte, reduceCtorEq, Nat.reduceAdd, Nat.reduceEqDiff, Nat.reduceLT, Nat.reduceLeDiff, Nat.reduceSub, Nat.reduceMul, Nat.reduceBEq, Int.reduceToNat, Int.reduceLE, Int.reduceLT, Int.reducePow]; rfl
      refine AWp.seq ?_
      refine AWp.reg (S1 := ?S7) (ob := ?o7) (S' := ?K7) tab_ok (knowL_ok kn11_ok) mixed [1, 5, 6] ?r7 ?h7 ?k7 ?w7
      case r7 => simp only [go_sem, kn11, rRightF, rBytesF, rLowF, unf_fdrow, lowB_len, Try.ntmps11, reduceIte, reduceCtorEq, Nat.reduceAdd, Nat.reduceEqDiff, Nat.reduceLT, Nat.reduceLeDiff, Nat.reduceSub, Nat.reduceMul, Nat.reduceBEq, Int.reduceToNat, Int.reduceLE, Int.reduceLT, Int.reducePow, hq]; rfl
      case h7 =>
        have hw := IntWalk.i64_in ((nChunks 4000 (bytesL fl).length : Nat) : Int) ⟨by omega, by omega⟩
        refine ⟨⟨by omega, by omega⟩, ⟨by omega, by omega⟩, by omega, hw⟩
      case k7 => simp only [go_sem, kn11, rRightF, rBytesF, rLowF, unf_fdrow, lowB_len, Try.ntmps11, reduceIte, reduceCtorEq, Nat.reduceAdd, Nat.reduceEqDiff, Nat.reduceLT, Nat.reduceLeDiff, Nat.reduceSub, Nat.reduceMul, Nat.reduceBEq, Int.reduceToNat, Int.reduceLE, Int.reduceLT, Int.reducePow]; rfl
      refine AWp.seq ?_
      refine AWp.seq ?_
      refine AWp.reg (S1 := ?S8) (ob := ?o8) (S' := ?K8) tab_ok (knowL_ok kn11_ok) mixed [1, 5, 6, 22] ?r8 ?h8 ?k8 ?w8
      case r8 => simp only [go_sem, kn11, rRightF, rBytesF, rLowF, unf_fdrow, lowB_len, Try.ntmps11, reduceIte, reduceCtorEq, Nat.reduceAdd, Nat.reduceEqDiff, Nat.reduceLT, Nat.reduceLeDiff, Nat.reduceSub, Nat.reduceMul, Nat.reduceBEq, Int.reduceToNat, Int.reduceLE, Int.reduceLT, Int.reducePow]; rfl
      case h8 => first | exact True.intro | omega | (simp only [go_sem, kn11, rRightF, rBytesF, rLowF, unf_fdrow, lowB_len, Try.ntmps11, reduceIte, reduceCtorEq, Nat.reduceAdd, Nat.reduceEqDiff, Nat.reduceLT, Nat.reduceLeDiff, Nat.reduceSub, Nat.reduceMul, Nat.reduceBEq, Int.reduceToNat, Int.reduceLE, Int.reduceLT, Int.reducePow]; done) | (simp only [go_sem, kn11, rRightF, rBytesF, rLowF, unf_fdrow, lowB_len, Try.ntmps11, reduceIte, reduceCtorEq, Nat.reduceAdd, Nat.reduceEqDiff, Nat.reduceLT, Nat.reduceLeDiff, Nat.reduceSub, Nat.reduceMul, Nat.reduceBEq, Int.reduceToNat, Int.reduceLE, Int.reduceLT, Int.reducePow]; omega)
      case k8 => simp only [go_sem, kn11, rRightF, rBytesF, rLowF, unf_fdrow, lowB_len, Try.ntmps11, reduceIte, reduceCtorEq, Nat.reduceAdd, Nat.reduceEqDiff, Nat.reduceLT, Nat.reduceLeDiff, Nat.reduceSub, Nat.reduceMul, Nat.reduceBEq, Int.reduceToNat, Int.reduceLE, Int.reduceLT, Int.reducePow]; rfl
      refine AWp.cond (b := ?b9) ?c9 ?t9 ?f9
      case c9 => simp only [go_sem, kn11, rRightF, rBytesF, rLowF, unf_fdrow, lowB_len, Try.ntmps11, reduceIte, reduceCtorEq, Nat.reduceAdd, Nat.reduceEqDiff, Nat.reduceLT, Nat.reduceLeDiff, Nat.reduceSub, Nat.reduceMul, Nat.reduceBEq, Int.reduceToNat, Int.reduceLE, Int.reduceLT, Int.reducePow]; rfl
      case t9 =>
        intro hb2
        have h0 : (nChunks 4000 (bytesL fl).length) = 0 := by simp at hb2; omega
        refine AWp.reg (S1 := ?S10) (ob := ?o10) (S' := ?K10) tab_ok (knowL_ok kn11_ok) mixed [1, 5, 6] ?r10 ?h10 ?k10 ?w10
        case r10 => simp only [go_sem, kn11, rRightF, rBytesF, rLowF, unf_fdrow, lowB_len, Try.ntmps11, reduceIte, reduceCtorEq, Nat.reduceAdd, Nat.reduceEqDiff, Nat.reduceLT, Nat.reduceLeDiff, Nat.reduceSub, Nat.reduceMul, Nat.reduceBEq, Int.reduceToNat, Int.reduceLE, Int.reduceLT, Int.reducePow]; rfl
        case h10 => first | exact True.intro | omega | (simp only [go_sem, kn11, rRightF, rBytesF, rLowF, unf_fdrow, lowB_len, Try.ntmps11, reduceIte, reduceCtorEq, Nat.reduceAdd, Nat.reduceEqDiff, Nat.reduceLT, Nat.reduceLeDiff, Nat.reduceSub, Nat.reduceMul, Nat.reduceBEq, Int.reduceToNat, Int.reduceLE, Int.reduceLT, Int.reducePow]; done) | (simp only [go_sem, kn11, rRightF, rBytesF, rLowF, unf_fdrow, lowB_len, Try.ntmps11, reduceIte, reduceCtorEq, Nat.reduceAdd, Nat.reduceEqDiff, Nat.reduceLT, Nat.reduceLeDiff, Nat.reduceSub, Nat.reduceMul, Nat.reduceBEq, Int.reduceToNat, Int.reduceLE, Int.reduceLT, Int.reducePow]; omega)
        case k10 => simp only [go_sem, kn11, rRightF, rBytesF, rLowF, unf_fdrow, lowB_len, Try.ntmps11, reduceIte, reduceCtorEq, Nat.reduceAdd, Nat.reduceEqDiff, Nat.reduceLT, Nat.reduceLeDiff, Nat.reduceSub, Nat.reduceMul, Nat.reduceBEq, Int.reduceToNat, Int.reduceLE, Int.reduceLT, Int.reducePow]; rfl
        refine AWp.seq ?_
        refine AWp.seq ?_
        refine AWp.reg (S1 := ?S11) (ob := ?o11) (S' := ?K11) tab_ok (knowL_ok kn11_ok) mixed [1, 5, 6, 24] ?r11 ?h11 ?k11 ?w11
        case r11 => simp only [go_sem, kn11, rRightF, rBytesF, rLowF, unf_fdrow, lowB_len, Try.ntmps11, reduceIte, reduceCtorEq, Nat.reduceAdd, Nat.reduceEqDiff, Nat.reduceLT, Nat.reduceLeDiff, Nat.reduceSub, Nat.reduceMul, Nat.reduceBEq, Int.reduceToNat, Int.reduceLE, Int.reduceLT, Int.reducePow]; rfl
        case h11 => first | exact True.intro | omega | (simp only [go_sem, kn11, rRightF, rBytesF, rLowF, unf_fdrow, lowB_len, Try.ntmps11, reduceIte, reduceCtorEq, Nat.reduceAdd, Nat.reduceEqDiff, Nat.reduceLT, Nat.reduceLeDiff, Nat.reduceSub, Nat.reduceMul, Nat.reduceBEq, Int.reduceToNat, Int.reduceLE, Int.reduceLT, Int.reducePow]; done) | (simp only [go_sem, kn11, rRightF, rBytesF, rLowF, unf_fdrow, lowB_len, Try.ntmps11, reduceIte, reduceCtorEq, Nat.reduceAdd, Nat.reduceEqDiff, Nat.reduceLT, Nat.reduceLeDiff, Nat.reduceSub, Nat.reduceMul, Nat.reduceBEq, Int.reduceToNat, Int.reduceLE, Int.reduceLT, Int.reducePow]; omega)
        case k11 => simp only [go_sem, kn11, rRightF, rBytesF, rLowF, unf_fdrow, lowB_len, Try.ntmps11, reduceIte, reduceCtorEq, Nat.reduceAdd, Nat.reduceEqDiff, Nat.reduceLT, Nat.reduceLeDiff, Nat.reduceSub, Nat.reduceMul, Nat.reduceBEq, Int.reduceToNat, Int.reduceLE, Int.reduceLT, Int.reducePow]; rfl
        refine AWp.cond (b := ?b12) ?c12 ?t12 ?f12
        case c12 => simp only [go_sem, kn11, rRightF, rBytesF, rLowF, unf_fdrow, lowB_len, Try.ntmps11, reduceIte, reduceCtorEq, Nat.reduceAdd, Nat.reduceEqDiff, Nat.reduceLT, Nat.reduceLeDiff, Nat.reduceSub, Nat.reduceMul, Nat.reduceBEq, Int.reduceToNat, Int.reduceLE, Int.reduceLT, Int.reducePow]; rfl
        case t12 =>
          intro hb3
          exfalso; simp at hb3
        case f12 =>
          intro hb3
          refine AWp.skip ?_
          refine AWp.seq ?_
          refine AWp.reg (S1 := ?S13) (ob := ?o13) (S' := ?K13) tab_ok (knowL_ok kn11_ok) mixed [1, 5, 6, 7] ?r13 ?h13 ?k13 ?w13
          case r13 => simp only [go_sem, kn11, rRightF, rBytesF, rLowF, unf_fdrow, lowB_len, Try.ntmps11, reduceIte, reduceCtorEq, Nat.reduceAdd, Nat.reduceEqDiff, Nat.reduceLT, Nat.reduceLeDiff, Nat.reduceSub, Nat.reduceMul, Nat.reduceBEq, Int.reduceToNat, Int.reduceLE, Int.reduceLT, Int.reducePow]; rfl
          case h13 => first | exact True.intro | omega | (simp only [go_sem, kn11, rRightF, rBytesF, rLowF, unf_fdrow, lowB_len, Try.ntmps11, reduceIte, reduceCtorEq, Nat.reduceAdd, Nat.reduceEqDiff, Nat.reduceLT, Nat.reduceLeDiff, Nat.reduceSub, Nat.reduceMul, Nat.reduceBEq, Int.reduceToNat, Int.reduceLE, Int.reduceLT, Int.reducePow]; done) | (simp only [go_sem, kn11, rRightF, rBytesF, rLowF, unf_fdrow, lowB_len, Try.ntmps11, reduceIte, reduceCtorEq, Nat.reduceAdd, Nat.reduceEqDiff, Nat.reduceLT, Nat.reduceLeDiff, Nat.reduceSub, Nat.reduceMul, Nat.reduceBEq, Int.reduceToNat, Int.reduceLE, Int.reduceLT, Int.reducePow]; omega)
          case k13 => simp only [go_sem, kn11, rRightF, rBytesF, rLowF, unf_fdrow, lowB_len, Try.ntmps11, reduceIte, reduceCtorEq, Nat.reduceAdd, Nat.reduceEqDiff, Nat.reduceLT, Nat.reduceLeDiff, Nat.reduceSub, Nat.reduceMul, Nat.reduceBEq, Int.reduceToNat, Int.reduceLE, Int.reduceLT, Int.reducePow]; rfl
          refine AWp.seq ?_
          refine AWp.seq ?_
          refine AWp.reg (S1 := ?S14) (ob := ?o14) (S' := ?K14) tab_ok (knowL_ok kn11_ok) mixed [1, 5, 6, 7, 8] ?r14 ?h14 ?k14 ?w14
          case r14 => simp only [go_sem, kn11, rRightF, rBytesF, rLowF, unf_fdrow, lowB_len, Try.ntmps11, reduceIte, reduceCtorEq, Nat.reduceAdd, Nat.reduceEqDiff, Nat.reduceLT, Nat.reduceLeDiff, Nat.reduceSub, Nat.reduceMul, Nat.reduceBEq, Int.reduceToNat, Int.reduceLE, Int.reduceLT, Int.reducePow]; rfl
          case h14 => first | exact True.intro | omega | (simp only [go_sem, kn11, rRightF, rBytesF, rLowF, unf_fdrow, lowB_len, Try.ntmps11, reduceIte, reduceCtorEq, Nat.reduceAdd, Nat.reduceEqDiff, Nat.reduceLT, Nat.reduceLeDiff, Nat.reduceSub, Nat.reduceMul, Nat.reduceBEq, Int.reduceToNat, Int.reduceLE, Int.reduceLT, Int.reducePow]; done) | (simp only [go_sem, kn11, rRightF, rBytesF, rLowF, unf_fdrow, lowB_len, Try.ntmps11, reduceIte, reduceCtorEq, Nat.reduceAdd, Nat.reduceEqDiff, Nat.reduceLT, Nat.reduceLeDiff, Nat.reduceSub, Nat.reduceMul, Nat.reduceBEq, Int.reduceToNat, Int.reduceLE, Int.reduceLT, Int.reducePow]; omega)
          case k14 => simp only [go_sem, kn11, rRightF, rBytesF, rLowF, unf_fdrow, lowB_len, Try.ntmps11, reduceIte, reduceCtorEq, Nat.reduceAdd, Nat.reduceEqDiff, Nat.reduceLT, Nat.reduceLeDiff, Nat.reduceSub, Nat.reduceMul, Nat.reduceBEq, Int.reduceToNat, Int.reduceLE, Int.reduceLT, Int.reducePow]; rfl
          refine AWp.block ?_
          refine AWp.conv (Conv.nilT 7 (e := 1) (ety := 38) rfl rfl) ?_
          refine AWp.conv (Conv.keep [1, 5, 6, 7, 8] [1, 0] (by simp [St.nilT])) ?_
          refine AWp.loop (fun k S => ∃ i : Nat, i ≤ 1 ∧ k = 1 - i ∧ S = ⟨[(1, .one (.s (.ptr 0 0))), (5, .one (dv (.slice none 1 (brow (bytesL fl))))), (6, .one (dv (.int .i64 ((1 : Nat) : Int)))), (7, .one (.s (.row 1 1 0 i none))), (8, .one (dv (.int .i64 ((i : Nat) : Int))))], [(1, .row (recR n 1 (bytesL fl) i) 38), (0, .cells [.d (.int .i64 n), .d (.slice z 3 (fdrow fl))] 34)], 2⟩) (1) ?i1 ?n1
          case i1 =>
            exact ⟨0, by omega, rfl, by simp [St.nilT, St.keep, keepE, lookN, recR]⟩
          case n1 =>
            rintro k S ⟨i, hi0, rfl, rfl⟩
            refine AWp.seq ?_
            refine AWp.seq ?_
            refine AWp.reg (S1 := ?S15) (ob := ?o15) (S' := ?K15) tab_ok (knowL_ok kn11_ok) mixed [1, 5, 6, 7, 8, 27] ?r15 ?h15 ?k15 ?w15
            case r15 => simp only [go_sem, kn11, rRightF, rBytesF, rLowF, unf_fdrow, lowB_len, Try.ntmps11, reduceIte, reduceCtorEq, Nat.reduceAdd, Nat.reduceEqDiff, Nat.reduceLT, Nat.reduceLeDiff, Nat.reduceSub, Nat.reduceMul, Nat.reduceBEq, Int.reduceToNat, Int.reduceLE, Int.reduceLT, Int.reducePow]; rfl
            case h15 => first | exact True.intro | omega | (simp only [go_sem, kn11, rRightF, rBytesF, rLowF, unf_fdrow, lowB_len, Try.ntmps11, reduceIte, reduceCtorEq, Nat.reduceAdd, Nat.reduceEqDiff, Nat.reduceLT, Nat.reduceLeDiff, Nat.reduceSub, Nat.reduceMul, Nat.reduceBEq, Int.reduceToNat, Int.reduceLE, Int.reduceLT, Int.reducePow]; done) | (simp only [go_sem, kn11, rRightF, rBytesF, rLowF, unf_fdrow, lowB_len, Try.ntmps11, reduceIte, reduceCtorEq, Nat.reduceAdd, Nat.reduceEqDiff, Nat.reduceLT, Nat.reduceLeDiff, Nat.reduceSub, Nat.reduceMul, Nat.reduceBEq, Int.reduceToNat, Int.reduceLE, Int.reduceLT, Int.reducePow]; omega)
            case k15 => simp only [go_sem, kn11, rRightF, rBytesF, rLowF, unf_fdrow, lowB_len, Try.ntmps11, reduceIte, reduceCtorEq, Nat.reduceAdd, Nat.reduceEqDiff, Nat.reduceLT, Nat.reduceLeDiff, Nat.reduceSub, Nat.reduceMul, Nat.reduceBEq, Int.reduceToNat, Int.reduceLE, Int.reduceLT, Int.reducePow]; rfl
            refine AWp.cond (b := ?b16) ?c16 ?t16 ?f16
            case c16 => simp only [go_sem, kn11, rRightF, rBytesF, rLowF, unf_fdrow, lowB_len, Try.ntmps11, reduceIte, reduceCtorEq, Nat.reduceAdd, Nat.reduceEqDiff, Nat.reduceLT, Nat.reduceLeDiff, Nat.reduceSub, Nat.reduceMul, Nat.reduceBEq, Int.reduceToNat, Int.reduceLE, Int.reduceLT, Int.reducePow]; rfl
            case t16 =>
              intro hb4
              have hi : i < 1 := by simp at hb4; omega
              have hle : 4000 * i ≤ (bytesL fl).length := by omega
              refine AWp.skip ?_
              refine AWp.seq ?_
              refine AWp.block ?_
              refine AWp.seq ?_
              refine AWp.reg (S1 := ?S17) (ob := ?o17) (S' := ?K17) tab_ok (knowL_ok kn11_ok) mixed [1, 5, 6, 7, 8, 9] ?r17 ?h17 ?k17 ?w17
              case r17 => simp only [go_sem, kn11, rRightF, rBytesF, rLowF, unf_fdrow, lowB_len, Try.ntmps11, reduceIte, reduceCtorEq, Nat.reduceAdd, Nat.reduceEqDiff, Nat.reduceLT, Nat.reduceLeDiff, Nat.reduceSub, Nat.reduceMul, Nat.reduceBEq, Int.reduceToNat, Int.reduceLE, Int.reduceLT, Int.reducePow]; rfl
              case h17 => first | exact True.intro | omega | (simp only [go_sem, kn11, rRightF, rBytesF, rLowF, unf_fdrow, lowB_len, Try.ntmps11, reduceIte, reduceCtorEq, Nat.reduceAdd, Nat.reduceEqDiff, Nat.reduceLT, Nat.reduceLeDiff, Nat.reduceSub, Nat.reduceMul, Nat.reduceBEq, Int.reduceToNat, Int.reduceLE, Int.reduceLT, Int.reducePow]; done) | (simp only [go_sem, kn11, rRightF, rBytesF, rLowF, unf_fdrow, lowB_len, Try.ntmps11, reduceIte, reduceCtorEq, Nat.reduceAdd, Nat.reduceEqDiff, Nat.reduceLT, Nat.reduceLeDiff, Nat.reduceSub, Nat.reduceMul, Nat.reduceBEq, Int.reduceToNat, Int.reduceLE, Int.reduceLT, Int.reducePow]; omega)
              case k17 => simp only [go_sem, kn11, rRightF, rBytesF, rLowF, unf_fdrow, lowB_len, Try.ntmps11, reduceIte, reduceCtorEq, Nat.reduceAdd, Nat.reduceEqDiff, Nat.reduceLT, Nat.reduceLeDiff, Nat.reduceSub, Nat.reduceMul, Nat.reduceBEq, Int.reduceToNat, Int.reduceLE, Int.reduceLT, Int.reducePow]; rfl
              refine AWp.seq ?_
              refine AWp.reg (S1 := ?S18) (ob := ?o18) (S' := ?K18) tab_ok (knowL_ok kn11_ok) mixed [1, 5, 6, 7, 8, 9] ?r18 ?h18 ?k18 ?w18
              case r18 => simp only [go_sem, kn11, rRightF, rBytesF, rLowF, unf_fdrow, lowB_len, Try.ntmps11, reduceIte, reduceCtorEq, Nat.reduceAdd, Nat.reduceEqDiff, Nat.reduceLT, Nat.reduceLeDiff, Nat.reduceSub, Nat.reduceMul, Nat.reduceBEq, Int.reduceToNat, Int.reduceLE, Int.reduceLT, Int.reducePow]; rfl
              case h18 => first | exact True.intro | omega | (simp only [go_sem, kn11, rRightF, rBytesF, rLowF, unf_fdrow, lowB_len, Try.ntmps11, reduceIte, reduceCtorEq, Nat.reduceAdd, Nat.reduceEqDiff, Nat.reduceLT, Nat.reduceLeDiff, Nat.reduceSub, Nat.reduceMul, Nat.reduceBEq, Int.reduceToNat, Int.reduceLE, Int.reduceLT, Int.reducePow]; done) | (simp only [go_sem, kn11, rRightF, rBytesF, rLowF, unf_fdrow, lowB_len, Try.ntmps11, reduceIte, reduceCtorEq, Nat.reduceAdd, Nat.reduceEqDiff, Nat.reduceLT, Nat.reduceLeDiff, Nat.reduceSub, Nat.reduceMul, Nat.reduceBEq, Int.reduceToNat, Int.reduceLE, Int.reduceLT, Int.reducePow]; omega)
              case k18 => simp only [go_sem, kn11, rRightF, rBytesF, rLowF, unf_fdrow, lowB_len, Try.ntmps11, reduceIte, reduceCtorEq, Nat.reduceAdd, Nat.reduceEqDiff, Nat.reduceLT, Nat.reduceLeDiff, Nat.reduceSub, Nat.reduceMul, Nat.reduceBEq, Int.reduceToNat, Int.reduceLE, Int.reduceLT, Int.reducePow]; rfl
              refine AWp.seq ?_
              refine AWp.reg (S1 := ?S19) (ob := ?o19) (S' := ?K19) tab_ok (knowL_ok kn11_ok) mixed [1, 5, 6, 7, 8, 9] ?r19 ?h19 ?k19 ?w19
              case r19 => simp only [go_sem, kn11, rRightF, rBytesF, rLowF, unf_fdrow, lowB_len, Try.ntmps11, reduceIte, reduceCtorEq, Nat.reduceAdd, Nat.reduceEqDiff, Nat.reduceLT, Nat.reduceLeDiff, Nat.reduceSub, Nat.reduceMul, Nat.reduceBEq, Int.reduceToNat, Int.reduceLE, Int.reduceLT, Int.reducePow]; rfl
              case h19 => first | exact True.intro | omega | (simp only [go_sem, kn11, rRightF, rBytesF, rLowF, unf_fdrow, lowB_len, Try.ntmps11, reduceIte, reduceCtorEq, Nat.reduceAdd, Nat.reduceEqDiff, Nat.reduceLT, Nat.reduceLeDiff, Nat.reduceSub, Nat.reduceMul, Nat.reduceBEq, Int.reduceToNat, Int.reduceLE, Int.reduceLT, Int.reducePow]; done) | (simp only [go_sem, kn11, rRightF, rBytesF, rLowF, unf_fdrow, lowB_len, Try.ntmps11, reduceIte, reduceCtorEq, Nat.reduceAdd, Nat.reduceEqDiff, Nat.reduceLT, Nat.reduceLeDiff, Nat.reduceSub, Nat.reduceMul, Nat.reduceBEq, Int.reduceToNat, Int.reduceLE, Int.reduceLT, Int.reducePow]; omega)
              case k19 => simp only [go_sem, kn11, rRightF, rBytesF, rLowF, unf_fdrow, lowB_len, Try.ntmps11, reduceIte, reduceCtorEq, Nat.reduceAdd, Nat.reduceEqDiff, Nat.reduceLT, Nat.reduceLeDiff, Nat.reduceSub, Nat.reduceMul, Nat.reduceBEq, Int.reduceToNat, Int.reduceLE, Int.reduceLT, Int.reducePow]; rfl
              refine AWp.seq ?_
              refine AWp.reg (S1 := ?S20) (ob := ?o20) (S' := ?K20) tab_ok (knowL_ok kn11_ok) mixed [1, 5, 6, 7, 8, 9] ?r20 ?h20 ?k20 ?w20
              case r20 => simp only [go_sem, kn11, rRightF, rBytesF, rLowF, unf_fdrow, lowB_len, Try.ntmps11, reduceIte, reduceCtorEq, Nat.reduceAdd, Nat.reduceEqDiff, Nat.reduceLT, Nat.reduceLeDiff, Nat.reduceSub, Nat.reduceMul, Nat.reduceBEq, Int.reduceToNat, Int.reduceLE, Int.reduceLT, Int.reducePow, sub_chunk]; rfl
              case h20 =>
                have hch := chunk_len (bytesL fl) i
                by_cases hlt : ((bytesL fl).length : Int) < 4000 * (i : Int) + 4000
                · simp only [go_sem, kn11, rRightF, rBytesF, rLowF, unf_fdrow, lowB_len, Try.ntmps11, reduceIte, reduceCtorEq, Nat.reduceAdd, Nat.reduceEqDiff, Nat.reduceLT, Nat.reduceLeDiff, Nat.reduceSub, Nat.reduceMul, Nat.reduceBEq, Int.reduceToNat, Int.reduceLE, Int.reduceLT, Int.reducePow, sub_chunk]
                  simp only [if_pos hlt]
                  omega
                · simp only [go_sem, kn11, rRightF, rBytesF, rLowF, unf_fdrow, lowB_len, Try.ntmps11, reduceIte, reduceCtorEq, Nat.reduceAdd, Nat.reduceEqDiff, Nat.reduceLT, Nat.reduceLeDiff, Nat.reduceSub, Nat.reduceMul, Nat.reduceBEq, Int.reduceToNat, Int.reduceLE, Int.reduceLT, Int.reducePow, sub_chunk]
                  simp only [if_neg hlt]
                  omega
              case k20 => simp only [go_sem, kn11, rRightF, rBytesF, rLowF, unf_fdrow, lowB_len, Try.ntmps11, reduceIte, reduceCtorEq, Nat.reduceAdd, Nat.reduceEqDiff, Nat.reduceLT, Nat.reduceLeDiff, Nat.reduceSub, Nat.reduceMul, Nat.reduceBEq, Int.reduceToNat, Int.reduceLE, Int.reduceLT, Int.reducePow]; rfl
              refine AWp.reg (S1 := ?S21) (ob := ?o21) (S' := ?K21) tab_ok (knowL_ok kn11_ok) mixed [1, 5, 6, 7, 8] ?r21 ?h21 ?k21 ?w21
              case r21 => simp only [go_sem, kn11, rRightF, rBytesF, rLowF, unf_fdrow, lowB_len, Try.ntmps11, reduceIte, reduceCtorEq, Nat.reduceAdd, Nat.reduceEqDiff, Nat.reduceLT, Nat.reduceLeDiff, Nat.reduceSub, Nat.reduceMul, Nat.reduceBEq, Int.reduceToNat, Int.reduceLE, Int.reduceLT, Int.reducePow, sub_chunk]; rfl
              case h21 =>
                rw [recR_len]
                omega
              case k21 => simp only [go_sem, kn11, rRightF, rBytesF, rLowF, unf_fdrow, lowB_len, Try.ntmps11, reduceIte, reduceCtorEq, Nat.reduceAdd, Nat.reduceEqDiff, Nat.reduceLT, Nat.reduceLeDiff, Nat.reduceSub, Nat.reduceMul, Nat.reduceBEq, Int.reduceToNat, Int.reduceLE, Int.reduceLT, Int.reducePow]; rfl
              refine AWp.reg (S1 := ?S22) (ob := ?o22) (S' := ?K22) tab_ok (knowL_ok kn11_ok) mixed [1, 5, 6, 7, 8] ?r22 ?h22 ?k22 ?w22
              case r22 => simp only [go_sem, kn11, rRightF, rBytesF, rLowF, unf_fdrow, lowB_len, Try.ntmps11, reduceIte, reduceCtorEq, Nat.reduceAdd, Nat.reduceEqDiff, Nat.reduceLT, Nat.reduceLeDiff, Nat.reduceSub, Nat.reduceMul, Nat.reduceBEq, Int.reduceToNat, Int.reduceLE, Int.reduceLT, Int.reducePow]; rfl
              case h22 => first | exact True.intro | omega | (simp only [go_sem, kn11, rRightF, rBytesF, rLowF, unf_fdrow, lowB_len, Try.ntmps11, reduceIte, reduceCtorEq, Nat.reduceAdd, Nat.reduceEqDiff, Nat.reduceLT, Nat.reduceLeDiff, Nat.reduceSub, Nat.reduceMul, Nat.reduceBEq, Int.reduceToNat, Int.reduceLE, Int.reduceLT, Int.reducePow]; done) | (simp only [go_sem, kn11, rRightF, rBytesF, rLowF, unf_fdrow, lowB_len, Try.ntmps11, reduceIte, reduceCtorEq, Nat.reduceAdd, Nat.reduceEqDiff, Nat.reduceLT, Nat.reduceLeDiff, Nat.reduceSub, Nat.reduceMul, Nat.reduceBEq, Int.reduceToNat, Int.reduceLE, Int.reduceLT, Int.reducePow]; omega)
              case k22 => simp only [go_sem, kn11, rRightF, rBytesF, rLowF, unf_fdrow, lowB_len, Try.ntmps11, reduceIte, reduceCtorEq, Nat.reduceAdd, Nat.reduceEqDiff, Nat.reduceLT, Nat.reduceLeDiff, Nat.reduceSub, Nat.reduceMul, Nat.reduceBEq, Int.reduceToNat, Int.reduceLE, Int.reduceLT, Int.reducePow]; rfl
              refine ⟨1 - (i + 1), ⟨[(1, .one (.s (.ptr 0 0))), (5, .one (dv (.slice none 1 (brow (bytesL fl))))), (6, .one (dv (.int .i64 ((1 : Nat) : Int)))), (7, .one (.s (.row 1 1 0 (i + 1) none))), (8, .one (dv (.int .i64 (((i + 1) : Nat) : Int))))], [(1, .row (recR n 1 (bytesL fl) (i + 1)) 38), (0, .cells [.d (.int .i64 n), .d (.slice z 3 (fdrow fl))] 34)], 2⟩, by omega, ?_, i + 1, by omega, rfl, rfl⟩
              exact (Conv.keep [1, 5, 6, 7, 8] [8, 0] (by simp)).trans (Conv.rename (fun j => if j = 1 then 8 else j) (by simp; done) (by simp; done) (by simp [St.keep, keepE, lookN, AVal.ren, AV.ren, Sc.ren, AVal.ids, AV.ids, Sc.ids, recR_len]; done) (by simp [St.keep, keepE, lookN, AObj.ren, AObj.ids, Sc.ids, Sc.ren, recR_succ, recB, brow]; done) (by simp; done))
            case f16 =>
              intro hb4
              have hi : i = 1 := by simp at hb4; omega
              subst hi
              refine AWp.exit ?_
              refine thenA_exit ?_
              refine thenA_exit ?_
              refine inB_eq ?_
              refine AWp.seq ?_
              refine AWp.reg (S1 := ?S23) (ob := ?o23) (S' := ?K23) tab_ok (knowL_ok kn11_ok) mixed [2, 3] ?r23 ?h23 ?k23 ?w23
              case r23 => simp only [go_sem, kn11, rRightF, rBytesF, rLowF, unf_fdrow, lowB_len, Try.ntmps11, reduceIte, reduceCtorEq, Nat.reduceAdd, Nat.reduceEqDiff, Nat.reduceLT, Nat.reduceLeDiff, Nat.reduceSub, Nat.reduceMul, Nat.reduceBEq, Int.reduceToNat, Int.reduceLE, Int.reduceLT, Int.reducePow]; rfl
              case h23 => first | exact True.intro | omega | (simp only [go_sem, kn11, rRightF, rBytesF, rLowF, unf_fdrow, lowB_len, Try.ntmps11, reduceIte, reduceCtorEq, Nat.reduceAdd, Nat.reduceEqDiff, Nat.reduceLT, Nat.reduceLeDiff, Nat.reduceSub, Nat.reduceMul, Nat.reduceBEq, Int.reduceToNat, Int.reduceLE, Int.reduceLT, Int.reducePow]; done) | (simp only [go_sem, kn11, rRightF, rBytesF, rLowF, unf_fdrow, lowB_len, Try.ntmps11, reduceIte, reduceCtorEq, Nat.reduceAdd, Nat.reduceEqDiff, Nat.reduceLT, Nat.reduceLeDiff, Nat.reduceSub, Nat.reduceMul, Nat.reduceBEq, Int.reduceToNat, Int.reduceLE, Int.reduceLT, Int.reducePow]; omega)
              case k23 => simp only [go_sem, kn11, rRightF, rBytesF, rLowF, unf_fdrow, lowB_len, Try.ntmps11, reduceIte, reduceCtorEq, Nat.reduceAdd, Nat.reduceEqDiff, Nat.reduceLT, Nat.reduceLeDiff, Nat.reduceSub, Nat.reduceMul, Nat.reduceBEq, Int.reduceToNat, Int.reduceLE, Int.reduceLT, Int.reducePow]; rfl
              refine AWp.ret ?_
              refine ends_p (vs := ?vs2) (ob := ?ro2) (vs' := ?ws2) (ks := ?ks2) (ob2 := ?rp2) tab_ok (by simp) ?er2 ?eo2 ?ef2 ?eg2 ?en2 ?ek2 ?ev2
              case er2 => simp only [go_sem, kn11, rRightF, rBytesF, rLowF, unf_fdrow, lowB_len, Try.ntmps11, reduceIte, reduceCtorEq, Nat.reduceAdd, Nat.reduceEqDiff, Nat.reduceLT, Nat.reduceLeDiff, Nat.reduceSub, Nat.reduceMul, Nat.reduceBEq, Int.reduceToNat, Int.reduceLE, Int.reduceLT, Int.reducePow, Try.results11]; rfl
              case eo2 => first | exact True.intro | simp only [go_sem, kn11, rRightF, rBytesF, rLowF, unf_fdrow, lowB_len, Try.ntmps11, reduceIte, reduceCtorEq, Nat.reduceAdd, Nat.reduceEqDiff, Nat.reduceLT, Nat.reduceLeDiff, Nat.reduceSub, Nat.reduceMul, Nat.reduceBEq, Int.reduceToNat, Int.reduceLE, Int.reduceLT, Int.reducePow]
              case ef2 => simp only [go_sem, kn11, rRightF, rBytesF, rLowF, unf_fdrow, lowB_len, Try.ntmps11, reduceIte, reduceCtorEq, Nat.reduceAdd, Nat.reduceEqDiff, Nat.reduceLT, Nat.reduceLeDiff, Nat.reduceSub, Nat.reduceMul, Nat.reduceBEq, Int.reduceToNat, Int.reduceLE, Int.reduceLT, Int.reducePow]; rfl
              case eg2 => simp [recR_len]
              case en2 => simp only [go_sem, kn11, rRightF, rBytesF, rLowF, unf_fdrow, lowB_len, Try.ntmps11, reduceIte, reduceCtorEq, Nat.reduceAdd, Nat.reduceEqDiff, Nat.reduceLT, Nat.reduceLeDiff, Nat.reduceSub, Nat.reduceMul, Nat.reduceBEq, Int.reduceToNat, Int.reduceLE, Int.reduceLT, Int.reducePow]
              case ek2 => simp only [go_sem, kn11, rRightF, rBytesF, rLowF, unf_fdrow, lowB_len, Try.ntmps11, reduceIte, reduceCtorEq, Nat.reduceAdd, Nat.reduceEqDiff, Nat.reduceLT, Nat.reduceLeDiff, Nat.reduceSub, Nat.reduceMul, Nat.reduceBEq, Int.reduceToNat, Int.reduceLE, Int.reduceLT, Int.reducePow]
              case ev2 =>
                rw [encV, if_pos hr, show nP (bytesL fl) = 1 from by simp [nP, h0]]; rfl
      case f9 =>
        intro hb2
        have h0 : ¬ (nChunks 4000 (bytesL fl).length) = 0 := by simp at hb2; omega
        refine AWp.skip ?_
        refine AWp.seq ?_
        refine AWp.seq ?_
        refine AWp.reg (S1 := ?S24) (ob := ?o24) (S' := ?K24) tab_ok (knowL_ok kn11_ok) mixed [1, 5, 6, 24] ?r24 ?h24 ?k24 ?w24
        case r24 => simp only [go_sem, kn11, rRightF, rBytesF, rLowF, unf_fdrow, lowB_len, Try.ntmps11, reduceIte, reduceCtorEq, Nat.reduceAdd, Nat.reduceEqDiff, Nat.reduceLT, Nat.reduceLeDiff, Nat.reduceSub, Nat.reduceMul, Nat.reduceBEq, Int.reduceToNat, Int.reduceLE, Int.reduceLT, Int.reducePow]; rfl
        case h24 => first | exact True.intro | omega | (simp only [go_sem, kn11, rRightF, rBytesF, rLowF, unf_fdrow, lowB_len, Try.ntmps11, reduceIte, reduceCtorEq, Nat.reduceAdd, Nat.reduceEqDiff, Nat.reduceLT, Nat.reduceLeDiff, Nat.reduceSub, Nat.reduceMul, Nat.reduceBEq, Int.reduceToNat, Int.reduceLE, Int.reduceLT, Int.reducePow]; done) | (simp only [go_sem, kn11, rRightF, rBytesF, rLowF, unf_fdrow, lowB_len, Try.ntmps11, reduceIte, reduceCtorEq, Nat.reduceAdd, Nat.reduceEqDiff, Nat.reduceLT, Nat.reduceLeDiff, Nat.reduceSub, Nat.reduceMul, Nat.reduceBEq, Int.reduceToNat, Int.reduceLE, Int.reduceLT, Int.reducePow]; omega)
        case k24 => simp only [go_sem, kn11, rRightF, rBytesF, rLowF, unf_fdrow, lowB_len, Try.ntmps11, reduceIte, reduceCtorEq, Nat.reduceAdd, Nat.reduceEqDiff, Nat.reduceLT, Nat.reduceLeDiff, Nat.reduceSub, Nat.reduceMul, Nat.reduceBEq, Int.reduceToNat, Int.reduceLE, Int.reduceLT, Int.reducePow]; rfl
        refine AWp.cond (b := ?b25) ?c25 ?t25 ?f25
        case c25 => simp only [go_sem, kn11, rRightF, rBytesF, rLowF, unf_fdrow, lowB_len, Try.ntmps11, reduceIte, reduceCtorEq, Nat.reduceAdd, Nat.reduceEqDiff, Nat.reduceLT, Nat.reduceLeDiff, Nat.reduceSub, Nat.reduceMul, Nat.reduceBEq, Int.reduceToNat, Int.reduceLE, Int.reduceLT, Int.reducePow]; rfl
        case t25 =>
          intro hb5
          exfalso; simp at hb5; omega
        case f25 =>
          intro hb5
          refine AWp.skip ?_
          refine AWp.seq ?_
          refine AWp.reg (S1 := ?S26) (ob := ?o26) (S' := ?K26) tab_ok (knowL_ok kn11_ok) mixed [1, 5, 6, 7] ?r26 ?h26 ?k26 ?w26
          case r26 => simp only [go_sem, kn11, rRightF, rBytesF, rLowF, unf_fdrow, lowB_len, Try.ntmps11, reduceIte, reduceCtorEq, Nat.reduceAdd, Nat.reduceEqDiff, Nat.reduceLT, Nat.reduceLeDiff, Nat.reduceSub, Nat.reduceMul, Nat.reduceBEq, Int.reduceToNat, Int.reduceLE, Int.reduceLT, Int.reducePow]; rfl
          case h26 => first | exact True.intro | omega | (simp only [go_sem, kn11, rRightF, rBytesF, rLowF, unf_fdrow, lowB_len, Try.ntmps11, reduceIte, reduceCtorEq, Nat.reduceAdd, Nat.reduceEqDiff, Nat.reduceLT, Nat.reduceLeDiff, Nat.reduceSub, Nat.reduceMul, Nat.reduceBEq, Int.reduceToNat, Int.reduceLE, Int.reduceLT, Int.reducePow]; done) | (simp only [go_sem, kn11, rRightF, rBytesF, rLowF, unf_fdrow, lowB_len, Try.ntmps11, reduceIte, reduceCtorEq, Nat.reduceAdd, Nat.reduceEqDiff, Nat.reduceLT, Nat.reduceLeDiff, Nat.reduceSub, Nat.reduceMul, Nat.reduceBEq, Int.reduceToNat, Int.reduceLE, Int.reduceLT, Int.reducePow]; omega)
          case k26 => simp only [go_sem, kn11, rRightF, rBytesF, rLowF, unf_fdrow, lowB_len, Try.ntmps11, reduceIte, reduceCtorEq, Nat.reduceAdd, Nat.reduceEqDiff, Nat.reduceLT, Nat.reduceLeDiff, Nat.reduceSub, Nat.reduceMul, Nat.reduceBEq, Int.reduceToNat, Int.reduceLE, Int.reduceLT, Int.reducePow]; rfl
          refine AWp.seq ?_
          refine AWp.seq ?_
          refine AWp.reg (S1 := ?S27) (ob := ?o27) (S' := ?K27) tab_ok (knowL_ok kn11_ok) mixed [1, 5, 6, 7, 8] ?r27 ?h27 ?k27 ?w27
          case r27 => simp only [go_sem, kn11, rRightF, rBytesF, rLowF, unf_fdrow, lowB_len, Try.ntmps11, reduceIte, reduceCtorEq, Nat.reduceAdd, Nat.reduceEqDiff, Nat.reduceLT, Nat.reduceLeDiff, Nat.reduceSub, Nat.reduceMul, Nat.reduceBEq, Int.reduceToNat, Int.reduceLE, Int.reduceLT, Int.reducePow]; rfl
          case h27 => first | exact True.intro | omega | (simp only [go_sem, kn11, rRightF, rBytesF, rLowF, unf_fdrow, lowB_len, Try.ntmps11, reduceIte, reduceCtorEq, Nat.reduceAdd, Nat.reduceEqDiff, Nat.reduceLT, Nat.reduceLeDiff, Nat.reduceSub, Nat.reduceMul, Nat.reduceBEq, Int.reduceToNat, Int.reduceLE, Int.reduceLT, Int.reducePow]; done) | (simp only [go_sem, kn11, rRightF, rBytesF, rLowF, unf_fdrow, lowB_len, Try.ntmps11, reduceIte, reduceCtorEq, Nat.reduceAdd, Nat.reduceEqDiff, Nat.reduceLT, Nat.reduceLeDiff, Nat.reduceSub, Nat.reduceMul, Nat.reduceBEq, Int.reduceToNat, Int.reduceLE, Int.reduceLT, Int.reducePow]; omega)
          case k27 => simp only [go_sem, kn11, rRightF, rBytesF, rLowF, unf_fdrow, lowB_len, Try.ntmps11, reduceIte, reduceCtorEq, Nat.reduceAdd, Nat.reduceEqDiff, Nat.reduceLT, Nat.reduceLeDiff, Nat.reduceSub, Nat.reduceMul, Nat.reduceBEq, Int.reduceToNat, Int.reduceLE, Int.reduceLT, Int.reducePow]; rfl
          refine AWp.block ?_
          refine AWp.conv (Conv.nilT 7 (e := 1) (ety := 38) rfl rfl) ?_
          refine AWp.conv (Conv.keep [1, 5, 6, 7, 8] [1, 0] (by simp [St.nilT])) ?_
          refine AWp.loop (fun k S => ∃ i : Nat, i ≤ (nChunks 4000 (bytesL fl).length) ∧ k = (nChunks 4000 (bytesL fl).length) - i ∧ S = ⟨[(1, .one (.s (.ptr 0 0))), (5, .one (dv (.slice none 1 (brow (bytesL fl))))), (6, .one (dv (.int .i64 (((nChunks 4000 (bytesL fl).length) : Nat) : Int)))), (7, .one (.s (.row 1 1 0 i none))), (8, .one (dv (.int .i64 ((i : Nat) : Int))))], [(1, .row (recR n (nChunks 4000 (bytesL fl).length) (bytesL fl) i) 38), (0, .cells [.d (.int .i64 n), .d (.slice z 3 (fdrow fl))] 34)], 2⟩) ((nChunks 4000 (bytesL fl).length)) ?i2 ?n2
          case i2 =>
            exact ⟨0, by omega, rfl, by simp [St.nilT, St.keep, keepE, lookN, recR]⟩
          case n2 =>
            rintro k S ⟨i, hi0, rfl, rfl⟩
            refine AWp.seq ?_
            refine AWp.seq ?_
            refine AWp.reg (S1 := ?S28) (ob := ?o28) (S' := ?K28) tab_ok (knowL_ok kn11_ok) mixed [1, 5, 6, 7, 8, 27] ?r28 ?h28 ?k28 ?w28
            case r28 => simp only [go_sem, kn11, rRightF, rBytesF, rLowF, unf_fdrow, lowB_len, Try.ntmps11, reduceIte, reduceCtorEq, Nat.reduceAdd, Nat.reduceEqDiff, Nat.reduceLT, Nat.reduceLeDiff, Nat.reduceSub, Nat.reduceMul, Nat.reduceBEq, Int.reduceToNat, Int.reduceLE, Int.reduceLT, Int.reducePow]; rfl
            case h28 => first | exact True.intro | omega | (simp only [go_sem, kn11, rRightF, rBytesF, rLowF, unf_fdrow, lowB_len, Try.ntmps11, reduceIte, reduceCtorEq, Nat.reduceAdd, Nat.reduceEqDiff, Nat.reduceLT, Nat.reduceLeDiff, Nat.reduceSub, Nat.reduceMul, Nat.reduceBEq, Int.reduceToNat, Int.reduceLE, Int.reduceLT, Int.reducePow]; done) | (simp only [go_sem, kn11, rRightF, rBytesF, rLowF, unf_fdrow, lowB_len, Try.ntmps11, reduceIte, reduceCtorEq, Nat.reduceAdd, Nat.reduceEqDiff, Nat.reduceLT, Nat.reduceLeDiff, Nat.reduceSub, Nat.reduceMul, Nat.reduceBEq, Int.reduceToNat, Int.reduceLE, Int.reduceLT, Int.reducePow]; omega)
            case k28 => simp only [go_sem, kn11, rRightF, rBytesF, rLowF, unf_fdrow, lowB_len, Try.ntmps11, reduceIte, reduceCtorEq, Nat.reduceAdd, Nat.reduceEqDiff, Nat.reduceLT, Nat.reduceLeDiff, Nat.reduceSub, Nat.reduceMul, Nat.reduceBEq, Int.reduceToNat, Int.reduceLE, Int.reduceLT, Int.reducePow]; rfl
            refine AWp.cond (b := ?b29) ?c29 ?t29 ?f29
            case c29 => simp only [go_sem, kn11, rRightF, rBytesF, rLowF, unf_fdrow, lowB_len, Try.ntmps11, reduceIte, reduceCtorEq, Nat.reduceAdd, Nat.reduceEqDiff, Nat.reduceLT, Nat.reduceLeDiff, Nat.reduceSub, Nat.reduceMul, Nat.reduceBEq, Int.reduceToNat, Int.reduceLE, Int.reduceLT, Int.reducePow]; rfl
            case t29 =>
              intro hb6
              have hi : i < (nChunks 4000 (bytesL fl).length) := by simp at hb6; omega
              have hle := (nChunks_lt (k := 4000) (len := (bytesL fl).length) (j := i) (by omega)).2 hi
              refine AWp.skip ?_
              refine AWp.seq ?_
              refine AWp.block ?_
              refine AWp.seq ?_
              refine AWp.reg (S1 := ?S30) (ob := ?o30) (S' := ?K30) tab_ok (knowL_ok kn11_ok) mixed [1, 5, 6, 7, 8, 9] ?r30 ?h30 ?k30 ?w30
              case r30 => simp only [go_sem, kn11, rRightF, rBytesF, rLowF, unf_fdrow, lowB_len, Try.ntmps11, reduceIte, reduceCtorEq, Nat.reduceAdd, Nat.reduceEqDiff, Nat.reduceLT, Nat.reduceLeDiff, Nat.reduceSub, Nat.reduceMul, Nat.reduceBEq, Int.reduceToNat, Int.reduceLE, Int.reduceLT, Int.reducePow]; rfl
              case h30 => first | exact True.intro | omega | (simp only [go_sem, kn11, rRightF, rBytesF, rLowF, unf_fdrow, lowB_len, Try.ntmps11, reduceIte, reduceCtorEq, Nat.reduceAdd, Nat.reduceEqDiff, Nat.reduceLT, Nat.reduceLeDiff, Nat.reduceSub, Nat.reduceMul, Nat.reduceBEq, Int.reduceToNat, Int.reduceLE, Int.reduceLT, Int.reducePow]; done) | (simp only [go_sem, kn11, rRightF, rBytesF, rLowF, unf_fdrow, lowB_len, Try.ntmps11, reduceIte, reduceCtorEq, Nat.reduceAdd, Nat.reduceEqDiff, Nat.reduceLT, Nat.reduceLeDiff, Nat.reduceSub, Nat.reduceMul, Nat.reduceBEq, Int.reduceToNat, Int.reduceLE, Int.reduceLT, Int.reducePow]; omega)
              case k30 => simp only [go_sem, kn11, rRightF, rBytesF, rLowF, unf_fdrow, lowB_len, Try.ntmps11, reduceIte, reduceCtorEq, Nat.reduceAdd, Nat.reduceEqDiff, Nat.reduceLT, Nat.reduceLeDiff, Nat.reduceSub, Nat.reduceMul, Nat.reduceBEq, Int.reduceToNat, Int.reduceLE, Int.reduceLT, Int.reducePow]; rfl
              refine AWp.seq ?_
              refine AWp.reg (S1 := ?S31) (ob := ?o31) (S' := ?K31) tab_ok (knowL_ok kn11_ok) mixed [1, 5, 6, 7, 8, 9] ?r31 ?h31 ?k31 ?w31
              case r31 => simp only [go_sem, kn11, rRightF, rBytesF, rLowF, unf_fdrow, lowB_len, Try.ntmps11, reduceIte, reduceCtorEq, Nat.reduceAdd, Nat.reduceEqDiff, Nat.reduceLT, Nat.reduceLeDiff, Nat.reduceSub, Nat.reduceMul, Nat.reduceBEq, Int.reduceToNat, Int.reduceLE, Int.reduceLT, Int.reducePow]; rfl
              case h31 => first | exact True.intro | omega | (simp only [go_sem, kn11, rRightF, rBytesF, rLowF, unf_fdrow, lowB_len, Try.ntmps11, reduceIte, reduceCtorEq, Nat.reduceAdd, Nat.reduceEqDiff, Nat.reduceLT, Nat.reduceLeDiff, Nat.reduceSub, Nat.reduceMul, Nat.reduceBEq, Int.reduceToNat, Int.reduceLE, Int.reduceLT, Int.reducePow]; done) | (simp only [go_sem, kn11, rRightF, rBytesF, rLowF, unf_fdrow, lowB_len, Try.ntmps11, reduceIte, reduceCtorEq, Nat.reduceAdd, Nat.reduceEqDiff, Nat.reduceLT, Nat.reduceLeDiff, Nat.reduceSub, Nat.reduceMul, Nat.reduceBEq, Int.reduceToNat, Int.reduceLE, Int.reduceLT, Int.reducePow]; omega)
              case k31 => simp only [go_sem, kn11, rRightF, rBytesF, rLowF, unf_fdrow, lowB_len, Try.ntmps11, reduceIte, reduceCtorEq, Nat.reduceAdd, Nat.reduceEqDiff, Nat.reduceLT, Nat.reduceLeDiff, Nat.reduceSub, Nat.reduceMul, Nat.reduceBEq, Int.reduceToNat, Int.reduceLE, Int.reduceLT, Int.reducePow]; rfl
              refine AWp.seq ?_
              refine AWp.reg (S1 := ?S32) (ob := ?o32) (S' := ?K32) tab_ok (knowL_ok kn11_ok) mixed [1, 5, 6, 7, 8, 9] ?r32 ?h32 ?k32 ?w32
              case r32 => simp only [go_sem, kn11, rRightF, rBytesF, rLowF, unf_fdrow, lowB_len, Try.ntmps11, reduceIte, reduceCtorEq, Nat.reduceAdd, Nat.reduceEqDiff, Nat.reduceLT, Nat.reduceLeDiff, Nat.reduceSub, Nat.reduceMul, Nat.reduceBEq, Int.reduceToNat, Int.reduceLE, Int.reduceLT, Int.reducePow]; rfl
              case h32 => first | exact True.intro | omega | (simp only [go_sem, kn11, rRightF, rBytesF, rLowF, unf_fdrow, lowB_len, Try.ntmps11, reduceIte, reduceCtorEq, Nat.reduceAdd, Nat.reduceEqDiff, Nat.reduceLT, Nat.reduceLeDiff, Nat.reduceSub, Nat.reduceMul, Nat.reduceBEq, Int.reduceToNat, Int.reduceLE, Int.reduceLT, Int.reducePow]; done) | (simp only [go_sem, kn11, rRightF, rBytesF, rLowF, unf_fdrow, lowB_len, Try.ntmps11, reduceIte, reduceCtorEq, Nat.reduceAdd, Nat.reduceEqDiff, Nat.reduceLT, Nat.reduceLeDiff, Nat.reduceSub, Nat.reduceMul, Nat.reduceBEq, Int.reduceToNat, Int.reduceLE, Int.reduceLT, Int.reducePow]; omega)
              case k32 => simp only [go_sem, kn11, rRightF, rBytesF, rLowF, unf_fdrow, lowB_len, Try.ntmps11, reduceIte, reduceCtorEq, Nat.reduceAdd, Nat.reduceEqDiff, Nat.reduceLT, Nat.reduceLeDiff, Nat.reduceSub, Nat.reduceMul, Nat.reduceBEq, Int.reduceToNat, Int.reduceLE, Int.reduceLT, Int.reducePow]; rfl
              refine AWp.seq ?_
              refine AWp.reg (S1 := ?S33) (ob := ?o33) (S' := ?K33) tab_ok (knowL_ok kn11_ok) mixed [1, 5, 6, 7, 8, 9] ?r33 ?h33 ?k33 ?w33
              case r33 => simp only [go_sem, kn11, rRightF, rBytesF, rLowF, unf_fdrow, lowB_len, Try.ntmps11, reduceIte, reduceCtorEq, Nat.reduceAdd, Nat.reduceEqDiff, Nat.reduceLT, Nat.reduceLeDiff, Nat.reduceSub, Nat.reduceMul, Nat.reduceBEq, Int.reduceToNat, Int.reduceLE, Int.reduceLT, Int.reducePow, sub_chunk]; rfl
              case h33 =>
                have hch := chunk_len (bytesL fl) i
                by_cases hlt : ((bytesL fl).length : Int) < 4000 * (i : Int) + 4000
                · simp only [go_sem, kn11, rRightF, rBytesF, rLowF, unf_fdrow, lowB_len, Try.ntmps11, reduceIte, reduceCtorEq, Nat.reduceAdd, Nat.reduceEqDiff, Nat.reduceLT, Nat.reduceLeDiff, Nat.reduceSub, Nat.reduceMul, Nat.reduceBEq, Int.reduceToNat, Int.reduceLE, Int.reduceLT, Int.reducePow, sub_chunk]
                  simp only [if_pos hlt]
                  omega
                · simp only [go_sem, kn11, rRightF, rBytesF, rLowF, unf_fdrow, lowB_len, Try.ntmps11, reduceIte, reduceCtorEq, Nat.reduceAdd, Nat.reduceEqDiff, Nat.reduceLT, Nat.reduceLeDiff, Nat.reduceSub, Nat.reduceMul, Nat.reduceBEq, Int.reduceToNat, Int.reduceLE, Int.reduceLT, Int.reducePow, sub_chunk]
                  simp only [if_neg hlt]
                  omega
              case k33 => simp only [go_sem, kn11, rRightF, rBytesF, rLowF, unf_fdrow, lowB_len, Try.ntmps11, reduceIte, reduceCtorEq, Nat.reduceAdd, Nat.reduceEqDiff, Nat.reduceLT, Nat.reduceLeDiff, Nat.reduceSub, Nat.reduceMul, Nat.reduceBEq, Int.reduceToNat, Int.reduceLE, Int.reduceLT, Int.reducePow]; rfl
              refine AWp.reg (S1 := ?S34) (ob := ?o34) (S' := ?K34) tab_ok (knowL_ok kn11_ok) mixed [1, 5, 6, 7, 8] ?r34 ?h34 ?k34 ?w34
              case r34 => simp only [go_sem, kn11, rRightF, rBytesF, rLowF, unf_fdrow, lowB_len, Try.ntmps11, reduceIte, reduceCtorEq, Nat.reduceAdd, Nat.reduceEqDiff, Nat.reduceLT, Nat.reduceLeDiff, Nat.reduceSub, Nat.reduceMul, Nat.reduceBEq, Int.reduceToNat, Int.reduceLE, Int.reduceLT, Int.reducePow, sub_chunk]; rfl
              case h34 =>
                rw [recR_len]
                omega
              case k34 => simp only [go_sem, kn11, rRightF, rBytesF, rLowF, unf_fdrow, lowB_len, Try.ntmps11, reduceIte, reduceCtorEq, Nat.reduceAdd, Nat.reduceEqDiff, Nat.reduceLT, Nat.reduceLeDiff, Nat.reduceSub, Nat.reduceMul, Nat.reduceBEq, Int.reduceToNat, Int.reduceLE, Int.reduceLT, Int.reducePow]; rfl
              refine AWp.reg (S1 := ?S35) (ob := ?o35) (S' := ?K35) tab_ok (knowL_ok kn11_ok) mixed [1, 5, 6, 7, 8] ?r35 ?h35 ?k35 ?w35
              case r35 => simp only [go_sem, kn11, rRightF, rBytesF, rLowF, unf_fdrow, lowB_len, Try.ntmps11, reduceIte, reduceCtorEq, Nat.reduceAdd, Nat.reduceEqDiff, Nat.reduceLT, Nat.reduceLeDiff, Nat.reduceSub, Nat.reduceMul, Nat.reduceBEq, Int.reduceToNat, Int.reduceLE, Int.reduceLT, Int.reducePow]; rfl
              case h35 => first | exact True.intro | omega | (simp only [go_sem, kn11, rRightF, rBytesF, rLowF, unf_fdrow, lowB_len, Try.ntmps11, reduceIte, reduceCtorEq, Nat.reduceAdd, Nat.reduceEqDiff, Nat.reduceLT, Nat.reduceLeDiff, Nat.reduceSub, Nat.reduceMul, Nat.reduceBEq, Int.reduceToNat, Int.reduceLE, Int.reduceLT, Int.reducePow]; done) | (simp only [go_sem, kn11, rRightF, rBytesF, rLowF, unf_fdrow, lowB_len, Try.ntmps11, reduceIte, reduceCtorEq, Nat.reduceAdd, Nat.reduceEqDiff, Nat.reduceLT, Nat.reduceLeDiff, Nat.reduceSub, Nat.reduceMul, Nat.reduceBEq, Int.reduceToNat, Int.reduceLE, Int.reduceLT, Int.reducePow]; omega)
              case k35 => simp only [go_sem, kn11, rRightF, rBytesF, rLowF, unf_fdrow, lowB_len, Try.ntmps11, reduceIte, reduceCtorEq, Nat.reduceAdd, Nat.reduceEqDiff, Nat.reduceLT, Nat.reduceLeDiff, Nat.reduceSub, Nat.reduceMul, Nat.reduceBEq, Int.reduceToNat, Int.reduceLE, Int.reduceLT, Int.reducePow]; rfl
              refine ⟨(nChunks 4000 (bytesL fl).length) - (i + 1), ⟨[(1, .one (.s (.ptr 0 0))), (5, .one (dv (.slice none 1 (brow (bytesL fl))))), (6, .one (dv (.int .i64 (((nChunks 4000 (bytesL fl).length) : Nat) : Int)))), (7, .one (.s (.row 1 1 0 (i + 1) none))), (8, .one (dv (.int .i64 (((i + 1) : Nat) : Int))))], [(1, .row (recR n (nChunks 4000 (bytesL fl).length) (bytesL fl) (i + 1)) 38), (0, .cells [.d (.int .i64 n), .d (.slice z 3 (fdrow fl))] 34)], 2⟩, by omega, ?_, i + 1, by omega, rfl, rfl⟩
              exact (Conv.keep [1, 5, 6, 7, 8] [8, 0] (by simp)).trans (Conv.rename (fun j => if j = 1 then 8 else j) (by simp; done) (by simp; done) (by simp [St.keep, keepE, lookN, AVal.ren, AV.ren, Sc.ren, AVal.ids, AV.ids, Sc.ids, recR_len]; done) (by simp [St.keep, keepE, lookN, AObj.ren, AObj.ids, Sc.ids, Sc.ren, recR_succ, recB, brow]; done) (by simp; done))
            case f29 =>
              intro hb6
              have hi : i = (nChunks 4000 (bytesL fl).length) := by simp at hb6; omega
              subst hi
              refine AWp.exit ?_
              refine thenA_exit ?_
              refine thenA_exit ?_
              refine inB_eq ?_
              refine AWp.seq ?_
              refine AWp.reg (S1 := ?S36) (ob := ?o36) (S' := ?K36) tab_ok (knowL_ok kn11_ok) mixed [2, 3] ?r36 ?h36 ?k36 ?w36
              case r36 => simp only [go_sem, kn11, rRightF, rBytesF, rLowF, unf_fdrow, lowB_len, Try.ntmps11, reduceIte, reduceCtorEq, Nat.reduceAdd, Nat.reduceEqDiff, Nat.reduceLT, Nat.reduceLeDiff, Nat.reduceSub, Nat.reduceMul, Nat.reduceBEq, Int.reduceToNat, Int.reduceLE, Int.reduceLT, Int.reducePow]; rfl
              case h36 => first | exact True.intro | omega | (simp only [go_sem, kn11, rRightF, rBytesF, rLowF, unf_fdrow, lowB_len, Try.ntmps11, reduceIte, reduceCtorEq, Nat.reduceAdd, Nat.reduceEqDiff, Nat.reduceLT, Nat.reduceLeDiff, Nat.reduceSub, Nat.reduceMul, Nat.reduceBEq, Int.reduceToNat, Int.reduceLE, Int.reduceLT, Int.reducePow]; done) | (simp only [go_sem, kn11, rRightF, rBytesF, rLowF, unf_fdrow, lowB_len, Try.ntmps11, reduceIte, reduceCtorEq, Nat.reduceAdd, Nat.reduceEqDiff, Nat.reduceLT, Nat.reduceLeDiff, Nat.reduceSub, Nat.reduceMul, Nat.reduceBEq, Int.reduceToNat, Int.reduceLE, Int.reduceLT, Int.reducePow]; omega)
              case k36 => simp only [go_sem, kn11, rRightF, rBytesF, rLowF, unf_fdrow, lowB_len, Try.ntmps11, reduceIte, reduceCtorEq, Nat.reduceAdd, Nat.reduceEqDiff, Nat.reduceLT, Nat.reduceLeDiff, Nat.reduceSub, Nat.reduceMul, Nat.reduceBEq, Int.reduceToNat, Int.reduceLE, Int.reduceLT, Int.reducePow]; rfl
              refine AWp.ret ?_
              refine ends_p (vs := ?vs3) (ob := ?ro3) (vs' := ?ws3) (ks := ?ks3) (ob2 := ?rp3) tab_ok (by simp) ?er3 ?eo3 ?ef3 ?eg3 ?en3 ?ek3 ?ev3
              case er3 => simp only [go_sem, kn11, rRightF, rBytesF, rLowF, unf_fdrow, lowB_len, Try.ntmps11, reduceIte, reduceCtorEq, Nat.reduceAdd, Nat.reduceEqDiff, Nat.reduceLT, Nat.reduceLeDiff, Nat.reduceSub, Nat.reduceMul, Nat.reduceBEq, Int.reduceToNat, Int.reduceLE, Int.reduceLT, Int.reducePow, Try.results11]; rfl
              case eo3 => first | exact True.intro | simp only [go_sem, kn11, rRightF, rBytesF, rLowF, unf_fdrow, lowB_len, Try.ntmps11, reduceIte, reduceCtorEq, Nat.reduceAdd, Nat.reduceEqDiff, Nat.reduceLT, Nat.reduceLeDiff, Nat.reduceSub, Nat.reduceMul, Nat.reduceBEq, Int.reduceToNat, Int.reduceLE, Int.reduceLT, Int.reducePow]
              case ef3 => simp only [go_sem, kn11, rRightF, rBytesF, rLowF, unf_fdrow, lowB_len, Try.ntmps11, reduceIte, reduceCtorEq, Nat.reduceAdd, Nat.reduceEqDiff, Nat.reduceLT, Nat.reduceLeDiff, Nat.reduceSub, Nat.reduceMul, Nat.reduceBEq, Int.reduceToNat, Int.reduceLE, Int.reduceLT, Int.reducePow]; rfl
              case eg3 => simp [recR_len]
              case en3 => simp only [go_sem, kn11, rRightF, rBytesF, rLowF, unf_fdrow, lowB_len, Try.ntmps11, reduceIte, reduceCtorEq, Nat.reduceAdd, Nat.reduceEqDiff, Nat.reduceLT, Nat.reduceLeDiff, Nat.reduceSub, Nat.reduceMul, Nat.reduceBEq, Int.reduceToNat, Int.reduceLE, Int.reduceLT, Int.reducePow]
              case ek3 => simp only [go_sem, kn11, rRightF, rBytesF, rLowF, unf_fdrow, lowB_len, Try.ntmps11, reduceIte, reduceCtorEq, Nat.reduceAdd, Nat.reduceEqDiff, Nat.reduceLT, Nat.reduceLeDiff, Nat.reduceSub, Nat.reduceMul, Nat.reduceBEq, Int.reduceToNat, Int.reduceLE, Int.reduceLT, Int.reducePow]
              case ev3 =>
                rw [encV, if_pos hr, show nP (bytesL fl) = nChunks 4000 (bytesL fl).length from by simp [nP, h0]]; rfl
  · cases hq

end Go.Proofs.Hg
