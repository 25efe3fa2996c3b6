import Derived.Test.YtcicjmhealkigaaCF5
import Derived.Test.YtcicjmhealkigaaCF3
set_option linter.unusedSimpArgs false
set_option linter.unusedVariables false
set_option maxHeartbeats 4000000
namespace Go.Proofs.Hg
open Go.RowKit
set_option maxRecDepth 100000
def fileB (f : FileL) : List UInt8 := u8 (f.1.length : Int) :: (f.1 ++ (lowB f.2.1 8 ++ (lowB (f.2.2.length : Int) 4 ++ f.2.2)))
def bytesL (l : List FileL) : List UInt8 := l.flatMap fileB
def FileIn (f : FileL) : Prop := f.1.length ≤ 32 ∧ 0 ≤ f.2.1 ∧ f.2.1 ≤ 1099511627776 ∧ f.2.2.length ≤ 65536
def FilesIn (l : List FileL) : Prop := l.length ≤ 1024 ∧ ∀ f ∈ l, FileIn f
theorem FilesIn.at {l : List FileL} (h : FilesIn l) {i : Nat} (hi : i < l.length) : FileIn (l.getD i f0L) := h.2 _ (by rw [getD_lt (by omega)]; exact List.getElem_mem _)
theorem FilesIn.ok {l : List FileL} (h : FilesIn l) : FilesOk l := ⟨Nat.le_trans h.1 (by omega), fun f hf => Nat.le_trans (h.2 f hf).1 (by omega)⟩
theorem rightL_in {n : Int} {l : List FileL} (h : rightL n l = true) : 0 ≤ n ∧ n ≤ 1099511627776 ∧ FilesIn l := by
  simp only [rightL, headOk, Bool.and_eq_true, decide_eq_true_eq, List.all_eq_true, List.mem_range] at h
  refine ⟨h.1.1, h.1.2.1, by omega, fun f hf => ?_⟩
  obtain ⟨i, hi, rfl⟩ := List.mem_iff_getElem.1 hf
  have := h.2 i hi
  simp only [fileOk, pathB, Bool.and_eq_true, decide_eq_true_eq, getD_lt hi] at this
  unfold FileIn
  omega
theorem fileB_len {f : FileL} (h : FileIn f) : (fileB f).length ≤ 65581 := by
  unfold FileIn at h
  simp only [fileB, List.length_cons, List.length_append, lowB_len]
  omega
theorem bytes_take {l : List FileL} (h : FilesIn l) : ∀ i, ((l.take i).flatMap fileB).length ≤ 65581 * i
  | 0 => by simp
  | i + 1 => by
    by_cases hi : i < l.length
    · rw [take_one (by omega) f0L, List.flatMap_append, List.length_append]
      have h1 := bytes_take h i
      have h2 := fileB_len (h.at hi)
      simp only [List.flatMap_cons, List.flatMap_nil, List.append_nil]
      omega
    · have h1 := bytes_take h i
      rw [List.take_of_length_le (by omega)] at h1 ⊢
      omega
theorem wrapU {v : Int} (h0 : 0 ≤ v) (h1 : v ≤ 1099511627776) : IntKind.u64.wrap v = v := by rw [IntKind.wrap_u64]; omega
def bytesF : List AV → Option (AVal × Prop)
  | [.agg [.d (.int .i64 n), .d (.slice z e fs)]] => some (.one (dv (.slice none 1 (brow (bytesL (unf fs))))), e = 3 ∧ fs = fdrow (unf fs) ∧ FilesIn (unf fs))
  | _ => none
def kn23 : List (Nat × Cont) := [(24, lowK)]
theorem kn23_ok : ∀ p ∈ kn23, ContOk Try.prog p.1 p.2 := by
  intro p hp
  simp only [kn23, List.mem_cons, List.not_mem_nil, or_false] at hp
  rcases hp with rfl
  · exact lowK_ok
theorem bytesF_ok : ContOk Try.prog 23 (pureK bytesF) := by
  refine pure_ok (nargs := 1) Try.func23 rfl (by kernel_rfl) (Nat.le_of_ble_eq_true (by kernel_rfl)) ?_
  intro args q hq hob
  unfold bytesF at hq
  split at hq
  · rename_i n z e fs
    injection hq with hq
    subst hq
    obtain ⟨h1, h2, h3⟩ : e = 3 ∧ fs = fdrow (unf fs) ∧ FilesIn (unf fs) := hob
    generalize unf fs = fl at *
    subst h1 h2
    have hl := h3.1
    refine ⟨rfl, by simp [AV.ids, Sc.ids], by simp [AVal.ids, AV.ids, Sc.ids], by simp, ?_⟩
    refine AWp.seq ?_
    refine AWp.reg (S1 := ?S1) (ob := ?o1) (S' := ?K1) tab_ok (knowL_ok kn23_ok) mixed [1] ?r1 ?h1 ?k1 ?w1
    case r1 => simp only [go_sem, kn23, lowK, fdrow_get, fdrow_len, fileD, Try.ntmps23, reduceIte, reduceCtorEq, Nat.reduceAdd, Nat.reduceEqDiff, Nat.reduceLT, Nat.reduceLeDiff, Nat.reduceSub, Nat.reduceMul, Nat.reduceBEq, Int.reduceToNat, Int.reduceLE, Int.reduceLT, Int.reducePow]; rfl
    case h1 => first | exact True.intro | omega | (simp only [go_sem, kn23, lowK, fdrow_get, fdrow_len, fileD, Try.ntmps23, reduceIte, reduceCtorEq, Nat.reduceAdd, Nat.reduceEqDiff, Nat.reduceLT, Nat.reduceLeDiff, Nat.reduceSub, Nat.reduceMul, Nat.reduceBEq, Int.reduceToNat, Int.reduceLE, Int.reduceLT, Int.reducePow]; done) | (simp only [go_sem, kn23, lowK, fdrow_get, fdrow_len, fileD, Try.ntmps23, reduceIte, reduceCtorEq, Nat.reduceAdd, Nat.reduceEqDiff, Nat.reduceLT, Nat.reduceLeDiff, Nat.reduceSub, Nat.reduceMul, Nat.reduceBEq, Int.reduceToNat, Int.reduceLE, Int.reduceLT, Int.reducePow]; omega)
    case k1 => simp only [go_sem, kn23, lowK, fdrow_get, fdrow_len, fileD, Try.ntmps23, reduceIte, reduceCtorEq, Nat.reduceAdd, Nat.reduceEqDiff, Nat.reduceLT, Nat.reduceLeDiff, Nat.reduceSub, Nat.reduceMul, Nat.reduceBEq, Int.reduceToNat, Int.reduceLE, Int.reduceLT, Int.reducePow]; rfl
    refine AWp.seq ?_
    refine AWp.reg (S1 := ?S2) (ob := ?o2) (S' := ?K2) tab_ok (knowL_ok kn23_ok) mixed [1, 3] ?r2 ?h2 ?k2 ?w2
    case r2 => simp only [go_sem, kn23, lowK, fdrow_get, fdrow_len, fileD, Try.ntmps23, reduceIte, reduceCtorEq, Nat.reduceAdd, Nat.reduceEqDiff, Nat.reduceLT, Nat.reduceLeDiff, Nat.reduceSub, Nat.reduceMul, Nat.reduceBEq, Int.reduceToNat, Int.reduceLE, Int.reduceLT, Int.reducePow]; rfl
    case h2 => first | exact True.intro | omega | (simp only [go_sem, kn23, lowK, fdrow_get, fdrow_len, fileD, Try.ntmps23, reduceIte, reduceCtorEq, Nat.reduceAdd, Nat.reduceEqDiff, Nat.reduceLT, Nat.reduceLeDiff, Nat.reduceSub, Nat.reduceMul, Nat.reduceBEq, Int.reduceToNat, Int.reduceLE, Int.reduceLT, Int.reducePow]; done) | (simp only [go_sem, kn23, lowK, fdrow_get, fdrow_len, fileD, Try.ntmps23, reduceIte, reduceCtorEq, Nat.reduceAdd, Nat.reduceEqDiff, Nat.reduceLT, Nat.reduceLeDiff, Nat.reduceSub, Nat.reduceMul, Nat.reduceBEq, Int.reduceToNat, Int.reduceLE, Int.reduceLT, Int.reducePow]; omega)
    case k2 => simp only [go_sem, kn23, lowK, fdrow_get, fdrow_len, fileD, Try.ntmps23, reduceIte, reduceCtorEq, Nat.reduceAdd, Nat.reduceEqDiff, Nat.reduceLT, Nat.reduceLeDiff, Nat.reduceSub, Nat.reduceMul, Nat.reduceBEq, Int.reduceToNat, Int.reduceLE, Int.reduceLT, Int.reducePow]; rfl
    refine AWp.seq ?_
    refine AWp.seq ?_
    refine AWp.reg (S1 := ?S3) (ob := ?o3) (S' := ?K3) tab_ok (knowL_ok kn23_ok) mixed [3, 7, 8, 9] ?r3 ?h3 ?k3 ?w3
    case r3 => simp only [go_sem, kn23, lowK, fdrow_get, fdrow_len, fileD, Try.ntmps23, reduceIte, reduceCtorEq, Nat.reduceAdd, Nat.reduceEqDiff, Nat.reduceLT, Nat.reduceLeDiff, Nat.reduceSub, Nat.reduceMul, Nat.reduceBEq, Int.reduceToNat, Int.reduceLE, Int.reduceLT, Int.reducePow]; rfl
    case h3 => first | exact True.intro | omega | (simp only [go_sem, kn23, lowK, fdrow_get, fdrow_len, fileD, Try.ntmps23, reduceIte, reduceCtorEq, Nat.reduceAdd, Nat.reduceEqDiff, Nat.reduceLT, Nat.reduceLeDiff, Nat.reduceSub, Nat.reduceMul, Nat.reduceBEq, Int.reduceToNat, Int.reduceLE, Int.reduceLT, Int.reducePow]; done) | (simp only [go_sem, kn23, lowK, fdrow_get, fdrow_len, fileD, Try.ntmps23, reduceIte, reduceCtorEq, Nat.reduceAdd, Nat.reduceEqDiff, Nat.reduceLT, Nat.reduceLeDiff, Nat.reduceSub, Nat.reduceMul, Nat.reduceBEq, Int.reduceToNat, Int.reduceLE, Int.reduceLT, Int.reducePow]; omega)
    case k3 => simp only [go_sem, kn23, lowK, fdrow_get, fdrow_len, fileD, Try.ntmps23, reduceIte, reduceCtorEq, Nat.reduceAdd, Nat.reduceEqDiff, Nat.reduceLT, Nat.reduceLeDiff, Nat.reduceSub, Nat.reduceMul, Nat.reduceBEq, Int.reduceToNat, Int.reduceLE, Int.reduceLT, Int.reducePow]; rfl
    refine AWp.block ?_
    refine AWp.conv (Conv.nilT 3 (e := 1) (ety := 5) rfl rfl) ?_
    refine AWp.conv (Conv.rename (S' := ⟨[(3, .one (.s (.row 0 1 0 ((fl.take 0).flatMap fileB).length none))), (7, .one (.s (.d (.slice z 3 (fdrow fl))))), (8, .one (dv (.int .i64 (fl.length : Int)))), (9, .one (dv (.int .i64 ((0 : Nat) : Int))))], [(0, .row (brow ((fl.take 0).flatMap fileB)) 5)], 1⟩) (fun j => if j = 0 then 1 else j) (by simp; done) (by simp; done) (by simp [St.nilT, lookN, AVal.ren, AV.ren, Sc.ren, AVal.ids, AV.ids, Sc.ids]; done) (by simp [St.nilT, lookN, AObj.ren, AObj.ids, brow]; done) (by simp; done)) ?_
    refine AWp.loop (fun k S => ∃ i : Nat, i ≤ fl.length ∧ k = fl.length - i ∧ S = ⟨[(3, .one (.s (.row 0 1 0 ((fl.take i).flatMap fileB).length none))), (7, .one (.s (.d (.slice z 3 (fdrow fl))))), (8, .one (dv (.int .i64 (fl.length : Int)))), (9, .one (dv (.int .i64 ((i : Nat) : Int))))], [(0, .row (brow ((fl.take i).flatMap fileB)) 5)], 1⟩) fl.length ?i1 ?n1
    case i1 =>
      exact ⟨0, by omega, rfl, rfl⟩
    case n1 =>
      rintro k S ⟨i, hi0, rfl, rfl⟩
      have hT := bytes_take h3 i
      refine AWp.seq ?_
      refine AWp.reg (S1 := ?S4) (ob := ?o4) (S' := ?K4) tab_ok (knowL_ok kn23_ok) mixed [3, 7, 8, 9, 10] ?r4 ?h4 ?k4 ?w4
      case r4 => simp only [go_sem, kn23, lowK, fdrow_get, fdrow_len, fileD, Try.ntmps23, reduceIte, reduceCtorEq, Nat.reduceAdd, Nat.reduceEqDiff, Nat.reduceLT, Nat.reduceLeDiff, Nat.reduceSub, Nat.reduceMul, Nat.reduceBEq, Int.reduceToNat, Int.reduceLE, Int.reduceLT, Int.reducePow]; rfl
      case h4 => first | exact True.intro | omega | (simp only [go_sem, kn23, lowK, fdrow_get, fdrow_len, fileD, Try.ntmps23, reduceIte, reduceCtorEq, Nat.reduceAdd, Nat.reduceEqDiff, Nat.reduceLT, Nat.reduceLeDiff, Nat.reduceSub, Nat.reduceMul, Nat.reduceBEq, Int.reduceToNat, Int.reduceLE, Int.reduceLT, Int.reducePow]; done) | (simp only [go_sem, kn23, lowK, fdrow_get, fdrow_len, fileD, Try.ntmps23, reduceIte, reduceCtorEq, Nat.reduceAdd, Nat.reduceEqDiff, Nat.reduceLT, Nat.reduceLeDiff, Nat.reduceSub, Nat.reduceMul, Nat.reduceBEq, Int.reduceToNat, Int.reduceLE, Int.reduceLT, Int.reducePow]; omega)
      case k4 => simp only [go_sem, kn23, lowK, fdrow_get, fdrow_len, fileD, Try.ntmps23, reduceIte, reduceCtorEq, Nat.reduceAdd, Nat.reduceEqDiff, Nat.reduceLT, Nat.reduceLeDiff, Nat.reduceSub, Nat.reduceMul, Nat.reduceBEq, Int.reduceToNat, Int.reduceLE, Int.reduceLT, Int.reducePow]; rfl
      refine AWp.seq ?_
      refine AWp.cond (b := ?b5) ?c5 ?t5 ?f5
      case c5 => simp only [go_sem, kn23, lowK, fdrow_get, fdrow_len, fileD, Try.ntmps23, reduceIte, reduceCtorEq, Nat.reduceAdd, Nat.reduceEqDiff, Nat.reduceLT, Nat.reduceLeDiff, Nat.reduceSub, Nat.reduceMul, Nat.reduceBEq, Int.reduceToNat, Int.reduceLE, Int.reduceLT, Int.reducePow]; rfl
      case t5 =>
        intro hb1
        have hi : i < fl.length := by simp at hb1; omega
        have hp := h3.at hi
        obtain ⟨p1, p2, p3, p4⟩ := hp
        have hw1 := wrapU p2 p3
        have hw2 := wrapU (v := ((fl.getD i f0L).2.2.length : Int)) (by omega) (by omega)
        refine AWp.skip ?_
        refine AWp.seq ?_
        refine AWp.block ?_
        refine AWp.seq ?_
        refine AWp.reg (S1 := ?S6) (ob := ?o6) (S' := ?K6) tab_ok (knowL_ok kn23_ok) mixed [3, 5, 7, 8, 9] ?r6 ?h6 ?k6 ?w6
        case r6 => simp only [go_sem, kn23, lowK, fdrow_get, fdrow_len, fileD, Try.ntmps23, reduceIte, reduceCtorEq, Nat.reduceAdd, Nat.reduceEqDiff, Nat.reduceLT, Nat.reduceLeDiff, Nat.reduceSub, Nat.reduceMul, Nat.reduceBEq, Int.reduceToNat, Int.reduceLE, Int.reduceLT, Int.reducePow]; rfl
        case h6 => first | exact True.intro | omega | (simp only [go_sem, kn23, lowK, fdrow_get, fdrow_len, fileD, Try.ntmps23, reduceIte, reduceCtorEq, Nat.reduceAdd, Nat.reduceEqDiff, Nat.reduceLT, Nat.reduceLeDiff, Nat.reduceSub, Nat.reduceMul, Nat.reduceBEq, Int.reduceToNat, Int.reduceLE, Int.reduceLT, Int.reducePow]; done) | (simp only [go_sem, kn23, lowK, fdrow_get, fdrow_len, fileD, Try.ntmps23, reduceIte, reduceCtorEq, Nat.reduceAdd, Nat.reduceEqDiff, Nat.reduceLT, Nat.reduceLeDiff, Nat.reduceSub, Nat.reduceMul, Nat.reduceBEq, Int.reduceToNat, Int.reduceLE, Int.reduceLT, Int.reducePow]; omega)
        case k6 => simp only [go_sem, kn23, lowK, fdrow_get, fdrow_len, fileD, Try.ntmps23, reduceIte, reduceCtorEq, Nat.reduceAdd, Nat.reduceEqDiff, Nat.reduceLT, Nat.reduceLeDiff, Nat.reduceSub, Nat.reduceMul, Nat.reduceBEq, Int.reduceToNat, Int.reduceLE, Int.reduceLT, Int.reducePow]; rfl
        refine AWp.seq ?_
        refine AWp.drw (S1 := ?S7) (ob := ?o7) (lts := ?t7) (S' := ?K7) tab_ok (knowL_ok kn23_ok) mixed [3, 5, 7, 8, 9] ?r7 ?d7 ?h7 ?k7 ?w7
        case r7 => simp only [go_sem, kn23, lowK, fdrow_get, fdrow_len, fileD, Try.ntmps23, reduceIte, reduceCtorEq, Nat.reduceAdd, Nat.reduceEqDiff, Nat.reduceLT, Nat.reduceLeDiff, Nat.reduceSub, Nat.reduceMul, Nat.reduceBEq, Int.reduceToNat, Int.reduceLE, Int.reduceLT, Int.reducePow]; rfl
        case d7 => first | kernel_rfl | rfl
        case h7 => first | exact True.intro | omega | (simp only [go_sem, kn23, lowK, fdrow_get, fdrow_len, fileD, Try.ntmps23, reduceIte, reduceCtorEq, Nat.reduceAdd, Nat.reduceEqDiff, Nat.reduceLT, Nat.reduceLeDiff, Nat.reduceSub, Nat.reduceMul, Nat.reduceBEq, Int.reduceToNat, Int.reduceLE, Int.reduceLT, Int.reducePow]; done) | (simp only [go_sem, kn23, lowK, fdrow_get, fdrow_len, fileD, Try.ntmps23, reduceIte, reduceCtorEq, Nat.reduceAdd, Nat.reduceEqDiff, Nat.reduceLT, Nat.reduceLeDiff, Nat.reduceSub, Nat.reduceMul, Nat.reduceBEq, Int.reduceToNat, Int.reduceLE, Int.reduceLT, Int.reducePow]; omega)
        case k7 => simp only [go_sem, kn23, lowK, fdrow_get, fdrow_len, fileD, Try.ntmps23, reduceIte, reduceCtorEq, Nat.reduceAdd, Nat.reduceEqDiff, Nat.reduceLT, Nat.reduceLeDiff, Nat.reduceSub, Nat.reduceMul, Nat.reduceBEq, Int.reduceToNat, Int.reduceLE, Int.reduceLT, Int.reducePow]; rfl
        refine AWp.seq ?_
        refine AWp.reg (S1 := ?S8) (ob := ?o8) (S' := ?K8) tab_ok (knowL_ok kn23_ok) mixed [3, 5, 7, 8, 9] ?r8 ?h8 ?k8 ?w8
        case r8 => simp only [go_sem, kn23, lowK, fdrow_get, fdrow_len, fileD, Try.ntmps23, reduceIte, reduceCtorEq, Nat.reduceAdd, Nat.reduceEqDiff, Nat.reduceLT, Nat.reduceLeDiff, Nat.reduceSub, Nat.reduceMul, Nat.reduceBEq, Int.reduceToNat, Int.reduceLE, Int.reduceLT, Int.reducePow, hw1]; rfl
        case h8 => first | exact True.intro | omega | (simp only [go_sem, kn23, lowK, fdrow_get, fdrow_len, fileD, Try.ntmps23, reduceIte, reduceCtorEq, Nat.reduceAdd, Nat.reduceEqDiff, Nat.reduceLT, Nat.reduceLeDiff, Nat.reduceSub, Nat.reduceMul, Nat.reduceBEq, Int.reduceToNat, Int.reduceLE, Int.reduceLT, Int.reducePow]; done) | (simp only [go_sem, kn23, lowK, fdrow_get, fdrow_len, fileD, Try.ntmps23, reduceIte, reduceCtorEq, Nat.reduceAdd, Nat.reduceEqDiff, Nat.reduceLT, Nat.reduceLeDiff, Nat.reduceSub, Nat.reduceMul, Nat.reduceBEq, Int.reduceToNat, Int.reduceLE, Int.reduceLT, Int.reducePow]; omega)
        case k8 => simp only [go_sem, kn23, lowK, fdrow_get, fdrow_len, fileD, Try.ntmps23, reduceIte, reduceCtorEq, Nat.reduceAdd, Nat.reduceEqDiff, Nat.reduceLT, Nat.reduceLeDiff, Nat.reduceSub, Nat.reduceMul, Nat.reduceBEq, Int.reduceToNat, Int.reduceLE, Int.reduceLT, Int.reducePow]; rfl
        refine AWp.seq ?_
        refine AWp.reg (S1 := ?S9) (ob := ?o9) (S' := ?K9) tab_ok (knowL_ok kn23_ok) mixed [3, 5, 7, 8, 9] ?r9 ?h9 ?k9 ?w9
        case r9 => simp only [go_sem, kn23, lowK, fdrow_get, fdrow_len, fileD, Try.ntmps23, reduceIte, reduceCtorEq, Nat.reduceAdd, Nat.reduceEqDiff, Nat.reduceLT, Nat.reduceLeDiff, Nat.reduceSub, Nat.reduceMul, Nat.reduceBEq, Int.reduceToNat, Int.reduceLE, Int.reduceLT, Int.reducePow, hw2]; rfl
        case h9 =>
          simp only [go_sem, kn23, lowK, fdrow_get, fdrow_len, fileD, Try.ntmps23, reduceIte, reduceCtorEq, Nat.reduceAdd, Nat.reduceEqDiff, Nat.reduceLT, Nat.reduceLeDiff, Nat.reduceSub, Nat.reduceMul, Nat.reduceBEq, Int.reduceToNat, Int.reduceLE, Int.reduceLT, Int.reducePow, lowB_len]
          omega
        case k9 => simp only [go_sem, kn23, lowK, fdrow_get, fdrow_len, fileD, Try.ntmps23, reduceIte, reduceCtorEq, Nat.reduceAdd, Nat.reduceEqDiff, Nat.reduceLT, Nat.reduceLeDiff, Nat.reduceSub, Nat.reduceMul, Nat.reduceBEq, Int.reduceToNat, Int.reduceLE, Int.reduceLT, Int.reducePow]; rfl
        refine AWp.reg (S1 := ?S10) (ob := ?o10) (S' := ?K10) tab_ok (knowL_ok kn23_ok) mixed [3, 7, 8, 9] ?r10 ?h10 ?k10 ?w10
        case r10 => simp only [go_sem, kn23, lowK, fdrow_get, fdrow_len, fileD, Try.ntmps23, reduceIte, reduceCtorEq, Nat.reduceAdd, Nat.reduceEqDiff, Nat.reduceLT, Nat.reduceLeDiff, Nat.reduceSub, Nat.reduceMul, Nat.reduceBEq, Int.reduceToNat, Int.reduceLE, Int.reduceLT, Int.reducePow]; rfl
        case h10 =>
          simp only [go_sem, kn23, lowK, fdrow_get, fdrow_len, fileD, Try.ntmps23, reduceIte, reduceCtorEq, Nat.reduceAdd, Nat.reduceEqDiff, Nat.reduceLT, Nat.reduceLeDiff, Nat.reduceSub, Nat.reduceMul, Nat.reduceBEq, Int.reduceToNat, Int.reduceLE, Int.reduceLT, Int.reducePow, lowB_len]
          omega
        case k10 => simp only [go_sem, kn23, lowK, fdrow_get, fdrow_len, fileD, Try.ntmps23, reduceIte, reduceCtorEq, Nat.reduceAdd, Nat.reduceEqDiff, Nat.reduceLT, Nat.reduceLeDiff, Nat.reduceSub, Nat.reduceMul, Nat.reduceBEq, Int.reduceToNat, Int.reduceLE, Int.reduceLT, Int.reducePow]; rfl
        refine AWp.reg (S1 := ?S11) (ob := ?o11) (S' := ?K11) tab_ok (knowL_ok kn23_ok) mixed [3, 7, 8, 9] ?r11 ?h11 ?k11 ?w11
        case r11 => simp only [go_sem, kn23, lowK, fdrow_get, fdrow_len, fileD, Try.ntmps23, reduceIte, reduceCtorEq, Nat.reduceAdd, Nat.reduceEqDiff, Nat.reduceLT, Nat.reduceLeDiff, Nat.reduceSub, Nat.reduceMul, Nat.reduceBEq, Int.reduceToNat, Int.reduceLE, Int.reduceLT, Int.reducePow]; rfl
        case h11 => first | exact True.intro | omega | (simp only [go_sem, kn23, lowK, fdrow_get, fdrow_len, fileD, Try.ntmps23, reduceIte, reduceCtorEq, Nat.reduceAdd, Nat.reduceEqDiff, Nat.reduceLT, Nat.reduceLeDiff, Nat.reduceSub, Nat.reduceMul, Nat.reduceBEq, Int.reduceToNat, Int.reduceLE, Int.reduceLT, Int.reducePow]; done) | (simp only [go_sem, kn23, lowK, fdrow_get, fdrow_len, fileD, Try.ntmps23, reduceIte, reduceCtorEq, Nat.reduceAdd, Nat.reduceEqDiff, Nat.reduceLT, Nat.reduceLeDiff, Nat.reduceSub, Nat.reduceMul, Nat.reduceBEq, Int.reduceToNat, Int.reduceLE, Int.reduceLT, Int.reducePow]; omega)
        case k11 => simp only [go_sem, kn23, lowK, fdrow_get, fdrow_len, fileD, Try.ntmps23, reduceIte, reduceCtorEq, Nat.reduceAdd, Nat.reduceEqDiff, Nat.reduceLT, Nat.reduceLeDiff, Nat.reduceSub, Nat.reduceMul, Nat.reduceBEq, Int.reduceToNat, Int.reduceLE, Int.reduceLT, Int.reducePow]; rfl
        have hA : (fl.take (i + 1)).flatMap fileB = (fl.take i).flatMap fileB ++ fileB (fl.getD i f0L) := by rw [take_one (by omega) f0L, List.flatMap_append]; simp
        refine ⟨fl.length - (i + 1), ⟨[(3, .one (.s (.row 0 1 0 ((fl.take i).flatMap fileB ++ fileB (fl.getD i f0L)).length none))), (7, .one (.s (.d (.slice z 3 (fdrow fl))))), (8, .one (dv (.int .i64 (fl.length : Int)))), (9, .one (dv (.int .i64 ((i + 1 : Nat) : Int))))], [(0, .row (brow ((fl.take i).flatMap fileB ++ fileB (fl.getD i f0L))) 5)], 1⟩, by omega, ?_, i + 1, by omega, rfl, by rw [hA]⟩
        exact (Conv.keep [3, 7, 8, 9] [7] (by simp)).trans (Conv.rename (fun j => if j = 0 then 7 else j) (by simp; done) (by simp; done) (by simp [St.keep, keepE, lookN, AVal.ren, AV.ren, Sc.ren, AVal.ids, AV.ids, Sc.ids, lowB_len, fileB]; omega) (by simp [St.keep, keepE, lookN, AObj.ren, AObj.ids, Sc.ids, Sc.ren, brow, fileB]; done) (by simp; done))
      case f5 =>
        intro hb1
        have hi : i = fl.length := by simp at hb1; omega
        subst hi
        rw [List.take_length] at hT
        refine AWp.exit ?_
        refine thenA_exit ?_
        refine thenA_exit ?_
        refine inB_eq ?_
        refine AWp.seq ?_
        refine AWp.reg (S1 := ?S12) (ob := ?o12) (S' := ?K12) tab_ok (knowL_ok kn23_ok) mixed [2] ?r12 ?h12 ?k12 ?w12
        case r12 => simp only [go_sem, kn23, lowK, fdrow_get, fdrow_len, fileD, Try.ntmps23, reduceIte, reduceCtorEq, Nat.reduceAdd, Nat.reduceEqDiff, Nat.reduceLT, Nat.reduceLeDiff, Nat.reduceSub, Nat.reduceMul, Nat.reduceBEq, Int.reduceToNat, Int.reduceLE, Int.reduceLT, Int.reducePow]; rfl
        case h12 => first | exact True.intro | omega | (simp only [go_sem, kn23, lowK, fdrow_get, fdrow_len, fileD, Try.ntmps23, reduceIte, reduceCtorEq, Nat.reduceAdd, Nat.reduceEqDiff, Nat.reduceLT, Nat.reduceLeDiff, Nat.reduceSub, Nat.reduceMul, Nat.reduceBEq, Int.reduceToNat, Int.reduceLE, Int.reduceLT, Int.reducePow]; done) | (simp only [go_sem, kn23, lowK, fdrow_get, fdrow_len, fileD, Try.ntmps23, reduceIte, reduceCtorEq, Nat.reduceAdd, Nat.reduceEqDiff, Nat.reduceLT, Nat.reduceLeDiff, Nat.reduceSub, Nat.reduceMul, Nat.reduceBEq, Int.reduceToNat, Int.reduceLE, Int.reduceLT, Int.reducePow]; omega)
        case k12 => simp only [go_sem, kn23, lowK, fdrow_get, fdrow_len, fileD, Try.ntmps23, reduceIte, reduceCtorEq, Nat.reduceAdd, Nat.reduceEqDiff, Nat.reduceLT, Nat.reduceLeDiff, Nat.reduceSub, Nat.reduceMul, Nat.reduceBEq, Int.reduceToNat, Int.reduceLE, Int.reduceLT, Int.reducePow]; rfl
        refine AWp.ret ?_
        refine ends_p (vs := ?vs1) (ob := ?ro1) (vs' := ?ws1) (ks := ?ks1) (ob2 := ?rp1) tab_ok (by simp) ?er1 ?eo1 ?ef1 ?eg1 ?en1 ?ek1 ?ev1
        case er1 => simp only [go_sem, kn23, lowK, fdrow_get, fdrow_len, fileD, Try.ntmps23, reduceIte, reduceCtorEq, Nat.reduceAdd, Nat.reduceEqDiff, Nat.reduceLT, Nat.reduceLeDiff, Nat.reduceSub, Nat.reduceMul, Nat.reduceBEq, Int.reduceToNat, Int.reduceLE, Int.reduceLT, Int.reducePow, Try.results23]; rfl
        case eo1 => first | exact True.intro | simp only [go_sem, kn23, lowK, fdrow_get, fdrow_len, fileD, Try.ntmps23, reduceIte, reduceCtorEq, Nat.reduceAdd, Nat.reduceEqDiff, Nat.reduceLT, Nat.reduceLeDiff, Nat.reduceSub, Nat.reduceMul, Nat.reduceBEq, Int.reduceToNat, Int.reduceLE, Int.reduceLT, Int.reducePow]
        case ef1 => simp only [go_sem, kn23, lowK, fdrow_get, fdrow_len, fileD, Try.ntmps23, reduceIte, reduceCtorEq, Nat.reduceAdd, Nat.reduceEqDiff, Nat.reduceLT, Nat.reduceLeDiff, Nat.reduceSub, Nat.reduceMul, Nat.reduceBEq, Int.reduceToNat, Int.reduceLE, Int.reduceLT, Int.reducePow]; rfl
        case eg1 => first | exact True.intro | simp only [go_sem, kn23, lowK, fdrow_get, fdrow_len, fileD, Try.ntmps23, reduceIte, reduceCtorEq, Nat.reduceAdd, Nat.reduceEqDiff, Nat.reduceLT, Nat.reduceLeDiff, Nat.reduceSub, Nat.reduceMul, Nat.reduceBEq, Int.reduceToNat, Int.reduceLE, Int.reduceLT, Int.reducePow]
        case en1 => simp only [go_sem, kn23, lowK, fdrow_get, fdrow_len, fileD, Try.ntmps23, reduceIte, reduceCtorEq, Nat.reduceAdd, Nat.reduceEqDiff, Nat.reduceLT, Nat.reduceLeDiff, Nat.reduceSub, Nat.reduceMul, Nat.reduceBEq, Int.reduceToNat, Int.reduceLE, Int.reduceLT, Int.reducePow]
        case ek1 => simp only [go_sem, kn23, lowK, fdrow_get, fdrow_len, fileD, Try.ntmps23, reduceIte, reduceCtorEq, Nat.reduceAdd, Nat.reduceEqDiff, Nat.reduceLT, Nat.reduceLeDiff, Nat.reduceSub, Nat.reduceMul, Nat.reduceBEq, Int.reduceToNat, Int.reduceLE, Int.reduceLT, Int.reducePow]
        case ev1 =>
          rfl
  · cases hq

end Go.Proofs.Hg
