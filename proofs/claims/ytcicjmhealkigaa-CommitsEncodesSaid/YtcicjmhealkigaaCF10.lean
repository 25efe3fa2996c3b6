import Derived.Test.YtcicjmhealkigaaCF9
set_option linter.unusedSimpArgs false
set_option linter.unusedVariables false
set_option maxHeartbeats 4000000
namespace Go.Proofs.Hg
open Go.RowKit
set_option maxRecDepth 100000
def nP (B : List UInt8) : Nat := if nChunks 4000 B.length = 0 then 1 else nChunks 4000 B.length
def recB (n : Int) (N : Nat) (B : List UInt8) (j : Nat) : List UInt8 := lowB n 8 ++ (lowB (j : Int) 2 ++ (lowB (N : Int) 2 ++ chunkAt 4000 B j))
def recR (n : Int) (N : Nat) (B : List UInt8) (i : Nat) : List (List D) := (List.range i).map fun j => [.slice none 1 (brow (recB n N B j))]
theorem recR_len (n : Int) (N : Nat) (B : List UInt8) (i : Nat) : (recR n N B i).length = i := by simp [recR]
theorem recR_succ (n : Int) (N : Nat) (B : List UInt8) (i : Nat) : recR n N B (i + 1) = recR n N B i ++ [[.slice none 1 (brow (recB n N B i))]] := by simp [recR, List.range_succ]
theorem crow_get {z : Option Bool} {k : Nat} {s : List UInt8} {n i : Nat} (h : i < n) (d : List D) : (crow z k s n).getD i d = [.slice z 1 (brow (chunkAt k s i))] := by
  simp [crow, List.getD_eq_getElem?_getD, List.getElem?_map, List.getElem?_range h]
theorem chunk_len (B : List UInt8) (j : Nat) : (chunkAt 4000 B j).length ≤ 4000 := by simp [chunkAt]; omega
theorem nChunks_le {B : List UInt8} (h : B.length ≤ 67154944) : nChunks 4000 B.length ≤ 16789 := by unfold nChunks; omega
theorem bytesL_len {l : List FileL} (h : FilesIn l) : (bytesL l).length ≤ 67154944 := by
  have := bytes_take h l.length
  rw [List.take_length] at this
  have h1 := h.1
  unfold bytesL
  omega
def encV (n : Int) (l : List FileL) : AVal :=
  if rightL n l then .tup [dv (.slice none 1 (recR n (nP (bytesL l)) (bytesL l) (nP (bytesL l)))), dv (.int .i64 0)] else .tup [dv (.slice (some true) 0 []), dv (.int .i64 201)]
theorem encV_ids (n : Int) (l : List FileL) : (encV n l).ids = [] ∧ ∀ b x, encV n l ≠ .opt b x := by
  unfold encV
  split <;> simp [AVal.ids, AV.ids, Sc.ids]
theorem wrapN {v : Nat} (h1 : v ≤ 16789) : IntKind.u64.wrap (v : Int) = (v : Int) := by rw [IntKind.wrap_u64]; omega
def encF : List AV → Option (AVal × Prop)
  | [.agg [.d (.int .i64 n), .d (.slice z e fs)]] => some (encV n (unf fs), e = 3 ∧ fs = fdrow (unf fs) ∧ FilesOk (unf fs))
  | _ => none
def kn10 : List (Nat × Cont) := [(20, pureK rightF), (23, pureK bytesF), (22, viewK chunkF), (21, pureK collF), (24, lowK)]
theorem kn10_ok : ∀ p ∈ kn10, ContOk Try.prog p.1 p.2 := by
  intro p hp
  simp only [kn10, List.mem_cons, List.not_mem_nil, or_false] at hp
  rcases hp with rfl | rfl | rfl | rfl | rfl
  · exact rightF_ok
  · exact bytesF_ok
  · exact viewK_ok chunkF_ok
  · exact collF_ok
  · exact lowK_ok
theorem encF_ok : ContOk Try.prog 10 (pureK encF) := by
  refine pure_ok (nargs := 1) Try.func10 rfl (by kernel_rfl) (Nat.le_of_ble_eq_true (by kernel_rfl)) ?_
  intro args q hq hob
  unfold encF at hq
  split at hq
  · rename_i n z e fs
    injection hq with hq
    subst hq
    obtain ⟨h1, h2, h3⟩ : e = 3 ∧ fs = fdrow (unf fs) ∧ FilesOk (unf fs) := hob
    generalize unf fs = fl at *
    subst h1 h2
    refine ⟨rfl, by simp [AV.ids, Sc.ids], (encV_ids _ _).1, (encV_ids _ _).2, ?_⟩
    refine AWp.seq ?_
    refine AWp.reg (S1 := ?S1) (ob := ?o1) (S' := ?K1) tab_ok (knowL_ok kn10_ok) mixed [1] ?r1 ?h1 ?k1 ?w1
    case r1 => simp only [go_sem, kn10, rightF, bytesF, chunkF, collF, lowK, pieceD, crow_len, unf_fdrow, Try.ntmps10, reduceIte, reduceCtorEq, Nat.reduceAdd, Nat.reduceEqDiff, Nat.reduceLT, Nat.reduceLeDiff, Nat.reduceSub, Nat.reduceMul, Nat.reduceBEq, Int.reduceToNat, Int.reduceLE, Int.reduceLT, Int.reducePow]; rfl
    case h1 => first | exact True.intro | omega | (simp only [go_sem, kn10, rightF, bytesF, chunkF, collF, lowK, pieceD, crow_len, unf_fdrow, Try.ntmps10, reduceIte, reduceCtorEq, Nat.reduceAdd, Nat.reduceEqDiff, Nat.reduceLT, Nat.reduceLeDiff, Nat.reduceSub, Nat.reduceMul, Nat.reduceBEq, Int.reduceToNat, Int.reduceLE, Int.reduceLT, Int.reducePow]; done) | (simp only [go_sem, kn10, rightF, bytesF, chunkF, collF, lowK, pieceD, crow_len, unf_fdrow, Try.ntmps10, reduceIte, reduceCtorEq, Nat.reduceAdd, Nat.reduceEqDiff, Nat.reduceLT, Nat.reduceLeDiff, Nat.reduceSub, Nat.reduceMul, Nat.reduceBEq, Int.reduceToNat, Int.reduceLE, Int.reduceLT, Int.reducePow]; omega)
    case k1 => simp only [go_sem, kn10, rightF, bytesF, chunkF, collF, lowK, pieceD, crow_len, unf_fdrow, Try.ntmps10, reduceIte, reduceCtorEq, Nat.reduceAdd, Nat.reduceEqDiff, Nat.reduceLT, Nat.reduceLeDiff, Nat.reduceSub, Nat.reduceMul, Nat.reduceBEq, Int.reduceToNat, Int.reduceLE, Int.reduceLT, Int.reducePow]; rfl
    refine AWp.seq ?_
    refine AWp.seq ?_
    refine AWp.reg (S1 := ?S2) (ob := ?o2) (S' := ?K2) tab_ok (knowL_ok kn10_ok) mixed [1, 11] ?r2 ?h2 ?k2 ?w2
    case r2 => simp only [go_sem, kn10, rightF, bytesF, chunkF, collF, lowK, pieceD, crow_len, unf_fdrow, Try.ntmps10, reduceIte, reduceCtorEq, Nat.reduceAdd, Nat.reduceEqDiff, Nat.reduceLT, Nat.reduceLeDiff, Nat.reduceSub, Nat.reduceMul, Nat.reduceBEq, Int.reduceToNat, Int.reduceLE, Int.reduceLT, Int.reducePow]; rfl
    case h2 => first | exact True.intro | omega | (simp only [go_sem, kn10, rightF, bytesF, chunkF, collF, lowK, pieceD, crow_len, unf_fdrow, Try.ntmps10, reduceIte, reduceCtorEq, Nat.reduceAdd, Nat.reduceEqDiff, Nat.reduceLT, Nat.reduceLeDiff, Nat.reduceSub, Nat.reduceMul, Nat.reduceBEq, Int.reduceToNat, Int.reduceLE, Int.reduceLT, Int.reducePow]; done) | (simp only [go_sem, kn10, rightF, bytesF, chunkF, collF, lowK, pieceD, crow_len, unf_fdrow, Try.ntmps10, reduceIte, reduceCtorEq, Nat.reduceAdd, Nat.reduceEqDiff, Nat.reduceLT, Nat.reduceLeDiff, Nat.reduceSub, Nat.reduceMul, Nat.reduceBEq, Int.reduceToNat, Int.reduceLE, Int.reduceLT, Int.reducePow]; omega)
    case k2 => simp only [go_sem, kn10, rightF, bytesF, chunkF, collF, lowK, pieceD, crow_len, unf_fdrow, Try.ntmps10, reduceIte, reduceCtorEq, Nat.reduceAdd, Nat.reduceEqDiff, Nat.reduceLT, Nat.reduceLeDiff, Nat.reduceSub, Nat.reduceMul, Nat.reduceBEq, Int.reduceToNat, Int.reduceLE, Int.reduceLT, Int.reducePow]; rfl
    refine AWp.cond (b := ?b3) ?c3 ?t3 ?f3
    case c3 => simp only [go_sem, kn10, rightF, bytesF, chunkF, collF, lowK, pieceD, crow_len, unf_fdrow, Try.ntmps10, reduceIte, reduceCtorEq, Nat.reduceAdd, Nat.reduceEqDiff, Nat.reduceLT, Nat.reduceLeDiff, Nat.reduceSub, Nat.reduceMul, Nat.reduceBEq, Int.reduceToNat, Int.reduceLE, Int.reduceLT, Int.reducePow]; rfl
    case t3 =>
      intro hb1
      have hr : rightL n fl = false := by simpa using hb1
      refine AWp.seq ?_
      refine AWp.reg (S1 := ?S4) (ob := ?o4) (S' := ?K4) tab_ok (knowL_ok kn10_ok) mixed [2, 3] ?r4 ?h4 ?k4 ?w4
      case r4 => simp only [go_sem, kn10, rightF, bytesF, chunkF, collF, lowK, pieceD, crow_len, unf_fdrow, Try.ntmps10, reduceIte, reduceCtorEq, Nat.reduceAdd, Nat.reduceEqDiff, Nat.reduceLT, Nat.reduceLeDiff, Nat.reduceSub, Nat.reduceMul, Nat.reduceBEq, Int.reduceToNat, Int.reduceLE, Int.reduceLT, Int.reducePow]; rfl
      case h4 => first | exact True.intro | omega | (simp only [go_sem, kn10, rightF, bytesF, chunkF, collF, lowK, pieceD, crow_len, unf_fdrow, Try.ntmps10, reduceIte, reduceCtorEq, Nat.reduceAdd, Nat.reduceEqDiff, Nat.reduceLT, Nat.reduceLeDiff, Nat.reduceSub, Nat.reduceMul, Nat.reduceBEq, Int.reduceToNat, Int.reduceLE, Int.reduceLT, Int.reducePow]; done) | (simp only [go_sem, kn10, rightF, bytesF, chunkF, collF, lowK, pieceD, crow_len, unf_fdrow, Try.ntmps10, reduceIte, reduceCtorEq, Nat.reduceAdd, Nat.reduceEqDiff, Nat.reduceLT, Nat.reduceLeDiff, Nat.reduceSub, Nat.reduceMul, Nat.reduceBEq, Int.reduceToNat, Int.reduceLE, Int.reduceLT, Int.reducePow]; omega)
      case k4 => simp only [go_sem, kn10, rightF, bytesF, chunkF, collF, lowK, pieceD, crow_len, unf_fdrow, Try.ntmps10, reduceIte, reduceCtorEq, Nat.reduceAdd, Nat.reduceEqDiff, Nat.reduceLT, Nat.reduceLeDiff, Nat.reduceSub, Nat.reduceMul, Nat.reduceBEq, Int.reduceToNat, Int.reduceLE, Int.reduceLT, Int.reducePow]; rfl
      refine AWp.ret ?_
      refine ends_p (vs := ?vs1) (ob := ?ro1) (vs' := ?ws1) (ks := ?ks1) (ob2 := ?rp1) tab_ok (by simp) ?er1 ?eo1 ?ef1 ?eg1 ?en1 ?ek1 ?ev1
      case er1 => simp only [go_sem, kn10, rightF, bytesF, chunkF, collF, lowK, pieceD, crow_len, unf_fdrow, Try.ntmps10, reduceIte, reduceCtorEq, Nat.reduceAdd, Nat.reduceEqDiff, Nat.reduceLT, Nat.reduceLeDiff, Nat.reduceSub, Nat.reduceMul, Nat.reduceBEq, Int.reduceToNat, Int.reduceLE, Int.reduceLT, Int.reducePow, Try.results10]; rfl
      case eo1 => first | exact True.intro | simp only [go_sem, kn10, rightF, bytesF, chunkF, collF, lowK, pieceD, crow_len, unf_fdrow, Try.ntmps10, reduceIte, reduceCtorEq, Nat.reduceAdd, Nat.reduceEqDiff, Nat.reduceLT, Nat.reduceLeDiff, Nat.reduceSub, Nat.reduceMul, Nat.reduceBEq, Int.reduceToNat, Int.reduceLE, Int.reduceLT, Int.reducePow]
      case ef1 => simp only [go_sem, kn10, rightF, bytesF, chunkF, collF, lowK, pieceD, crow_len, unf_fdrow, Try.ntmps10, reduceIte, reduceCtorEq, Nat.reduceAdd, Nat.reduceEqDiff, Nat.reduceLT, Nat.reduceLeDiff, Nat.reduceSub, Nat.reduceMul, Nat.reduceBEq, Int.reduceToNat, Int.reduceLE, Int.reduceLT, Int.reducePow]; rfl
      case eg1 => first | exact True.intro | simp only [go_sem, kn10, rightF, bytesF, chunkF, collF, lowK, pieceD, crow_len, unf_fdrow, Try.ntmps10, reduceIte, reduceCtorEq, Nat.reduceAdd, Nat.reduceEqDiff, Nat.reduceLT, Nat.reduceLeDiff, Nat.reduceSub, Nat.reduceMul, Nat.reduceBEq, Int.reduceToNat, Int.reduceLE, Int.reduceLT, Int.reducePow]
      case en1 => simp only [go_sem, kn10, rightF, bytesF, chunkF, collF, lowK, pieceD, crow_len, unf_fdrow, Try.ntmps10, reduceIte, reduceCtorEq, Nat.reduceAdd, Nat.reduceEqDiff, Nat.reduceLT, Nat.reduceLeDiff, Nat.reduceSub, Nat.reduceMul, Nat.reduceBEq, Int.reduceToNat, Int.reduceLE, Int.reduceLT, Int.reducePow]
      case ek1 => simp only [go_sem, kn10, rightF, bytesF, chunkF, collF, lowK, pieceD, crow_len, unf_fdrow, Try.ntmps10, reduceIte, reduceCtorEq, Nat.reduceAdd, Nat.reduceEqDiff, Nat.reduceLT, Nat.reduceLeDiff, Nat.reduceSub, Nat.reduceMul, Nat.reduceBEq, Int.reduceToNat, Int.reduceLE, Int.reduceLT, Int.reducePow]
      case ev1 =>
        rw [encV, hr]; rfl
    case f3 =>
      intro hb1
      have hr : rightL n fl = true := by simpa using hb1
      obtain ⟨hn0, hn1, hF⟩ := rightL_in hr
      have hB := bytesL_len hF
      have hN := nChunks_le hB
      have hw1 := wrapU hn0 hn1
      refine AWp.skip ?_
      refine AWp.seq ?_
      refine AWp.reg (S1 := ?S5) (ob := ?o5) (S' := ?K5) tab_ok (knowL_ok kn10_ok) mixed [1, 4] ?r5 ?h5 ?k5 ?w5
      case r5 => simp only [go_sem, kn10, rightF, bytesF, chunkF, collF, lowK, pieceD, crow_len, unf_fdrow, Try.ntmps10, reduceIte, reduceCtorEq, Nat.reduceAdd, Nat.reduceEqDiff, Nat.reduceLT, Nat.reduceLeDiff, Nat.reduceSub, Nat.reduceMul, Nat.reduceBEq, Int.reduceToNat, Int.reduceLE, Int.reduceLT, Int.reducePow]; rfl
      case h5 =>
        exact ⟨hF, by omega⟩
      case k5 => simp only [go_sem, kn10, rightF, bytesF, chunkF, collF, lowK, pieceD, crow_len, unf_fdrow, Try.ntmps10, reduceIte, reduceCtorEq, Nat.reduceAdd, Nat.reduceEqDiff, Nat.reduceLT, Nat.reduceLeDiff, Nat.reduceSub, Nat.reduceMul, Nat.reduceBEq, Int.reduceToNat, Int.reduceLE, Int.reduceLT, Int.reducePow]; rfl
      refine AWp.seq ?_
      refine AWp.seq ?_
      refine AWp.reg (S1 := ?S6) (ob := ?o6) (S' := ?K6) tab_ok (knowL_ok kn10_ok) mixed [1, 4, 18] ?r6 ?h6 ?k6 ?w6
      case r6 => simp only [go_sem, kn10, rightF, bytesF, chunkF, collF, lowK, pieceD, crow_len, unf_fdrow, Try.ntmps10, reduceIte, reduceCtorEq, Nat.reduceAdd, Nat.reduceEqDiff, Nat.reduceLT, Nat.reduceLeDiff, Nat.reduceSub, Nat.reduceMul, Nat.reduceBEq, Int.reduceToNat, Int.reduceLE, Int.reduceLT, Int.reducePow]; rfl
      case h6 => first | exact True.intro | omega | (simp only [go_sem, kn10, rightF, bytesF, chunkF, collF, lowK, pieceD, crow_len, unf_fdrow, Try.ntmps10, reduceIte, reduceCtorEq, Nat.reduceAdd, Nat.reduceEqDiff, Nat.reduceLT, Nat.reduceLeDiff, Nat.reduceSub, Nat.reduceMul, Nat.reduceBEq, Int.reduceToNat, Int.reduceLE, Int.reduceLT, Int.reducePow]; done) | (simp only [go_sem, kn10, rightF, bytesF, chunkF, collF, lowK, pieceD, crow_len, unf_fdrow, Try.ntmps10, reduceIte, reduceCtorEq, Nat.reduceAdd, Nat.reduceEqDiff, Nat.reduceLT, Nat.reduceLeDiff, Nat.reduceSub, Nat.reduceMul, Nat.reduceBEq, Int.reduceToNat, Int.reduceLE, Int.reduceLT, Int.reducePow]; omega)
      case k6 => simp only [go_sem, kn10, rightF, bytesF, chunkF, collF, lowK, pieceD, crow_len, unf_fdrow, Try.ntmps10, reduceIte, reduceCtorEq, Nat.reduceAdd, Nat.reduceEqDiff, Nat.reduceLT, Nat.reduceLeDiff, Nat.reduceSub, Nat.reduceMul, Nat.reduceBEq, Int.reduceToNat, Int.reduceLE, Int.reduceLT, Int.reducePow]; rfl
      refine AWp.cond (b := ?b7) ?c7 ?t7 ?f7
      case c7 => simp only [go_sem, kn10, rightF, bytesF, chunkF, collF, lowK, pieceD, crow_len, unf_fdrow, Try.ntmps10, reduceIte, reduceCtorEq, Nat.reduceAdd, Nat.reduceEqDiff, Nat.reduceLT, Nat.reduceLeDiff, Nat.reduceSub, Nat.reduceMul, Nat.reduceBEq, Int.reduceToNat, Int.reduceLE, Int.reduceLT, Int.reducePow]; rfl
      case t7 =>
        intro hb2
        have h0 : nChunks 4000 (bytesL fl).length = 0 := by simp at hb2; omega
        refine AWp.reg (S1 := ?S8) (ob := ?o8) (S' := ?K8) tab_ok (knowL_ok kn10_ok) mixed [1, 4] ?r8 ?h8 ?k8 ?w8
        case r8 => simp only [go_sem, kn10, rightF, bytesF, chunkF, collF, lowK, pieceD, crow_len, unf_fdrow, Try.ntmps10, reduceIte, reduceCtorEq, Nat.reduceAdd, Nat.reduceEqDiff, Nat.reduceLT, Nat.reduceLeDiff, Nat.reduceSub, Nat.reduceMul, Nat.reduceBEq, Int.reduceToNat, Int.reduceLE, Int.reduceLT, Int.reducePow]; rfl
        case h8 => first | exact True.intro | omega | (simp only [go_sem, kn10, rightF, bytesF, chunkF, collF, lowK, pieceD, crow_len, unf_fdrow, Try.ntmps10, reduceIte, reduceCtorEq, Nat.reduceAdd, Nat.reduceEqDiff, Nat.reduceLT, Nat.reduceLeDiff, Nat.reduceSub, Nat.reduceMul, Nat.reduceBEq, Int.reduceToNat, Int.reduceLE, Int.reduceLT, Int.reducePow]; done) | (simp only [go_sem, kn10, rightF, bytesF, chunkF, collF, lowK, pieceD, crow_len, unf_fdrow, Try.ntmps10, reduceIte, reduceCtorEq, Nat.reduceAdd, Nat.reduceEqDiff, Nat.reduceLT, Nat.reduceLeDiff, Nat.reduceSub, Nat.reduceMul, Nat.reduceBEq, Int.reduceToNat, Int.reduceLE, Int.reduceLT, Int.reducePow]; omega)
        case k8 => simp only [go_sem, kn10, rightF, bytesF, chunkF, collF, lowK, pieceD, crow_len, unf_fdrow, Try.ntmps10, reduceIte, reduceCtorEq, Nat.reduceAdd, Nat.reduceEqDiff, Nat.reduceLT, Nat.reduceLeDiff, Nat.reduceSub, Nat.reduceMul, Nat.reduceBEq, Int.reduceToNat, Int.reduceLE, Int.reduceLT, Int.reducePow]; rfl
        refine AWp.seq ?_
        refine AWp.seq ?_
        refine AWp.reg (S1 := ?S9) (ob := ?o9) (S' := ?K9) tab_ok (knowL_ok kn10_ok) mixed [1, 4, 22] ?r9 ?h9 ?k9 ?w9
        case r9 => simp only [go_sem, kn10, rightF, bytesF, chunkF, collF, lowK, pieceD, crow_len, unf_fdrow, Try.ntmps10, reduceIte, reduceCtorEq, Nat.reduceAdd, Nat.reduceEqDiff, Nat.reduceLT, Nat.reduceLeDiff, Nat.reduceSub, Nat.reduceMul, Nat.reduceBEq, Int.reduceToNat, Int.reduceLE, Int.reduceLT, Int.reducePow]; rfl
        case h9 => first | exact True.intro | omega | (simp only [go_sem, kn10, rightF, bytesF, chunkF, collF, lowK, pieceD, crow_len, unf_fdrow, Try.ntmps10, reduceIte, reduceCtorEq, Nat.reduceAdd, Nat.reduceEqDiff, Nat.reduceLT, Nat.reduceLeDiff, Nat.reduceSub, Nat.reduceMul, Nat.reduceBEq, Int.reduceToNat, Int.reduceLE, Int.reduceLT, Int.reducePow]; done) | (simp only [go_sem, kn10, rightF, bytesF, chunkF, collF, lowK, pieceD, crow_len, unf_fdrow, Try.ntmps10, reduceIte, reduceCtorEq, Nat.reduceAdd, Nat.reduceEqDiff, Nat.reduceLT, Nat.reduceLeDiff, Nat.reduceSub, Nat.reduceMul, Nat.reduceBEq, Int.reduceToNat, Int.reduceLE, Int.reduceLT, Int.reducePow]; omega)
        case k9 => simp only [go_sem, kn10, rightF, bytesF, chunkF, collF, lowK, pieceD, crow_len, unf_fdrow, Try.ntmps10, reduceIte, reduceCtorEq, Nat.reduceAdd, Nat.reduceEqDiff, Nat.reduceLT, Nat.reduceLeDiff, Nat.reduceSub, Nat.reduceMul, Nat.reduceBEq, Int.reduceToNat, Int.reduceLE, Int.reduceLT, Int.reducePow]; rfl
        refine AWp.cond (b := ?b10) ?c10 ?t10 ?f10
        case c10 => simp only [go_sem, kn10, rightF, bytesF, chunkF, collF, lowK, pieceD, crow_len, unf_fdrow, Try.ntmps10, reduceIte, reduceCtorEq, Nat.reduceAdd, Nat.reduceEqDiff, Nat.reduceLT, Nat.reduceLeDiff, Nat.reduceSub, Nat.reduceMul, Nat.reduceBEq, Int.reduceToNat, Int.reduceLE, Int.reduceLT, Int.reducePow]; rfl
        case t10 =>
          intro hb3
          exfalso; simp at hb3
        case f10 =>
          intro hb3
          refine AWp.skip ?_
          refine AWp.seq ?_
          refine AWp.reg (S1 := ?S11) (ob := ?o11) (S' := ?K11) tab_ok (knowL_ok kn10_ok) mixed [1, 4, 5] ?r11 ?h11 ?k11 ?w11
          case r11 => simp only [go_sem, kn10, rightF, bytesF, chunkF, collF, lowK, pieceD, crow_len, unf_fdrow, Try.ntmps10, reduceIte, reduceCtorEq, Nat.reduceAdd, Nat.reduceEqDiff, Nat.reduceLT, Nat.reduceLeDiff, Nat.reduceSub, Nat.reduceMul, Nat.reduceBEq, Int.reduceToNat, Int.reduceLE, Int.reduceLT, Int.reducePow]; rfl
          case h11 => first | exact True.intro | omega | (simp only [go_sem, kn10, rightF, bytesF, chunkF, collF, lowK, pieceD, crow_len, unf_fdrow, Try.ntmps10, reduceIte, reduceCtorEq, Nat.reduceAdd, Nat.reduceEqDiff, Nat.reduceLT, Nat.reduceLeDiff, Nat.reduceSub, Nat.reduceMul, Nat.reduceBEq, Int.reduceToNat, Int.reduceLE, Int.reduceLT, Int.reducePow]; done) | (simp only [go_sem, kn10, rightF, bytesF, chunkF, collF, lowK, pieceD, crow_len, unf_fdrow, Try.ntmps10, reduceIte, reduceCtorEq, Nat.reduceAdd, Nat.reduceEqDiff, Nat.reduceLT, Nat.reduceLeDiff, Nat.reduceSub, Nat.reduceMul, Nat.reduceBEq, Int.reduceToNat, Int.reduceLE, Int.reduceLT, Int.reducePow]; omega)
          case k11 => simp only [go_sem, kn10, rightF, bytesF, chunkF, collF, lowK, pieceD, crow_len, unf_fdrow, Try.ntmps10, reduceIte, reduceCtorEq, Nat.reduceAdd, Nat.reduceEqDiff, Nat.reduceLT, Nat.reduceLeDiff, Nat.reduceSub, Nat.reduceMul, Nat.reduceBEq, Int.reduceToNat, Int.reduceLE, Int.reduceLT, Int.reducePow]; rfl
          refine AWp.seq ?_
          refine AWp.seq ?_
          refine AWp.reg (S1 := ?S12) (ob := ?o12) (S' := ?K12) tab_ok (knowL_ok kn10_ok) mixed [1, 4, 5, 23, 24, 25] ?r12 ?h12 ?k12 ?w12
          case r12 => simp only [go_sem, kn10, rightF, bytesF, chunkF, collF, lowK, pieceD, crow_len, unf_fdrow, Try.ntmps10, reduceIte, reduceCtorEq, Nat.reduceAdd, Nat.reduceEqDiff, Nat.reduceLT, Nat.reduceLeDiff, Nat.reduceSub, Nat.reduceMul, Nat.reduceBEq, Int.reduceToNat, Int.reduceLE, Int.reduceLT, Int.reducePow]; rfl
          case h12 => first | exact True.intro | omega | (simp only [go_sem, kn10, rightF, bytesF, chunkF, collF, lowK, pieceD, crow_len, unf_fdrow, Try.ntmps10, reduceIte, reduceCtorEq, Nat.reduceAdd, Nat.reduceEqDiff, Nat.reduceLT, Nat.reduceLeDiff, Nat.reduceSub, Nat.reduceMul, Nat.reduceBEq, Int.reduceToNat, Int.reduceLE, Int.reduceLT, Int.reducePow]; done) | (simp only [go_sem, kn10, rightF, bytesF, chunkF, collF, lowK, pieceD, crow_len, unf_fdrow, Try.ntmps10, reduceIte, reduceCtorEq, Nat.reduceAdd, Nat.reduceEqDiff, Nat.reduceLT, Nat.reduceLeDiff, Nat.reduceSub, Nat.reduceMul, Nat.reduceBEq, Int.reduceToNat, Int.reduceLE, Int.reduceLT, Int.reducePow]; omega)
          case k12 => simp only [go_sem, kn10, rightF, bytesF, chunkF, collF, lowK, pieceD, crow_len, unf_fdrow, Try.ntmps10, reduceIte, reduceCtorEq, Nat.reduceAdd, Nat.reduceEqDiff, Nat.reduceLT, Nat.reduceLeDiff, Nat.reduceSub, Nat.reduceMul, Nat.reduceBEq, Int.reduceToNat, Int.reduceLE, Int.reduceLT, Int.reducePow]; rfl
          refine AWp.block ?_
          refine AWp.conv (Conv.nilT 5 (e := 1) (ety := 38) rfl rfl) ?_
          refine AWp.conv (Conv.keep [1, 4, 5, 23, 24, 25] [2, 1, 0] (by simp [St.nilT])) ?_
          refine AWp.loop (fun k S => ∃ i : Nat, i ≤ 1 ∧ k = 1 - i ∧ S = ⟨[(1, .one (.s (.ptr 0 0))), (4, .one (.s (.row 1 1 0 1 none))), (5, .one (.s (.row 2 1 0 i none))), (23, .one (.s (.row 1 1 0 1 none))), (24, .one (dv (.int .i64 ((1 : Nat) : Int)))), (25, .one (dv (.int .i64 ((i : Nat) : Int))))], [(2, .row (recR n 1 (bytesL fl) i) 38), (1, .row [[.slice (some true) 0 []]] 38), (0, .cells [.d (.int .i64 n), .d (.slice z 3 (fdrow fl))] 32)], 3⟩) 1 ?i1 ?n1
          case i1 =>
            exact ⟨0, by omega, rfl, by simp [St.nilT, St.keep, keepE, lookN, recR]⟩
          case n1 =>
            rintro k S ⟨i, hi0, rfl, rfl⟩
            refine AWp.seq ?_
            refine AWp.reg (S1 := ?S13) (ob := ?o13) (S' := ?K13) tab_ok (knowL_ok kn10_ok) mixed [1, 4, 5, 23, 24, 25, 26] ?r13 ?h13 ?k13 ?w13
            case r13 => simp only [go_sem, kn10, rightF, bytesF, chunkF, collF, lowK, pieceD, crow_len, unf_fdrow, Try.ntmps10, reduceIte, reduceCtorEq, Nat.reduceAdd, Nat.reduceEqDiff, Nat.reduceLT, Nat.reduceLeDiff, Nat.reduceSub, Nat.reduceMul, Nat.reduceBEq, Int.reduceToNat, Int.reduceLE, Int.reduceLT, Int.reducePow]; rfl
            case h13 => first | exact True.intro | omega | (simp only [go_sem, kn10, rightF, bytesF, chunkF, collF, lowK, pieceD, crow_len, unf_fdrow, Try.ntmps10, reduceIte, reduceCtorEq, Nat.reduceAdd, Nat.reduceEqDiff, Nat.reduceLT, Nat.reduceLeDiff, Nat.reduceSub, Nat.reduceMul, Nat.reduceBEq, Int.reduceToNat, Int.reduceLE, Int.reduceLT, Int.reducePow]; done) | (simp only [go_sem, kn10, rightF, bytesF, chunkF, collF, lowK, pieceD, crow_len, unf_fdrow, Try.ntmps10, reduceIte, reduceCtorEq, Nat.reduceAdd, Nat.reduceEqDiff, Nat.reduceLT, Nat.reduceLeDiff, Nat.reduceSub, Nat.reduceMul, Nat.reduceBEq, Int.reduceToNat, Int.reduceLE, Int.reduceLT, Int.reducePow]; omega)
            case k13 => simp only [go_sem, kn10, rightF, bytesF, chunkF, collF, lowK, pieceD, crow_len, unf_fdrow, Try.ntmps10, reduceIte, reduceCtorEq, Nat.reduceAdd, Nat.reduceEqDiff, Nat.reduceLT, Nat.reduceLeDiff, Nat.reduceSub, Nat.reduceMul, Nat.reduceBEq, Int.reduceToNat, Int.reduceLE, Int.reduceLT, Int.reducePow]; rfl
            refine AWp.seq ?_
            refine AWp.cond (b := ?b14) ?c14 ?t14 ?f14
            case c14 => simp only [go_sem, kn10, rightF, bytesF, chunkF, collF, lowK, pieceD, crow_len, unf_fdrow, Try.ntmps10, reduceIte, reduceCtorEq, Nat.reduceAdd, Nat.reduceEqDiff, Nat.reduceLT, Nat.reduceLeDiff, Nat.reduceSub, Nat.reduceMul, Nat.reduceBEq, Int.reduceToNat, Int.reduceLE, Int.reduceLT, Int.reducePow]; rfl
            case t14 =>
              intro hb4
              have hi : i < 1 := by simp at hb4; omega
              have hz : i = 0 := by omega
              have hrow : ([[D.slice (some true) 0 []]] : List (List D)).getD i [.slice (some true) 1 []] = [.slice (some true) 0 []] := by rw [hz]; rfl
              have hw3 := wrapN (v := i) (by omega)
              have hw4 := wrapN (v := 1) (by omega)
              refine AWp.skip ?_
              refine AWp.seq ?_
              refine AWp.block ?_
              refine AWp.seq ?_
              refine AWp.reg (S1 := ?S15) (ob := ?o15) (S' := ?K15) tab_ok (knowL_ok kn10_ok) mixed [1, 4, 5, 6, 7, 23, 24, 25] ?r15 ?h15 ?k15 ?w15
              case r15 => simp only [go_sem, kn10, rightF, bytesF, chunkF, collF, lowK, pieceD, crow_len, unf_fdrow, Try.ntmps10, reduceIte, reduceCtorEq, Nat.reduceAdd, Nat.reduceEqDiff, Nat.reduceLT, Nat.reduceLeDiff, Nat.reduceSub, Nat.reduceMul, Nat.reduceBEq, Int.reduceToNat, Int.reduceLE, Int.reduceLT, Int.reducePow, hrow]; rfl
              case h15 => first | exact True.intro | omega | (simp only [go_sem, kn10, rightF, bytesF, chunkF, collF, lowK, pieceD, crow_len, unf_fdrow, Try.ntmps10, reduceIte, reduceCtorEq, Nat.reduceAdd, Nat.reduceEqDiff, Nat.reduceLT, Nat.reduceLeDiff, Nat.reduceSub, Nat.reduceMul, Nat.reduceBEq, Int.reduceToNat, Int.reduceLE, Int.reduceLT, Int.reducePow]; done) | (simp only [go_sem, kn10, rightF, bytesF, chunkF, collF, lowK, pieceD, crow_len, unf_fdrow, Try.ntmps10, reduceIte, reduceCtorEq, Nat.reduceAdd, Nat.reduceEqDiff, Nat.reduceLT, Nat.reduceLeDiff, Nat.reduceSub, Nat.reduceMul, Nat.reduceBEq, Int.reduceToNat, Int.reduceLE, Int.reduceLT, Int.reducePow]; omega)
              case k15 => simp only [go_sem, kn10, rightF, bytesF, chunkF, collF, lowK, pieceD, crow_len, unf_fdrow, Try.ntmps10, reduceIte, reduceCtorEq, Nat.reduceAdd, Nat.reduceEqDiff, Nat.reduceLT, Nat.reduceLeDiff, Nat.reduceSub, Nat.reduceMul, Nat.reduceBEq, Int.reduceToNat, Int.reduceLE, Int.reduceLT, Int.reducePow]; rfl
              refine AWp.seq ?_
              refine AWp.reg (S1 := ?S16) (ob := ?o16) (S' := ?K16) tab_ok (knowL_ok kn10_ok) mixed [1, 4, 5, 7, 8, 23, 24, 25] ?r16 ?h16 ?k16 ?w16
              case r16 => simp only [go_sem, kn10, rightF, bytesF, chunkF, collF, lowK, pieceD, crow_len, unf_fdrow, Try.ntmps10, reduceIte, reduceCtorEq, Nat.reduceAdd, Nat.reduceEqDiff, Nat.reduceLT, Nat.reduceLeDiff, Nat.reduceSub, Nat.reduceMul, Nat.reduceBEq, Int.reduceToNat, Int.reduceLE, Int.reduceLT, Int.reducePow, hw1, hw3, hw4]; rfl
              case h16 =>
                (simp only [go_sem, kn10, rightF, bytesF, chunkF, collF, lowK, pieceD, crow_len, unf_fdrow, Try.ntmps10, reduceIte, reduceCtorEq, Nat.reduceAdd, Nat.reduceEqDiff, Nat.reduceLT, Nat.reduceLeDiff, Nat.reduceSub, Nat.reduceMul, Nat.reduceBEq, Int.reduceToNat, Int.reduceLE, Int.reduceLT, Int.reducePow, hw1, hw3, hw4, lowB_len]) <;> omega
              case k16 => simp only [go_sem, kn10, rightF, bytesF, chunkF, collF, lowK, pieceD, crow_len, unf_fdrow, Try.ntmps10, reduceIte, reduceCtorEq, Nat.reduceAdd, Nat.reduceEqDiff, Nat.reduceLT, Nat.reduceLeDiff, Nat.reduceSub, Nat.reduceMul, Nat.reduceBEq, Int.reduceToNat, Int.reduceLE, Int.reduceLT, Int.reducePow]; rfl
              refine AWp.reg (S1 := ?S17) (ob := ?o17) (S' := ?K17) tab_ok (knowL_ok kn10_ok) mixed [1, 4, 5, 23, 24, 25] ?r17 ?h17 ?k17 ?w17
              case r17 => simp only [go_sem, kn10, rightF, bytesF, chunkF, collF, lowK, pieceD, crow_len, unf_fdrow, Try.ntmps10, reduceIte, reduceCtorEq, Nat.reduceAdd, Nat.reduceEqDiff, Nat.reduceLT, Nat.reduceLeDiff, Nat.reduceSub, Nat.reduceMul, Nat.reduceBEq, Int.reduceToNat, Int.reduceLE, Int.reduceLT, Int.reducePow]; rfl
              case h17 =>
                have hch := chunk_len (bytesL fl) i
                simp only [go_sem, kn10, rightF, bytesF, chunkF, collF, lowK, pieceD, crow_len, unf_fdrow, Try.ntmps10, reduceIte, reduceCtorEq, Nat.reduceAdd, Nat.reduceEqDiff, Nat.reduceLT, Nat.reduceLeDiff, Nat.reduceSub, Nat.reduceMul, Nat.reduceBEq, Int.reduceToNat, Int.reduceLE, Int.reduceLT, Int.reducePow, lowB_len, recR_len]
                omega
              case k17 => simp only [go_sem, kn10, rightF, bytesF, chunkF, collF, lowK, pieceD, crow_len, unf_fdrow, Try.ntmps10, reduceIte, reduceCtorEq, Nat.reduceAdd, Nat.reduceEqDiff, Nat.reduceLT, Nat.reduceLeDiff, Nat.reduceSub, Nat.reduceMul, Nat.reduceBEq, Int.reduceToNat, Int.reduceLE, Int.reduceLT, Int.reducePow]; rfl
              refine AWp.reg (S1 := ?S18) (ob := ?o18) (S' := ?K18) tab_ok (knowL_ok kn10_ok) mixed [1, 4, 5, 23, 24, 25] ?r18 ?h18 ?k18 ?w18
              case r18 => simp only [go_sem, kn10, rightF, bytesF, chunkF, collF, lowK, pieceD, crow_len, unf_fdrow, Try.ntmps10, reduceIte, reduceCtorEq, Nat.reduceAdd, Nat.reduceEqDiff, Nat.reduceLT, Nat.reduceLeDiff, Nat.reduceSub, Nat.reduceMul, Nat.reduceBEq, Int.reduceToNat, Int.reduceLE, Int.reduceLT, Int.reducePow]; rfl
              case h18 => first | exact True.intro | omega | (simp only [go_sem, kn10, rightF, bytesF, chunkF, collF, lowK, pieceD, crow_len, unf_fdrow, Try.ntmps10, reduceIte, reduceCtorEq, Nat.reduceAdd, Nat.reduceEqDiff, Nat.reduceLT, Nat.reduceLeDiff, Nat.reduceSub, Nat.reduceMul, Nat.reduceBEq, Int.reduceToNat, Int.reduceLE, Int.reduceLT, Int.reducePow]; done) | (simp only [go_sem, kn10, rightF, bytesF, chunkF, collF, lowK, pieceD, crow_len, unf_fdrow, Try.ntmps10, reduceIte, reduceCtorEq, Nat.reduceAdd, Nat.reduceEqDiff, Nat.reduceLT, Nat.reduceLeDiff, Nat.reduceSub, Nat.reduceMul, Nat.reduceBEq, Int.reduceToNat, Int.reduceLE, Int.reduceLT, Int.reducePow]; omega)
              case k18 => simp only [go_sem, kn10, rightF, bytesF, chunkF, collF, lowK, pieceD, crow_len, unf_fdrow, Try.ntmps10, reduceIte, reduceCtorEq, Nat.reduceAdd, Nat.reduceEqDiff, Nat.reduceLT, Nat.reduceLeDiff, Nat.reduceSub, Nat.reduceMul, Nat.reduceBEq, Int.reduceToNat, Int.reduceLE, Int.reduceLT, Int.reducePow]; rfl
              subst hz
              have hc : chunkAt 4000 (bytesL fl) 0 = [] := by
                have : (bytesL fl).length = 0 := by unfold nChunks at h0; omega
                rw [List.length_eq_zero_iff.1 this]; rfl
              refine ⟨0, ⟨[(1, .one (.s (.ptr 0 0))), (4, .one (.s (.row 1 1 0 1 none))), (5, .one (.s (.row 2 1 0 1 none))), (23, .one (.s (.row 1 1 0 1 none))), (24, .one (dv (.int .i64 ((1 : Nat) : Int)))), (25, .one (dv (.int .i64 ((1 : Nat) : Int))))], [(2, .row (recR n 1 (bytesL fl) 1) 38), (1, .row [[.slice (some true) 0 []]] 38), (0, .cells [.d (.int .i64 n), .d (.slice z 3 (fdrow fl))] 32)], 3⟩, by omega, ?_, 1, by omega, rfl, rfl⟩
              exact (Conv.keep [1, 4, 5, 23, 24, 25] [8, 1, 0] (by simp)).trans (Conv.rename (fun j => if j = 2 then 8 else j) (by simp; done) (by simp; done) (by simp [St.keep, keepE, lookN, AVal.ren, AV.ren, Sc.ren, AVal.ids, AV.ids, Sc.ids, recR]; done) (by simp [St.keep, keepE, lookN, AObj.ren, AObj.ids, Sc.ids, Sc.ren, recR, recB, hc, brow]; done) (by simp; done))
            case f14 =>
              intro hb4
              have hi : i = 1 := by simp at hb4; omega
              subst hi
              refine AWp.exit ?_
              refine thenA_exit ?_
              refine thenA_exit ?_
              refine inB_eq ?_
              refine AWp.seq ?_
              refine AWp.reg (S1 := ?S19) (ob := ?o19) (S' := ?K19) tab_ok (knowL_ok kn10_ok) mixed [2, 3] ?r19 ?h19 ?k19 ?w19
              case r19 => simp only [go_sem, kn10, rightF, bytesF, chunkF, collF, lowK, pieceD, crow_len, unf_fdrow, Try.ntmps10, reduceIte, reduceCtorEq, Nat.reduceAdd, Nat.reduceEqDiff, Nat.reduceLT, Nat.reduceLeDiff, Nat.reduceSub, Nat.reduceMul, Nat.reduceBEq, Int.reduceToNat, Int.reduceLE, Int.reduceLT, Int.reducePow]; rfl
              case h19 => first | exact True.intro | omega | (simp only [go_sem, kn10, rightF, bytesF, chunkF, collF, lowK, pieceD, crow_len, unf_fdrow, Try.ntmps10, reduceIte, reduceCtorEq, Nat.reduceAdd, Nat.reduceEqDiff, Nat.reduceLT, Nat.reduceLeDiff, Nat.reduceSub, Nat.reduceMul, Nat.reduceBEq, Int.reduceToNat, Int.reduceLE, Int.reduceLT, Int.reducePow]; done) | (simp only [go_sem, kn10, rightF, bytesF, chunkF, collF, lowK, pieceD, crow_len, unf_fdrow, Try.ntmps10, reduceIte, reduceCtorEq, Nat.reduceAdd, Nat.reduceEqDiff, Nat.reduceLT, Nat.reduceLeDiff, Nat.reduceSub, Nat.reduceMul, Nat.reduceBEq, Int.reduceToNat, Int.reduceLE, Int.reduceLT, Int.reducePow]; omega)
              case k19 => simp only [go_sem, kn10, rightF, bytesF, chunkF, collF, lowK, pieceD, crow_len, unf_fdrow, Try.ntmps10, reduceIte, reduceCtorEq, Nat.reduceAdd, Nat.reduceEqDiff, Nat.reduceLT, Nat.reduceLeDiff, Nat.reduceSub, Nat.reduceMul, Nat.reduceBEq, Int.reduceToNat, Int.reduceLE, Int.reduceLT, Int.reducePow]; rfl
              refine AWp.ret ?_
              refine ends_p (vs := ?vs2) (ob := ?ro2) (vs' := ?ws2) (ks := ?ks2) (ob2 := ?rp2) tab_ok (by simp) ?er2 ?eo2 ?ef2 ?eg2 ?en2 ?ek2 ?ev2
              case er2 => simp only [go_sem, kn10, rightF, bytesF, chunkF, collF, lowK, pieceD, crow_len, unf_fdrow, Try.ntmps10, reduceIte, reduceCtorEq, Nat.reduceAdd, Nat.reduceEqDiff, Nat.reduceLT, Nat.reduceLeDiff, Nat.reduceSub, Nat.reduceMul, Nat.reduceBEq, Int.reduceToNat, Int.reduceLE, Int.reduceLT, Int.reducePow, Try.results10]; rfl
              case eo2 => first | exact True.intro | simp only [go_sem, kn10, rightF, bytesF, chunkF, collF, lowK, pieceD, crow_len, unf_fdrow, Try.ntmps10, reduceIte, reduceCtorEq, Nat.reduceAdd, Nat.reduceEqDiff, Nat.reduceLT, Nat.reduceLeDiff, Nat.reduceSub, Nat.reduceMul, Nat.reduceBEq, Int.reduceToNat, Int.reduceLE, Int.reduceLT, Int.reducePow]
              case ef2 => simp only [go_sem, kn10, rightF, bytesF, chunkF, collF, lowK, pieceD, crow_len, unf_fdrow, Try.ntmps10, reduceIte, reduceCtorEq, Nat.reduceAdd, Nat.reduceEqDiff, Nat.reduceLT, Nat.reduceLeDiff, Nat.reduceSub, Nat.reduceMul, Nat.reduceBEq, Int.reduceToNat, Int.reduceLE, Int.reduceLT, Int.reducePow]; rfl
              case eg2 => simp [recR_len]
              case en2 => simp only [go_sem, kn10, rightF, bytesF, chunkF, collF, lowK, pieceD, crow_len, unf_fdrow, Try.ntmps10, reduceIte, reduceCtorEq, Nat.reduceAdd, Nat.reduceEqDiff, Nat.reduceLT, Nat.reduceLeDiff, Nat.reduceSub, Nat.reduceMul, Nat.reduceBEq, Int.reduceToNat, Int.reduceLE, Int.reduceLT, Int.reducePow]
              case ek2 => simp only [go_sem, kn10, rightF, bytesF, chunkF, collF, lowK, pieceD, crow_len, unf_fdrow, Try.ntmps10, reduceIte, reduceCtorEq, Nat.reduceAdd, Nat.reduceEqDiff, Nat.reduceLT, Nat.reduceLeDiff, Nat.reduceSub, Nat.reduceMul, Nat.reduceBEq, Int.reduceToNat, Int.reduceLE, Int.reduceLT, Int.reducePow]
              case ev2 =>
                rw [encV, if_pos hr, show nP (bytesL fl) = 1 from by simp [nP, h0]]; rfl
      case f7 =>
        intro hb2
        have h0 : ¬ nChunks 4000 (bytesL fl).length = 0 := by simp at hb2; omega
        refine AWp.skip ?_
        refine AWp.seq ?_
        refine AWp.seq ?_
        refine AWp.reg (S1 := ?S20) (ob := ?o20) (S' := ?K20) tab_ok (knowL_ok kn10_ok) mixed [1, 4, 22] ?r20 ?h20 ?k20 ?w20
        case r20 => simp only [go_sem, kn10, rightF, bytesF, chunkF, collF, lowK, pieceD, crow_len, unf_fdrow, Try.ntmps10, reduceIte, reduceCtorEq, Nat.reduceAdd, Nat.reduceEqDiff, Nat.reduceLT, Nat.reduceLeDiff, Nat.reduceSub, Nat.reduceMul, Nat.reduceBEq, Int.reduceToNat, Int.reduceLE, Int.reduceLT, Int.reducePow]; rfl
        case h20 => first | exact True.intro | omega | (simp only [go_sem, kn10, rightF, bytesF, chunkF, collF, lowK, pieceD, crow_len, unf_fdrow, Try.ntmps10, reduceIte, reduceCtorEq, Nat.reduceAdd, Nat.reduceEqDiff, Nat.reduceLT, Nat.reduceLeDiff, Nat.reduceSub, Nat.reduceMul, Nat.reduceBEq, Int.reduceToNat, Int.reduceLE, Int.reduceLT, Int.reducePow]; done) | (simp only [go_sem, kn10, rightF, bytesF, chunkF, collF, lowK, pieceD, crow_len, unf_fdrow, Try.ntmps10, reduceIte, reduceCtorEq, Nat.reduceAdd, Nat.reduceEqDiff, Nat.reduceLT, Nat.reduceLeDiff, Nat.reduceSub, Nat.reduceMul, Nat.reduceBEq, Int.reduceToNat, Int.reduceLE, Int.reduceLT, Int.reducePow]; omega)
        case k20 => simp only [go_sem, kn10, rightF, bytesF, chunkF, collF, lowK, pieceD, crow_len, unf_fdrow, Try.ntmps10, reduceIte, reduceCtorEq, Nat.reduceAdd, Nat.reduceEqDiff, Nat.reduceLT, Nat.reduceLeDiff, Nat.reduceSub, Nat.reduceMul, Nat.reduceBEq, Int.reduceToNat, Int.reduceLE, Int.reduceLT, Int.reducePow]; rfl
        refine AWp.cond (b := ?b21) ?c21 ?t21 ?f21
        case c21 => simp only [go_sem, kn10, rightF, bytesF, chunkF, collF, lowK, pieceD, crow_len, unf_fdrow, Try.ntmps10, reduceIte, reduceCtorEq, Nat.reduceAdd, Nat.reduceEqDiff, Nat.reduceLT, Nat.reduceLeDiff, Nat.reduceSub, Nat.reduceMul, Nat.reduceBEq, Int.reduceToNat, Int.reduceLE, Int.reduceLT, Int.reducePow]; rfl
        case t21 =>
          intro hb5
          exfalso; simp at hb5; omega
        case f21 =>
          intro hb5
          refine AWp.skip ?_
          refine AWp.seq ?_
          refine AWp.reg (S1 := ?S22) (ob := ?o22) (S' := ?K22) tab_ok (knowL_ok kn10_ok) mixed [1, 4, 5] ?r22 ?h22 ?k22 ?w22
          case r22 => simp only [go_sem, kn10, rightF, bytesF, chunkF, collF, lowK, pieceD, crow_len, unf_fdrow, Try.ntmps10, reduceIte, reduceCtorEq, Nat.reduceAdd, Nat.reduceEqDiff, Nat.reduceLT, Nat.reduceLeDiff, Nat.reduceSub, Nat.reduceMul, Nat.reduceBEq, Int.reduceToNat, Int.reduceLE, Int.reduceLT, Int.reducePow]; rfl
          case h22 => first | exact True.intro | omega | (simp only [go_sem, kn10, rightF, bytesF, chunkF, collF, lowK, pieceD, crow_len, unf_fdrow, Try.ntmps10, reduceIte, reduceCtorEq, Nat.reduceAdd, Nat.reduceEqDiff, Nat.reduceLT, Nat.reduceLeDiff, Nat.reduceSub, Nat.reduceMul, Nat.reduceBEq, Int.reduceToNat, Int.reduceLE, Int.reduceLT, Int.reducePow]; done) | (simp only [go_sem, kn10, rightF, bytesF, chunkF, collF, lowK, pieceD, crow_len, unf_fdrow, Try.ntmps10, reduceIte, reduceCtorEq, Nat.reduceAdd, Nat.reduceEqDiff, Nat.reduceLT, Nat.reduceLeDiff, Nat.reduceSub, Nat.reduceMul, Nat.reduceBEq, Int.reduceToNat, Int.reduceLE, Int.reduceLT, Int.reducePow]; omega)
          case k22 => simp only [go_sem, kn10, rightF, bytesF, chunkF, collF, lowK, pieceD, crow_len, unf_fdrow, Try.ntmps10, reduceIte, reduceCtorEq, Nat.reduceAdd, Nat.reduceEqDiff, Nat.reduceLT, Nat.reduceLeDiff, Nat.reduceSub, Nat.reduceMul, Nat.reduceBEq, Int.reduceToNat, Int.reduceLE, Int.reduceLT, Int.reducePow]; rfl
          refine AWp.seq ?_
          refine AWp.seq ?_
          refine AWp.reg (S1 := ?S23) (ob := ?o23) (S' := ?K23) tab_ok (knowL_ok kn10_ok) mixed [1, 4, 5, 23, 24, 25] ?r23 ?h23 ?k23 ?w23
          case r23 => simp only [go_sem, kn10, rightF, bytesF, chunkF, collF, lowK, pieceD, crow_len, unf_fdrow, Try.ntmps10, reduceIte, reduceCtorEq, Nat.reduceAdd, Nat.reduceEqDiff, Nat.reduceLT, Nat.reduceLeDiff, Nat.reduceSub, Nat.reduceMul, Nat.reduceBEq, Int.reduceToNat, Int.reduceLE, Int.reduceLT, Int.reducePow]; rfl
          case h23 => first | exact True.intro | omega | (simp only [go_sem, kn10, rightF, bytesF, chunkF, collF, lowK, pieceD, crow_len, unf_fdrow, Try.ntmps10, reduceIte, reduceCtorEq, Nat.reduceAdd, Nat.reduceEqDiff, Nat.reduceLT, Nat.reduceLeDiff, Nat.reduceSub, Nat.reduceMul, Nat.reduceBEq, Int.reduceToNat, Int.reduceLE, Int.reduceLT, Int.reducePow]; done) | (simp only [go_sem, kn10, rightF, bytesF, chunkF, collF, lowK, pieceD, crow_len, unf_fdrow, Try.ntmps10, reduceIte, reduceCtorEq, Nat.reduceAdd, Nat.reduceEqDiff, Nat.reduceLT, Nat.reduceLeDiff, Nat.reduceSub, Nat.reduceMul, Nat.reduceBEq, Int.reduceToNat, Int.reduceLE, Int.reduceLT, Int.reducePow]; omega)
          case k23 => simp only [go_sem, kn10, rightF, bytesF, chunkF, collF, lowK, pieceD, crow_len, unf_fdrow, Try.ntmps10, reduceIte, reduceCtorEq, Nat.reduceAdd, Nat.reduceEqDiff, Nat.reduceLT, Nat.reduceLeDiff, Nat.reduceSub, Nat.reduceMul, Nat.reduceBEq, Int.reduceToNat, Int.reduceLE, Int.reduceLT, Int.reducePow]; rfl
          refine AWp.block ?_
          refine AWp.conv (Conv.nilT 5 (e := 1) (ety := 38) rfl rfl) ?_
          refine AWp.conv (Conv.keep [1, 4, 5, 23, 24, 25] [1, 0] (by simp [St.nilT])) ?_
          refine AWp.loop (fun k S => ∃ i : Nat, i ≤ nChunks 4000 (bytesL fl).length ∧ k = nChunks 4000 (bytesL fl).length - i ∧ S = ⟨[(1, .one (.s (.ptr 0 0))), (4, .one (dv (.slice none 1 (crow none 4000 (bytesL fl) (nChunks 4000 (bytesL fl).length))))), (5, .one (.s (.row 1 1 0 i none))), (23, .one (dv (.slice none 1 (crow none 4000 (bytesL fl) (nChunks 4000 (bytesL fl).length))))), (24, .one (dv (.int .i64 (((nChunks 4000 (bytesL fl).length) : Nat) : Int)))), (25, .one (dv (.int .i64 ((i : Nat) : Int))))], [(1, .row (recR n (nChunks 4000 (bytesL fl).length) (bytesL fl) i) 38), (0, .cells [.d (.int .i64 n), .d (.slice z 3 (fdrow fl))] 32)], 2⟩) (nChunks 4000 (bytesL fl).length) ?i2 ?n2
          case i2 =>
            exact ⟨0, by omega, rfl, by simp [St.nilT, St.keep, keepE, lookN, recR]⟩
          case n2 =>
            rintro k S ⟨i, hi0, rfl, rfl⟩
            refine AWp.seq ?_
            refine AWp.reg (S1 := ?S24) (ob := ?o24) (S' := ?K24) tab_ok (knowL_ok kn10_ok) mixed [1, 4, 5, 23, 24, 25, 26] ?r24 ?h24 ?k24 ?w24
            case r24 => simp only [go_sem, kn10, rightF, bytesF, chunkF, collF, lowK, pieceD, crow_len, unf_fdrow, Try.ntmps10, reduceIte, reduceCtorEq, Nat.reduceAdd, Nat.reduceEqDiff, Nat.reduceLT, Nat.reduceLeDiff, Nat.reduceSub, Nat.reduceMul, Nat.reduceBEq, Int.reduceToNat, Int.reduceLE, Int.reduceLT, Int.reducePow]; rfl
            case h24 => first | exact True.intro | omega | (simp only [go_sem, kn10, rightF, bytesF, chunkF, collF, lowK, pieceD, crow_len, unf_fdrow, Try.ntmps10, reduceIte, reduceCtorEq, Nat.reduceAdd, Nat.reduceEqDiff, Nat.reduceLT, Nat.reduceLeDiff, Nat.reduceSub, Nat.reduceMul, Nat.reduceBEq, Int.reduceToNat, Int.reduceLE, Int.reduceLT, Int.reducePow]; done) | (simp only [go_sem, kn10, rightF, bytesF, chunkF, collF, lowK, pieceD, crow_len, unf_fdrow, Try.ntmps10, reduceIte, reduceCtorEq, Nat.reduceAdd, Nat.reduceEqDiff, Nat.reduceLT, Nat.reduceLeDiff, Nat.reduceSub, Nat.reduceMul, Nat.reduceBEq, Int.reduceToNat, Int.reduceLE, Int.reduceLT, Int.reducePow]; omega)
            case k24 => simp only [go_sem, kn10, rightF, bytesF, chunkF, collF, lowK, pieceD, crow_len, unf_fdrow, Try.ntmps10, reduceIte, reduceCtorEq, Nat.reduceAdd, Nat.reduceEqDiff, Nat.reduceLT, Nat.reduceLeDiff, Nat.reduceSub, Nat.reduceMul, Nat.reduceBEq, Int.reduceToNat, Int.reduceLE, Int.reduceLT, Int.reducePow]; rfl
            refine AWp.seq ?_
            refine AWp.cond (b := ?b25) ?c25 ?t25 ?f25
            case c25 => simp only [go_sem, kn10, rightF, bytesF, chunkF, collF, lowK, pieceD, crow_len, unf_fdrow, Try.ntmps10, reduceIte, reduceCtorEq, Nat.reduceAdd, Nat.reduceEqDiff, Nat.reduceLT, Nat.reduceLeDiff, Nat.reduceSub, Nat.reduceMul, Nat.reduceBEq, Int.reduceToNat, Int.reduceLE, Int.reduceLT, Int.reducePow]; rfl
            case t25 =>
              intro hb6
              have hi : i < nChunks 4000 (bytesL fl).length := by simp at hb6; omega
              have hrow := crow_get (z := none) (k := 4000) (s := bytesL fl) hi [.slice (some true) 1 []]
              have hw3 := wrapN (v := i) (by omega)
              have hw4 := wrapN hN
              refine AWp.skip ?_
              refine AWp.seq ?_
              refine AWp.block ?_
              refine AWp.seq ?_
              refine AWp.reg (S1 := ?S26) (ob := ?o26) (S' := ?K26) tab_ok (knowL_ok kn10_ok) mixed [1, 4, 5, 6, 7, 23, 24, 25] ?r26 ?h26 ?k26 ?w26
              case r26 => simp only [go_sem, kn10, rightF, bytesF, chunkF, collF, lowK, pieceD, crow_len, unf_fdrow, Try.ntmps10, reduceIte, reduceCtorEq, Nat.reduceAdd, Nat.reduceEqDiff, Nat.reduceLT, Nat.reduceLeDiff, Nat.reduceSub, Nat.reduceMul, Nat.reduceBEq, Int.reduceToNat, Int.reduceLE, Int.reduceLT, Int.reducePow, hrow]; rfl
              case h26 => first | exact True.intro | omega | (simp only [go_sem, kn10, rightF, bytesF, chunkF, collF, lowK, pieceD, crow_len, unf_fdrow, Try.ntmps10, reduceIte, reduceCtorEq, Nat.reduceAdd, Nat.reduceEqDiff, Nat.reduceLT, Nat.reduceLeDiff, Nat.reduceSub, Nat.reduceMul, Nat.reduceBEq, Int.reduceToNat, Int.reduceLE, Int.reduceLT, Int.reducePow]; done) | (simp only [go_sem, kn10, rightF, bytesF, chunkF, collF, lowK, pieceD, crow_len, unf_fdrow, Try.ntmps10, reduceIte, reduceCtorEq, Nat.reduceAdd, Nat.reduceEqDiff, Nat.reduceLT, Nat.reduceLeDiff, Nat.reduceSub, Nat.reduceMul, Nat.reduceBEq, Int.reduceToNat, Int.reduceLE, Int.reduceLT, Int.reducePow]; omega)
              case k26 => simp only [go_sem, kn10, rightF, bytesF, chunkF, collF, lowK, pieceD, crow_len, unf_fdrow, Try.ntmps10, reduceIte, reduceCtorEq, Nat.reduceAdd, Nat.reduceEqDiff, Nat.reduceLT, Nat.reduceLeDiff, Nat.reduceSub, Nat.reduceMul, Nat.reduceBEq, Int.reduceToNat, Int.reduceLE, Int.reduceLT, Int.reducePow]; rfl
              refine AWp.seq ?_
              refine AWp.reg (S1 := ?S27) (ob := ?o27) (S' := ?K27) tab_ok (knowL_ok kn10_ok) mixed [1, 4, 5, 7, 8, 23, 24, 25] ?r27 ?h27 ?k27 ?w27
              case r27 => simp only [go_sem, kn10, rightF, bytesF, chunkF, collF, lowK, pieceD, crow_len, unf_fdrow, Try.ntmps10, reduceIte, reduceCtorEq, Nat.reduceAdd, Nat.reduceEqDiff, Nat.reduceLT, Nat.reduceLeDiff, Nat.reduceSub, Nat.reduceMul, Nat.reduceBEq, Int.reduceToNat, Int.reduceLE, Int.reduceLT, Int.reducePow, hw1, hw3, hw4]; rfl
              case h27 =>
                (simp only [go_sem, kn10, rightF, bytesF, chunkF, collF, lowK, pieceD, crow_len, unf_fdrow, Try.ntmps10, reduceIte, reduceCtorEq, Nat.reduceAdd, Nat.reduceEqDiff, Nat.reduceLT, Nat.reduceLeDiff, Nat.reduceSub, Nat.reduceMul, Nat.reduceBEq, Int.reduceToNat, Int.reduceLE, Int.reduceLT, Int.reducePow, hw1, hw3, hw4, lowB_len]) <;> omega
              case k27 => simp only [go_sem, kn10, rightF, bytesF, chunkF, collF, lowK, pieceD, crow_len, unf_fdrow, Try.ntmps10, reduceIte, reduceCtorEq, Nat.reduceAdd, Nat.reduceEqDiff, Nat.reduceLT, Nat.reduceLeDiff, Nat.reduceSub, Nat.reduceMul, Nat.reduceBEq, Int.reduceToNat, Int.reduceLE, Int.reduceLT, Int.reducePow]; rfl
              refine AWp.reg (S1 := ?S28) (ob := ?o28) (S' := ?K28) tab_ok (knowL_ok kn10_ok) mixed [1, 4, 5, 23, 24, 25] ?r28 ?h28 ?k28 ?w28
              case r28 => simp only [go_sem, kn10, rightF, bytesF, chunkF, collF, lowK, pieceD, crow_len, unf_fdrow, Try.ntmps10, reduceIte, reduceCtorEq, Nat.reduceAdd, Nat.reduceEqDiff, Nat.reduceLT, Nat.reduceLeDiff, Nat.reduceSub, Nat.reduceMul, Nat.reduceBEq, Int.reduceToNat, Int.reduceLE, Int.reduceLT, Int.reducePow]; rfl
              case h28 =>
                have hch := chunk_len (bytesL fl) i
                simp only [go_sem, kn10, rightF, bytesF, chunkF, collF, lowK, pieceD, crow_len, unf_fdrow, Try.ntmps10, reduceIte, reduceCtorEq, Nat.reduceAdd, Nat.reduceEqDiff, Nat.reduceLT, Nat.reduceLeDiff, Nat.reduceSub, Nat.reduceMul, Nat.reduceBEq, Int.reduceToNat, Int.reduceLE, Int.reduceLT, Int.reducePow, lowB_len, recR_len]
                omega
              case k28 => simp only [go_sem, kn10, rightF, bytesF, chunkF, collF, lowK, pieceD, crow_len, unf_fdrow, Try.ntmps10, reduceIte, reduceCtorEq, Nat.reduceAdd, Nat.reduceEqDiff, Nat.reduceLT, Nat.reduceLeDiff, Nat.reduceSub, Nat.reduceMul, Nat.reduceBEq, Int.reduceToNat, Int.reduceLE, Int.reduceLT, Int.reducePow]; rfl
              refine AWp.reg (S1 := ?S29) (ob := ?o29) (S' := ?K29) tab_ok (knowL_ok kn10_ok) mixed [1, 4, 5, 23, 24, 25] ?r29 ?h29 ?k29 ?w29
              case r29 => simp only [go_sem, kn10, rightF, bytesF, chunkF, collF, lowK, pieceD, crow_len, unf_fdrow, Try.ntmps10, reduceIte, reduceCtorEq, Nat.reduceAdd, Nat.reduceEqDiff, Nat.reduceLT, Nat.reduceLeDiff, Nat.reduceSub, Nat.reduceMul, Nat.reduceBEq, Int.reduceToNat, Int.reduceLE, Int.reduceLT, Int.reducePow]; rfl
              case h29 => first | exact True.intro | omega | (simp only [go_sem, kn10, rightF, bytesF, chunkF, collF, lowK, pieceD, crow_len, unf_fdrow, Try.ntmps10, reduceIte, reduceCtorEq, Nat.reduceAdd, Nat.reduceEqDiff, Nat.reduceLT, Nat.reduceLeDiff, Nat.reduceSub, Nat.reduceMul, Nat.reduceBEq, Int.reduceToNat, Int.reduceLE, Int.reduceLT, Int.reducePow]; done) | (simp only [go_sem, kn10, rightF, bytesF, chunkF, collF, lowK, pieceD, crow_len, unf_fdrow, Try.ntmps10, reduceIte, reduceCtorEq, Nat.reduceAdd, Nat.reduceEqDiff, Nat.reduceLT, Nat.reduceLeDiff, Nat.reduceSub, Nat.reduceMul, Nat.reduceBEq, Int.reduceToNat, Int.reduceLE, Int.reduceLT, Int.reducePow]; omega)
              case k29 => simp only [go_sem, kn10, rightF, bytesF, chunkF, collF, lowK, pieceD, crow_len, unf_fdrow, Try.ntmps10, reduceIte, reduceCtorEq, Nat.reduceAdd, Nat.reduceEqDiff, Nat.reduceLT, Nat.reduceLeDiff, Nat.reduceSub, Nat.reduceMul, Nat.reduceBEq, Int.reduceToNat, Int.reduceLE, Int.reduceLT, Int.reducePow]; rfl
              refine ⟨nChunks 4000 (bytesL fl).length - (i + 1), ⟨[(1, .one (.s (.ptr 0 0))), (4, .one (dv (.slice none 1 (crow none 4000 (bytesL fl) (nChunks 4000 (bytesL fl).length))))), (5, .one (.s (.row 1 1 0 (i + 1) none))), (23, .one (dv (.slice none 1 (crow none 4000 (bytesL fl) (nChunks 4000 (bytesL fl).length))))), (24, .one (dv (.int .i64 (((nChunks 4000 (bytesL fl).length) : Nat) : Int)))), (25, .one (dv (.int .i64 (((i + 1) : Nat) : Int))))], [(1, .row (recR n (nChunks 4000 (bytesL fl).length) (bytesL fl) (i + 1)) 38), (0, .cells [.d (.int .i64 n), .d (.slice z 3 (fdrow fl))] 32)], 2⟩, by omega, ?_, i + 1, by omega, rfl, rfl⟩
              exact (Conv.keep [1, 4, 5, 23, 24, 25] [7, 0] (by simp)).trans (Conv.rename (fun j => if j = 1 then 7 else j) (by simp; done) (by simp; done) (by simp [St.keep, keepE, lookN, AVal.ren, AV.ren, Sc.ren, AVal.ids, AV.ids, Sc.ids, recR_len]; done) (by simp [St.keep, keepE, lookN, AObj.ren, AObj.ids, Sc.ids, Sc.ren, recR_succ, recB, brow]; done) (by simp; done))
            case f25 =>
              intro hb6
              have hi : i = nChunks 4000 (bytesL fl).length := by simp at hb6; omega
              subst hi
              refine AWp.exit ?_
              refine thenA_exit ?_
              refine thenA_exit ?_
              refine inB_eq ?_
              refine AWp.seq ?_
              refine AWp.reg (S1 := ?S30) (ob := ?o30) (S' := ?K30) tab_ok (knowL_ok kn10_ok) mixed [2, 3] ?r30 ?h30 ?k30 ?w30
              case r30 => simp only [go_sem, kn10, rightF, bytesF, chunkF, collF, lowK, pieceD, crow_len, unf_fdrow, Try.ntmps10, reduceIte, reduceCtorEq, Nat.reduceAdd, Nat.reduceEqDiff, Nat.reduceLT, Nat.reduceLeDiff, Nat.reduceSub, Nat.reduceMul, Nat.reduceBEq, Int.reduceToNat, Int.reduceLE, Int.reduceLT, Int.reducePow]; rfl
              case h30 => first | exact True.intro | omega | (simp only [go_sem, kn10, rightF, bytesF, chunkF, collF, lowK, pieceD, crow_len, unf_fdrow, Try.ntmps10, reduceIte, reduceCtorEq, Nat.reduceAdd, Nat.reduceEqDiff, Nat.reduceLT, Nat.reduceLeDiff, Nat.reduceSub, Nat.reduceMul, Nat.reduceBEq, Int.reduceToNat, Int.reduceLE, Int.reduceLT, Int.reducePow]; done) | (simp only [go_sem, kn10, rightF, bytesF, chunkF, collF, lowK, pieceD, crow_len, unf_fdrow, Try.ntmps10, reduceIte, reduceCtorEq, Nat.reduceAdd, Nat.reduceEqDiff, Nat.reduceLT, Nat.reduceLeDiff, Nat.reduceSub, Nat.reduceMul, Nat.reduceBEq, Int.reduceToNat, Int.reduceLE, Int.reduceLT, Int.reducePow]; omega)
              case k30 => simp only [go_sem, kn10, rightF, bytesF, chunkF, collF, lowK, pieceD, crow_len, unf_fdrow, Try.ntmps10, reduceIte, reduceCtorEq, Nat.reduceAdd, Nat.reduceEqDiff, Nat.reduceLT, Nat.reduceLeDiff, Nat.reduceSub, Nat.reduceMul, Nat.reduceBEq, Int.reduceToNat, Int.reduceLE, Int.reduceLT, Int.reducePow]; rfl
              refine AWp.ret ?_
              refine ends_p (vs := ?vs3) (ob := ?ro3) (vs' := ?ws3) (ks := ?ks3) (ob2 := ?rp3) tab_ok (by simp) ?er3 ?eo3 ?ef3 ?eg3 ?en3 ?ek3 ?ev3
              case er3 => simp only [go_sem, kn10, rightF, bytesF, chunkF, collF, lowK, pieceD, crow_len, unf_fdrow, Try.ntmps10, reduceIte, reduceCtorEq, Nat.reduceAdd, Nat.reduceEqDiff, Nat.reduceLT, Nat.reduceLeDiff, Nat.reduceSub, Nat.reduceMul, Nat.reduceBEq, Int.reduceToNat, Int.reduceLE, Int.reduceLT, Int.reducePow, Try.results10]; rfl
              case eo3 => first | exact True.intro | simp only [go_sem, kn10, rightF, bytesF, chunkF, collF, lowK, pieceD, crow_len, unf_fdrow, Try.ntmps10, reduceIte, reduceCtorEq, Nat.reduceAdd, Nat.reduceEqDiff, Nat.reduceLT, Nat.reduceLeDiff, Nat.reduceSub, Nat.reduceMul, Nat.reduceBEq, Int.reduceToNat, Int.reduceLE, Int.reduceLT, Int.reducePow]
              case ef3 => simp only [go_sem, kn10, rightF, bytesF, chunkF, collF, lowK, pieceD, crow_len, unf_fdrow, Try.ntmps10, reduceIte, reduceCtorEq, Nat.reduceAdd, Nat.reduceEqDiff, Nat.reduceLT, Nat.reduceLeDiff, Nat.reduceSub, Nat.reduceMul, Nat.reduceBEq, Int.reduceToNat, Int.reduceLE, Int.reduceLT, Int.reducePow]; rfl
              case eg3 => simp [recR_len]
              case en3 => simp only [go_sem, kn10, rightF, bytesF, chunkF, collF, lowK, pieceD, crow_len, unf_fdrow, Try.ntmps10, reduceIte, reduceCtorEq, Nat.reduceAdd, Nat.reduceEqDiff, Nat.reduceLT, Nat.reduceLeDiff, Nat.reduceSub, Nat.reduceMul, Nat.reduceBEq, Int.reduceToNat, Int.reduceLE, Int.reduceLT, Int.reducePow]
              case ek3 => simp only [go_sem, kn10, rightF, bytesF, chunkF, collF, lowK, pieceD, crow_len, unf_fdrow, Try.ntmps10, reduceIte, reduceCtorEq, Nat.reduceAdd, Nat.reduceEqDiff, Nat.reduceLT, Nat.reduceLeDiff, Nat.reduceSub, Nat.reduceMul, Nat.reduceBEq, Int.reduceToNat, Int.reduceLE, Int.reduceLT, Int.reducePow]
              case ev3 =>
                rw [encV, if_pos hr, show nP (bytesL fl) = nChunks 4000 (bytesL fl).length from by simp [nP, h0]]; rfl
  · cases hq

end Go.Proofs.Hg
