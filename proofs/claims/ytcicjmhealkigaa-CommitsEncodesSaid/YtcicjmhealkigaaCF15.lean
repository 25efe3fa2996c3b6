import Derived.Test.YtcicjmhealkigaaCF11
import Derived.Test.YtcicjmhealkigaaCF12
import Derived.Test.YtcicjmhealkigaaCF13
import Derived.Test.YtcicjmhealkigaaCF14
set_option linter.unusedSimpArgs false
set_option linter.unusedVariables false
set_option maxHeartbeats 4000000
namespace Go.Proofs.Hg
open Go.RowKit
set_option maxRecDepth 100000
def enE (n : Int) (l : List FileL) : Int := if rightL n l then 0 else 201
def enZ (n : Int) (l : List FileL) : Option Bool := if rightL n l then none else some true
def enW (n : Int) (l : List FileL) : Nat := if rightL n l then 1 else 0
def enR (n : Int) (l : List FileL) : List (List D) := if rightL n l then recR n (nP (bytesL l)) (bytesL l) (nP (bytesL l)) else []
theorem encV_tup (n : Int) (l : List FileL) : encV n l = .tup [dv (.slice (enZ n l) (enW n l) (enR n l)), dv (.int .i64 (enE n l))] := by
  unfold encV enE enZ enW enR
  split <;> rfl
theorem recR_ok (n : Int) (N : Nat) (B : List UInt8) (i : Nat) : RowsOk (recR n N B i) := by
  intro r hr
  obtain ⟨j, _, rfl⟩ := List.mem_map.1 hr
  simp [rowZ1, rowB1]
theorem enR_ok (n : Int) (l : List FileL) : RowsOk (enR n l) := by
  unfold enR
  split
  · exact recR_ok _ _ _ _
  · intro r hr; simp at hr
theorem enR_len (n : Int) (l : List FileL) : (enR n l).length ≤ 16789 := by
  unfold enR
  split
  · rename_i h
    have hN := nChunks_le (bytesL_len (rightL_in h).2.2)
    rw [recR_len]
    unfold nP
    split <;> omega
  · simp
theorem enR_w (n : Int) (l : List FileL) : enR n l = [] ∨ enW n l = 1 := by
  unfold enR enW
  split
  · exact .inr rfl
  · exact .inl rfl
def bgK (l : List BigL) : Bool := bigOk l
def bgZ (l : List BigL) : Option Bool := if bigOk l then none else some true
def bgW (l : List BigL) : Nat := if bigOk l then 3 else 0
def bgR (l : List BigL) : List FileL := if bigOk l then bigs l else []
theorem bigV_tup (l : List BigL) : bigV l = .tup [dv (.slice (bgZ l) (bgW l) (fdrow (bgR l))), dv (.bool (bgK l))] := by
  unfold bigV bgK bgZ bgW bgR
  split
  · rename_i h; rw [h]
  · rename_i h; simp only [Bool.not_eq_true] at h; rw [h]; rfl
theorem bigs_ok {l : List BigL} (h : bigOk l = true) : FilesOk (bigs l) := by
  have h8 := good_le h
  refine ⟨by rw [bigs_len]; omega, fun f hf => ?_⟩
  obtain ⟨b, hb, rfl⟩ := List.mem_map.1 hf
  obtain ⟨i, hi, rfl⟩ := List.mem_iff_getElem.1 hb
  have hg := List.all_eq_true.1 h i (by simpa using hi)
  have h1 : badB l i = false := by simpa using hg
  simp only [badB, Bool.or_eq_false_iff, decide_eq_false_iff_not, getD_lt hi] at h1
  show l[i].1.length ≤ 1000000
  omega
theorem map_id {α : Type} {f : α → α} {l : List α} (h : ∀ x ∈ l, f x = x) : l.map f = l := by
  conv => rhs; rw [← List.map_id l]
  exact List.map_congr_left h
theorem has_bigs {es : List (List D)} (h : ∀ r ∈ es, (Ty.struct [.str, .int .i64, .str, .int .i64]).has r) : es = bgrow (unbg es) := by
  rw [bgrow, unbg, List.map_map]
  refine (map_id fun r hr => ?_).symm
  have := h r hr
  simp only [Ty.has, Ty.hasL] at this
  obtain ⟨_, _, rfl, ⟨p, rfl, _⟩, _, _, rfl, ⟨v, rfl, _⟩, _, _, rfl, ⟨s, rfl, _⟩, _, _, rfl, ⟨t, rfl, _⟩, rfl⟩ := this
  rfl
def encodesF : List AV → Option (AVal × Prop)
  | [.s (.d (.int .i64 n)), .s (.d (.slice z e es))] => some (.one (dv (.bool true)), e = 4 ∧ es = bgrow (unbg es))
  | _ => none
def kn3 : List (Nat × Cont) := [(8, pureK filesF), (9, pureK aliveF), (10, pureK encF), (11, pureK rEncF), (12, pureK sameBF)]
theorem kn3_ok : ∀ p ∈ kn3, ContOk Try.prog p.1 p.2 := by
  intro p hp
  simp only [kn3, List.mem_cons, List.not_mem_nil, or_false] at hp
  rcases hp with rfl | rfl | rfl | rfl | rfl
  · exact filesF_ok
  · exact aliveF_ok
  · exact encF_ok
  · exact rEncF_ok
  · exact sameBF_ok
theorem encodesF_ok : ContOk Try.prog 3 (pureK encodesF) := by
  refine pure_ok (nargs := 2) Try.func3 rfl (by kernel_rfl) (Nat.le_of_ble_eq_true (by kernel_rfl)) ?_
  intro args q hq hob
  unfold encodesF at hq
  split at hq
  · rename_i n z e es
    injection hq with hq
    subst hq
    obtain ⟨h1, h2⟩ : e = 4 ∧ es = bgrow (unbg es) := hob
    generalize unbg es = bl at *
    subst h1 h2
    refine ⟨rfl, by simp [AV.ids, Sc.ids], by simp [AVal.ids, AV.ids, Sc.ids], by simp, ?_⟩
    refine AWp.seq ?_
    refine AWp.reg (S1 := ?S1) (ob := ?o1) (S' := ?K1) tab_ok (knowL_ok kn3_ok) mixed [0, 1] ?r1 ?h1 ?k1 ?w1
    case r1 => simp only [go_sem, kn3, filesF, aliveF, encF, rEncF, sameBF, bigV_tup, encV_tup, unf_fdrow, unbg_bgrow, Try.ntmps3, reduceIte, reduceCtorEq, Nat.reduceAdd, Nat.reduceEqDiff, Nat.reduceLT, Nat.reduceLeDiff, Nat.reduceSub, Nat.reduceMul, Nat.reduceBEq, Int.reduceToNat, Int.reduceLE, Int.reduceLT, Int.reducePow]; rfl
    case h1 => first | exact True.intro | omega | (simp only [go_sem, kn3, filesF, aliveF, encF, rEncF, sameBF, bigV_tup, encV_tup, unf_fdrow, unbg_bgrow, Try.ntmps3, reduceIte, reduceCtorEq, Nat.reduceAdd, Nat.reduceEqDiff, Nat.reduceLT, Nat.reduceLeDiff, Nat.reduceSub, Nat.reduceMul, Nat.reduceBEq, Int.reduceToNat, Int.reduceLE, Int.reduceLT, Int.reducePow]; done) | (simp only [go_sem, kn3, filesF, aliveF, encF, rEncF, sameBF, bigV_tup, encV_tup, unf_fdrow, unbg_bgrow, Try.ntmps3, reduceIte, reduceCtorEq, Nat.reduceAdd, Nat.reduceEqDiff, Nat.reduceLT, Nat.reduceLeDiff, Nat.reduceSub, Nat.reduceMul, Nat.reduceBEq, Int.reduceToNat, Int.reduceLE, Int.reduceLT, Int.reducePow]; omega)
    case k1 => simp only [go_sem, kn3, filesF, aliveF, encF, rEncF, sameBF, bigV_tup, encV_tup, unf_fdrow, unbg_bgrow, Try.ntmps3, reduceIte, reduceCtorEq, Nat.reduceAdd, Nat.reduceEqDiff, Nat.reduceLT, Nat.reduceLeDiff, Nat.reduceSub, Nat.reduceMul, Nat.reduceBEq, Int.reduceToNat, Int.reduceLE, Int.reduceLT, Int.reducePow]; rfl
    refine AWp.seq ?_
    refine AWp.reg (S1 := ?S2) (ob := ?o2) (S' := ?K2) tab_ok (knowL_ok kn3_ok) mixed [0, 5, 6] ?r2 ?h2 ?k2 ?w2
    case r2 => simp only [go_sem, kn3, filesF, aliveF, encF, rEncF, sameBF, bigV_tup, encV_tup, unf_fdrow, unbg_bgrow, Try.ntmps3, reduceIte, reduceCtorEq, Nat.reduceAdd, Nat.reduceEqDiff, Nat.reduceLT, Nat.reduceLeDiff, Nat.reduceSub, Nat.reduceMul, Nat.reduceBEq, Int.reduceToNat, Int.reduceLE, Int.reduceLT, Int.reducePow]; rfl
    case h2 => first | exact True.intro | omega | (simp only [go_sem, kn3, filesF, aliveF, encF, rEncF, sameBF, bigV_tup, encV_tup, unf_fdrow, unbg_bgrow, Try.ntmps3, reduceIte, reduceCtorEq, Nat.reduceAdd, Nat.reduceEqDiff, Nat.reduceLT, Nat.reduceLeDiff, Nat.reduceSub, Nat.reduceMul, Nat.reduceBEq, Int.reduceToNat, Int.reduceLE, Int.reduceLT, Int.reducePow]; done) | (simp only [go_sem, kn3, filesF, aliveF, encF, rEncF, sameBF, bigV_tup, encV_tup, unf_fdrow, unbg_bgrow, Try.ntmps3, reduceIte, reduceCtorEq, Nat.reduceAdd, Nat.reduceEqDiff, Nat.reduceLT, Nat.reduceLeDiff, Nat.reduceSub, Nat.reduceMul, Nat.reduceBEq, Int.reduceToNat, Int.reduceLE, Int.reduceLT, Int.reducePow]; omega)
    case k2 => simp only [go_sem, kn3, filesF, aliveF, encF, rEncF, sameBF, bigV_tup, encV_tup, unf_fdrow, unbg_bgrow, Try.ntmps3, reduceIte, reduceCtorEq, Nat.reduceAdd, Nat.reduceEqDiff, Nat.reduceLT, Nat.reduceLeDiff, Nat.reduceSub, Nat.reduceMul, Nat.reduceBEq, Int.reduceToNat, Int.reduceLE, Int.reduceLT, Int.reducePow]; rfl
    refine AWp.seq ?_
    refine AWp.seq ?_
    refine AWp.reg (S1 := ?S3) (ob := ?o3) (S' := ?K3) tab_ok (knowL_ok kn3_ok) mixed [0, 5, 18] ?r3 ?h3 ?k3 ?w3
    case r3 => simp only [go_sem, kn3, filesF, aliveF, encF, rEncF, sameBF, bigV_tup, encV_tup, unf_fdrow, unbg_bgrow, Try.ntmps3, reduceIte, reduceCtorEq, Nat.reduceAdd, Nat.reduceEqDiff, Nat.reduceLT, Nat.reduceLeDiff, Nat.reduceSub, Nat.reduceMul, Nat.reduceBEq, Int.reduceToNat, Int.reduceLE, Int.reduceLT, Int.reducePow]; rfl
    case h3 => first | exact True.intro | omega | (simp only [go_sem, kn3, filesF, aliveF, encF, rEncF, sameBF, bigV_tup, encV_tup, unf_fdrow, unbg_bgrow, Try.ntmps3, reduceIte, reduceCtorEq, Nat.reduceAdd, Nat.reduceEqDiff, Nat.reduceLT, Nat.reduceLeDiff, Nat.reduceSub, Nat.reduceMul, Nat.reduceBEq, Int.reduceToNat, Int.reduceLE, Int.reduceLT, Int.reducePow]; done) | (simp only [go_sem, kn3, filesF, aliveF, encF, rEncF, sameBF, bigV_tup, encV_tup, unf_fdrow, unbg_bgrow, Try.ntmps3, reduceIte, reduceCtorEq, Nat.reduceAdd, Nat.reduceEqDiff, Nat.reduceLT, Nat.reduceLeDiff, Nat.reduceSub, Nat.reduceMul, Nat.reduceBEq, Int.reduceToNat, Int.reduceLE, Int.reduceLT, Int.reducePow]; omega)
    case k3 => simp only [go_sem, kn3, filesF, aliveF, encF, rEncF, sameBF, bigV_tup, encV_tup, unf_fdrow, unbg_bgrow, Try.ntmps3, reduceIte, reduceCtorEq, Nat.reduceAdd, Nat.reduceEqDiff, Nat.reduceLT, Nat.reduceLeDiff, Nat.reduceSub, Nat.reduceMul, Nat.reduceBEq, Int.reduceToNat, Int.reduceLE, Int.reduceLT, Int.reducePow]; rfl
    refine AWp.cond (b := ?b4) ?c4 ?t4 ?f4
    case c4 => simp only [go_sem, kn3, filesF, aliveF, encF, rEncF, sameBF, bigV_tup, encV_tup, unf_fdrow, unbg_bgrow, Try.ntmps3, reduceIte, reduceCtorEq, Nat.reduceAdd, Nat.reduceEqDiff, Nat.reduceLT, Nat.reduceLeDiff, Nat.reduceSub, Nat.reduceMul, Nat.reduceBEq, Int.reduceToNat, Int.reduceLE, Int.reduceLT, Int.reducePow]; rfl
    case t4 =>
      intro hb1
      refine AWp.seq ?_
      refine AWp.reg (S1 := ?S5) (ob := ?o5) (S' := ?K5) tab_ok (knowL_ok kn3_ok) mixed [4] ?r5 ?h5 ?k5 ?w5
      case r5 => simp only [go_sem, kn3, filesF, aliveF, encF, rEncF, sameBF, bigV_tup, encV_tup, unf_fdrow, unbg_bgrow, Try.ntmps3, reduceIte, reduceCtorEq, Nat.reduceAdd, Nat.reduceEqDiff, Nat.reduceLT, Nat.reduceLeDiff, Nat.reduceSub, Nat.reduceMul, Nat.reduceBEq, Int.reduceToNat, Int.reduceLE, Int.reduceLT, Int.reducePow]; rfl
      case h5 => first | exact True.intro | omega | (simp only [go_sem, kn3, filesF, aliveF, encF, rEncF, sameBF, bigV_tup, encV_tup, unf_fdrow, unbg_bgrow, Try.ntmps3, reduceIte, reduceCtorEq, Nat.reduceAdd, Nat.reduceEqDiff, Nat.reduceLT, Nat.reduceLeDiff, Nat.reduceSub, Nat.reduceMul, Nat.reduceBEq, Int.reduceToNat, Int.reduceLE, Int.reduceLT, Int.reducePow]; done) | (simp only [go_sem, kn3, filesF, aliveF, encF, rEncF, sameBF, bigV_tup, encV_tup, unf_fdrow, unbg_bgrow, Try.ntmps3, reduceIte, reduceCtorEq, Nat.reduceAdd, Nat.reduceEqDiff, Nat.reduceLT, Nat.reduceLeDiff, Nat.reduceSub, Nat.reduceMul, Nat.reduceBEq, Int.reduceToNat, Int.reduceLE, Int.reduceLT, Int.reducePow]; omega)
      case k5 => simp only [go_sem, kn3, filesF, aliveF, encF, rEncF, sameBF, bigV_tup, encV_tup, unf_fdrow, unbg_bgrow, Try.ntmps3, reduceIte, reduceCtorEq, Nat.reduceAdd, Nat.reduceEqDiff, Nat.reduceLT, Nat.reduceLeDiff, Nat.reduceSub, Nat.reduceMul, Nat.reduceBEq, Int.reduceToNat, Int.reduceLE, Int.reduceLT, Int.reducePow]; rfl
      refine AWp.ret ?_
      refine ends_p (vs := ?vs1) (ob := ?ro1) (vs' := ?ws1) (ks := ?ks1) (ob2 := ?rp1) tab_ok (by simp) ?er1 ?eo1 ?ef1 ?eg1 ?en1 ?ek1 ?ev1
      case er1 => simp only [go_sem, kn3, filesF, aliveF, encF, rEncF, sameBF, bigV_tup, encV_tup, unf_fdrow, unbg_bgrow, Try.ntmps3, reduceIte, reduceCtorEq, Nat.reduceAdd, Nat.reduceEqDiff, Nat.reduceLT, Nat.reduceLeDiff, Nat.reduceSub, Nat.reduceMul, Nat.reduceBEq, Int.reduceToNat, Int.reduceLE, Int.reduceLT, Int.reducePow, Try.results3]; rfl
      case eo1 => first | exact True.intro | simp only [go_sem, kn3, filesF, aliveF, encF, rEncF, sameBF, bigV_tup, encV_tup, unf_fdrow, unbg_bgrow, Try.ntmps3, reduceIte, reduceCtorEq, Nat.reduceAdd, Nat.reduceEqDiff, Nat.reduceLT, Nat.reduceLeDiff, Nat.reduceSub, Nat.reduceMul, Nat.reduceBEq, Int.reduceToNat, Int.reduceLE, Int.reduceLT, Int.reducePow]
      case ef1 => simp only [go_sem, kn3, filesF, aliveF, encF, rEncF, sameBF, bigV_tup, encV_tup, unf_fdrow, unbg_bgrow, Try.ntmps3, reduceIte, reduceCtorEq, Nat.reduceAdd, Nat.reduceEqDiff, Nat.reduceLT, Nat.reduceLeDiff, Nat.reduceSub, Nat.reduceMul, Nat.reduceBEq, Int.reduceToNat, Int.reduceLE, Int.reduceLT, Int.reducePow]; rfl
      case eg1 => first | exact True.intro | simp only [go_sem, kn3, filesF, aliveF, encF, rEncF, sameBF, bigV_tup, encV_tup, unf_fdrow, unbg_bgrow, Try.ntmps3, reduceIte, reduceCtorEq, Nat.reduceAdd, Nat.reduceEqDiff, Nat.reduceLT, Nat.reduceLeDiff, Nat.reduceSub, Nat.reduceMul, Nat.reduceBEq, Int.reduceToNat, Int.reduceLE, Int.reduceLT, Int.reducePow]
      case en1 => simp only [go_sem, kn3, filesF, aliveF, encF, rEncF, sameBF, bigV_tup, encV_tup, unf_fdrow, unbg_bgrow, Try.ntmps3, reduceIte, reduceCtorEq, Nat.reduceAdd, Nat.reduceEqDiff, Nat.reduceLT, Nat.reduceLeDiff, Nat.reduceSub, Nat.reduceMul, Nat.reduceBEq, Int.reduceToNat, Int.reduceLE, Int.reduceLT, Int.reducePow]
      case ek1 => simp only [go_sem, kn3, filesF, aliveF, encF, rEncF, sameBF, bigV_tup, encV_tup, unf_fdrow, unbg_bgrow, Try.ntmps3, reduceIte, reduceCtorEq, Nat.reduceAdd, Nat.reduceEqDiff, Nat.reduceLT, Nat.reduceLeDiff, Nat.reduceSub, Nat.reduceMul, Nat.reduceBEq, Int.reduceToNat, Int.reduceLE, Int.reduceLT, Int.reducePow]
      case ev1 =>
        first | rfl | simp only [go_sem, kn3, filesF, aliveF, encF, rEncF, sameBF, bigV_tup, encV_tup, unf_fdrow, unbg_bgrow, Try.ntmps3, reduceIte, reduceCtorEq, Nat.reduceAdd, Nat.reduceEqDiff, Nat.reduceLT, Nat.reduceLeDiff, Nat.reduceSub, Nat.reduceMul, Nat.reduceBEq, Int.reduceToNat, Int.reduceLE, Int.reduceLT, Int.reducePow]
    case f4 =>
      intro hb1
      have hk : bigOk bl = true := by simpa [bgK] using hb1
      have hR : bgR bl = bigs bl := by rw [bgR, if_pos hk]
      have hW : bgW bl = 3 := by rw [bgW, if_pos hk]
      have hO := bigs_ok hk
      refine AWp.skip ?_
      refine AWp.seq ?_
      refine AWp.reg (S1 := ?S6) (ob := ?o6) (S' := ?K6) tab_ok (knowL_ok kn3_ok) mixed [0, 5, 7, 8] ?r6 ?h6 ?k6 ?w6
      case r6 => simp only [go_sem, kn3, filesF, aliveF, encF, rEncF, sameBF, bigV_tup, encV_tup, unf_fdrow, unbg_bgrow, Try.ntmps3, reduceIte, reduceCtorEq, Nat.reduceAdd, Nat.reduceEqDiff, Nat.reduceLT, Nat.reduceLeDiff, Nat.reduceSub, Nat.reduceMul, Nat.reduceBEq, Int.reduceToNat, Int.reduceLE, Int.reduceLT, Int.reducePow]; rfl
      case h6 =>
        exact ⟨hW, by rw [hR]; exact hO⟩
      case k6 => simp only [go_sem, kn3, filesF, aliveF, encF, rEncF, sameBF, bigV_tup, encV_tup, unf_fdrow, unbg_bgrow, Try.ntmps3, reduceIte, reduceCtorEq, Nat.reduceAdd, Nat.reduceEqDiff, Nat.reduceLT, Nat.reduceLeDiff, Nat.reduceSub, Nat.reduceMul, Nat.reduceBEq, Int.reduceToNat, Int.reduceLE, Int.reduceLT, Int.reducePow]; rfl
      refine AWp.seq ?_
      refine AWp.reg (S1 := ?S7) (ob := ?o7) (S' := ?K7) tab_ok (knowL_ok kn3_ok) mixed [7, 8, 9, 10] ?r7 ?h7 ?k7 ?w7
      case r7 => simp only [go_sem, kn3, filesF, aliveF, encF, rEncF, sameBF, bigV_tup, encV_tup, unf_fdrow, unbg_bgrow, Try.ntmps3, reduceIte, reduceCtorEq, Nat.reduceAdd, Nat.reduceEqDiff, Nat.reduceLT, Nat.reduceLeDiff, Nat.reduceSub, Nat.reduceMul, Nat.reduceBEq, Int.reduceToNat, Int.reduceLE, Int.reduceLT, Int.reducePow]; rfl
      case h7 =>
        exact ⟨hW, by rw [hR]; exact hO⟩
      case k7 => simp only [go_sem, kn3, filesF, aliveF, encF, rEncF, sameBF, bigV_tup, encV_tup, unf_fdrow, unbg_bgrow, Try.ntmps3, reduceIte, reduceCtorEq, Nat.reduceAdd, Nat.reduceEqDiff, Nat.reduceLT, Nat.reduceLeDiff, Nat.reduceSub, Nat.reduceMul, Nat.reduceBEq, Int.reduceToNat, Int.reduceLE, Int.reduceLT, Int.reducePow]; rfl
      refine AWp.seq ?_
      refine AWp.reg (S1 := ?S8) (ob := ?o8) (S' := ?K8) tab_ok (knowL_ok kn3_ok) mixed [8, 10, 11] ?r8 ?h8 ?k8 ?w8
      case r8 => simp only [go_sem, kn3, filesF, aliveF, encF, rEncF, sameBF, bigV_tup, encV_tup, unf_fdrow, unbg_bgrow, Try.ntmps3, reduceIte, reduceCtorEq, Nat.reduceAdd, Nat.reduceEqDiff, Nat.reduceLT, Nat.reduceLeDiff, Nat.reduceSub, Nat.reduceMul, Nat.reduceBEq, Int.reduceToNat, Int.reduceLE, Int.reduceLT, Int.reducePow]; rfl
      case h8 =>
        exact ⟨enR_w _ _, enR_w _ _, enR_ok _ _, enR_ok _ _, Nat.le_trans (enR_len _ _) (by omega)⟩
      case k8 => simp only [go_sem, kn3, filesF, aliveF, encF, rEncF, sameBF, bigV_tup, encV_tup, unf_fdrow, unbg_bgrow, Try.ntmps3, reduceIte, reduceCtorEq, Nat.reduceAdd, Nat.reduceEqDiff, Nat.reduceLT, Nat.reduceLeDiff, Nat.reduceSub, Nat.reduceMul, Nat.reduceBEq, Int.reduceToNat, Int.reduceLE, Int.reduceLT, Int.reducePow]; rfl
      refine AWp.seq ?_
      refine AWp.reg (S1 := ?S9) (ob := ?o9) (S' := ?K9) tab_ok (knowL_ok kn3_ok) mixed [4] ?r9 ?h9 ?k9 ?w9
      case r9 => simp only [go_sem, kn3, filesF, aliveF, encF, rEncF, sameBF, bigV_tup, encV_tup, unf_fdrow, unbg_bgrow, Try.ntmps3, reduceIte, reduceCtorEq, Nat.reduceAdd, Nat.reduceEqDiff, Nat.reduceLT, Nat.reduceLeDiff, Nat.reduceSub, Nat.reduceMul, Nat.reduceBEq, Int.reduceToNat, Int.reduceLE, Int.reduceLT, Int.reducePow]; rfl
      case h9 => first | exact True.intro | omega | (simp only [go_sem, kn3, filesF, aliveF, encF, rEncF, sameBF, bigV_tup, encV_tup, unf_fdrow, unbg_bgrow, Try.ntmps3, reduceIte, reduceCtorEq, Nat.reduceAdd, Nat.reduceEqDiff, Nat.reduceLT, Nat.reduceLeDiff, Nat.reduceSub, Nat.reduceMul, Nat.reduceBEq, Int.reduceToNat, Int.reduceLE, Int.reduceLT, Int.reducePow]; done) | (simp only [go_sem, kn3, filesF, aliveF, encF, rEncF, sameBF, bigV_tup, encV_tup, unf_fdrow, unbg_bgrow, Try.ntmps3, reduceIte, reduceCtorEq, Nat.reduceAdd, Nat.reduceEqDiff, Nat.reduceLT, Nat.reduceLeDiff, Nat.reduceSub, Nat.reduceMul, Nat.reduceBEq, Int.reduceToNat, Int.reduceLE, Int.reduceLT, Int.reducePow]; omega)
      case k9 => simp only [go_sem, kn3, filesF, aliveF, encF, rEncF, sameBF, bigV_tup, encV_tup, unf_fdrow, unbg_bgrow, Try.ntmps3, reduceIte, reduceCtorEq, Nat.reduceAdd, Nat.reduceEqDiff, Nat.reduceLT, Nat.reduceLeDiff, Nat.reduceSub, Nat.reduceMul, Nat.reduceBEq, Int.reduceToNat, Int.reduceLE, Int.reduceLT, Int.reducePow]; rfl
      refine AWp.ret ?_
      refine ends_p (vs := ?vs2) (ob := ?ro2) (vs' := ?ws2) (ks := ?ks2) (ob2 := ?rp2) tab_ok (by simp) ?er2 ?eo2 ?ef2 ?eg2 ?en2 ?ek2 ?ev2
      case er2 => simp only [go_sem, kn3, filesF, aliveF, encF, rEncF, sameBF, bigV_tup, encV_tup, unf_fdrow, unbg_bgrow, Try.ntmps3, reduceIte, reduceCtorEq, Nat.reduceAdd, Nat.reduceEqDiff, Nat.reduceLT, Nat.reduceLeDiff, Nat.reduceSub, Nat.reduceMul, Nat.reduceBEq, Int.reduceToNat, Int.reduceLE, Int.reduceLT, Int.reducePow, Try.results3]; rfl
      case eo2 => first | exact True.intro | simp only [go_sem, kn3, filesF, aliveF, encF, rEncF, sameBF, bigV_tup, encV_tup, unf_fdrow, unbg_bgrow, Try.ntmps3, reduceIte, reduceCtorEq, Nat.reduceAdd, Nat.reduceEqDiff, Nat.reduceLT, Nat.reduceLeDiff, Nat.reduceSub, Nat.reduceMul, Nat.reduceBEq, Int.reduceToNat, Int.reduceLE, Int.reduceLT, Int.reducePow]
      case ef2 => simp only [go_sem, kn3, filesF, aliveF, encF, rEncF, sameBF, bigV_tup, encV_tup, unf_fdrow, unbg_bgrow, Try.ntmps3, reduceIte, reduceCtorEq, Nat.reduceAdd, Nat.reduceEqDiff, Nat.reduceLT, Nat.reduceLeDiff, Nat.reduceSub, Nat.reduceMul, Nat.reduceBEq, Int.reduceToNat, Int.reduceLE, Int.reduceLT, Int.reducePow]; rfl
      case eg2 => first | exact True.intro | simp only [go_sem, kn3, filesF, aliveF, encF, rEncF, sameBF, bigV_tup, encV_tup, unf_fdrow, unbg_bgrow, Try.ntmps3, reduceIte, reduceCtorEq, Nat.reduceAdd, Nat.reduceEqDiff, Nat.reduceLT, Nat.reduceLeDiff, Nat.reduceSub, Nat.reduceMul, Nat.reduceBEq, Int.reduceToNat, Int.reduceLE, Int.reduceLT, Int.reducePow]
      case en2 => simp only [go_sem, kn3, filesF, aliveF, encF, rEncF, sameBF, bigV_tup, encV_tup, unf_fdrow, unbg_bgrow, Try.ntmps3, reduceIte, reduceCtorEq, Nat.reduceAdd, Nat.reduceEqDiff, Nat.reduceLT, Nat.reduceLeDiff, Nat.reduceSub, Nat.reduceMul, Nat.reduceBEq, Int.reduceToNat, Int.reduceLE, Int.reduceLT, Int.reducePow]
      case ek2 => simp only [go_sem, kn3, filesF, aliveF, encF, rEncF, sameBF, bigV_tup, encV_tup, unf_fdrow, unbg_bgrow, Try.ntmps3, reduceIte, reduceCtorEq, Nat.reduceAdd, Nat.reduceEqDiff, Nat.reduceLT, Nat.reduceLeDiff, Nat.reduceSub, Nat.reduceMul, Nat.reduceBEq, Int.reduceToNat, Int.reduceLE, Int.reduceLT, Int.reducePow]
      case ev2 =>
        first | rfl | simp only [go_sem, kn3, filesF, aliveF, encF, rEncF, sameBF, bigV_tup, encV_tup, unf_fdrow, unbg_bgrow, Try.ntmps3, reduceIte, reduceCtorEq, Nat.reduceAdd, Nat.reduceEqDiff, Nat.reduceLT, Nat.reduceLeDiff, Nat.reduceSub, Nat.reduceMul, Nat.reduceBEq, Int.reduceToNat, Int.reduceLE, Int.reduceLT, Int.reducePow]
  · cases hq

end Go.Proofs.Hg
