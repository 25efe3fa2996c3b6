/- What was encoded is decoded: the plain law. -/
import Derived.Test.YtcicjmhealkigaaM7
set_option linter.unusedSimpArgs false
set_option linter.unusedVariables false
namespace Go.Proofs.Hg
open Go.RowKit
set_option maxRecDepth 100000

theorem lowB_cons (v : Int) (k : Nat) : lowB v (k + 1) = u8 v :: lowB (v / 256) k := by
  unfold lowB
  rw [List.range_succ_eq_map, List.map_cons, List.map_map]
  congr 1
  · simp
  · apply List.map_congr_left
    intro i _
    show u8 (v / 2 ^ (8 * (i + 1))) = u8 (v / 256 / 2 ^ (8 * i))
    congr 1
    rw [Int.ediv_ediv_of_nonneg (by omega : (0 : Int) ≤ 256)]
    congr 1
    have : (2 : Int) ^ (8 * (i + 1)) = 2 ^ (8 * i) * 256 := by rw [Nat.mul_add, Int.pow_add]; rfl
    rw [this, Int.mul_comm]
theorem u8_int (v : Int) : ((u8 v).toNat : Int) = v % 256 := by
  have := u8_wrap v
  rw [IntKind.wrap_u8] at this
  exact this
theorem numU_lowB : ∀ (k : Nat) (v : Nat), v < 256 ^ k → numU (lowB (v : Int) k) = v
  | 0, v, h => by simp at h; subst h; rfl
  | k + 1, v, h => by
    rw [lowB_cons]
    have e : (v : Int) / 256 = ((v / 256 : Nat) : Int) := by omega
    rw [e, numU, numU_lowB k (v / 256) (by rw [Nat.pow_succ] at h; omega)]
    have := u8_int (v : Int)
    omega
theorem numU_lowB' {k : Nat} {v : Int} (h0 : 0 ≤ v) (h : v < 256 ^ k) : (numU (lowB v k) : Int) = v := by
  obtain ⟨m, rfl⟩ : ∃ m : Nat, v = m := ⟨v.toNat, by omega⟩
  rw [numU_lowB k m (by
    have e : ((256 ^ k : Nat) : Int) = 256 ^ k := by push_cast; rfl
    omega)]
theorem numI_lowB {k : Nat} {v : Int} (h0 : 0 ≤ v) (h : v < 256 ^ k) (h63 : v ≤ 9223372036854775807) : numI (lowB v k) = v := by
  unfold numI
  rw [numU_lowB' h0 h]
  exact IntWalk.i64_in _ ⟨by omega, by omega⟩

/-! ### files -/
theorem head_u8 {n : Nat} (h : n ≤ 255) : (u8 (n : Int)).toNat = n := by
  have := u8_int (n : Int)
  omega
theorem take_app {α : Type} {a b : List α} {n : Nat} (h : a.length = n) : (a ++ b).take n = a := by subst h; simp
theorem drop_app {α : Type} {a b : List α} {n : Nat} (h : a.length = n) : (a ++ b).drop n = b := by subst h; simp
theorem rf_fileB {f : FileL} (hf : FileIn f) (t : List UInt8) : rfN (fileB f ++ t) = f.1.length ∧ rfSz (fileB f ++ t) = f.2.2.length ∧ rfFile (fileB f ++ t) = f ∧ (fileB f ++ t).drop (13 + f.1.length + f.2.2.length) = t := by
  obtain ⟨h1, h2, h3, h4⟩ := hf
  have p4' : (256 : Int) ^ 4 = 4294967296 := by decide
  have p8' : (256 : Int) ^ 8 = 18446744073709551616 := by decide
  have hN : rfN (fileB f ++ t) = f.1.length := by
    show (u8 (f.1.length : Int)).toNat = _
    exact head_u8 (by omega)
  have e : fileB f ++ t = [u8 (f.1.length : Int)] ++ (f.1 ++ (lowB f.2.1 8 ++ (lowB (f.2.2.length : Int) 4 ++ (f.2.2 ++ t)))) := by simp [fileB]
  have d1 : (fileB f ++ t).drop 1 = f.1 ++ (lowB f.2.1 8 ++ (lowB (f.2.2.length : Int) 4 ++ (f.2.2 ++ t))) := by rw [e]; rfl
  have d2 : (fileB f ++ t).drop (1 + f.1.length) = lowB f.2.1 8 ++ (lowB (f.2.2.length : Int) 4 ++ (f.2.2 ++ t)) := by rw [← List.drop_drop, d1, drop_app rfl]
  have d3 : (fileB f ++ t).drop (9 + f.1.length) = lowB (f.2.2.length : Int) 4 ++ (f.2.2 ++ t) := by rw [show 9 + f.1.length = 1 + f.1.length + 8 by omega, ← List.drop_drop, d2, drop_app (lowB_len _ _)]
  have d4 : (fileB f ++ t).drop (13 + f.1.length) = f.2.2 ++ t := by rw [show 13 + f.1.length = 9 + f.1.length + 4 by omega, ← List.drop_drop, d3, drop_app (lowB_len _ _)]
  have hS : rfSz (fileB f ++ t) = f.2.2.length := by
    unfold rfSz
    rw [hN, d3, take_app (lowB_len _ _), numI_lowB (by omega) (by omega) (by omega)]
  refine ⟨hN, hS, ?_, ?_⟩
  · unfold rfFile
    rw [hS, hN, d1, d2, d4, take_app rfl, take_app (lowB_len _ _), take_app (by simp), numI_lowB h2 (by omega) (by omega)]
  · rw [← List.drop_drop, d4, drop_app rfl]
theorem fileB_len2 (f : FileL) : (fileB f).length = 13 + f.1.length + f.2.2.length := by simp [fileB, lowB_len]; omega
theorem files_back : ∀ (l : List FileL) (fs : List FileL) (n : Nat), (∀ f ∈ l, FileIn f) → (bytesL l).length ≤ n → filesP n (true, bytesL l) fs = ((true, []), fs ++ l)
  | [], fs, n, _, _ => by cases n <;> simp [filesP, bytesL]
  | f :: l, fs, n, h, hn => by
    have e : bytesL (f :: l) = fileB f ++ bytesL l := rfl
    have hl := fileB_len2 f
    rw [e, List.length_append] at hn
    obtain ⟨m, rfl⟩ : ∃ m, n = m + 1 := ⟨n - 1, by omega⟩
    obtain ⟨a1, a2, a3, a4⟩ := rf_fileB (h f (List.mem_cons_self ..)) (bytesL l)
    have hpos : 0 < (fileB f ++ bytesL l).length := by rw [List.length_append]; omega
    rw [e, filesP, if_pos ⟨rfl, hpos⟩]
    rcases step_all hpos with ⟨b1, b2, b3, b4⟩ | ⟨b1, b2⟩
    · rw [b3, b4, a1, a2, a3, Int.toNat_natCast, a4, files_back l _ m (fun g hg => h g (List.mem_cons_of_mem _ hg)) (by omega)]
      simp
    · exfalso
      apply b1
      rw [a1, a2, List.length_append]
      omega
theorem filesEnd_back {l : List FileL} (h : FilesIn l) : filesEnd (bytesL l) = ((true, []), l) :=
  files_back l [] (bytesL l).length h.2 (Nat.le_refl _)

/-! ### records -/
def recs (n : Int) (l : List FileL) : List (List UInt8) := (List.range (nP (bytesL l))).map (recB n (nP (bytesL l)) (bytesL l))
theorem recs_len (n : Int) (l : List FileL) : (recs n l).length = nP (bytesL l) := by simp [recs]
theorem recs_get {n : Int} {l : List FileL} {i : Nat} (h : i < nP (bytesL l)) (more : List (List UInt8)) : (recs n l ++ more).getD i [] = recB n (nP (bytesL l)) (bytesL l) i := by
  rw [List.getD_eq_getElem?_getD, List.getElem?_append_left (by rw [recs_len]; exact h)]
  simp [recs, List.getElem?_map, List.getElem?_range h]
theorem nP_pos (B : List UInt8) : 1 ≤ nP B := by unfold nP; split <;> omega
theorem rec_parts (n : Int) (N : Nat) (B : List UInt8) (j : Nat) : (recB n N B j).take 8 = lowB n 8 ∧ ((recB n N B j).drop 8).take 2 = lowB (j : Int) 2 ∧ ((recB n N B j).drop 10).take 2 = lowB (N : Int) 2 ∧ (recB n N B j).drop 12 = chunkAt 4000 B j ∧ (recB n N B j).length = 12 + (chunkAt 4000 B j).length := by
  have d8 : (recB n N B j).drop 8 = lowB (j : Int) 2 ++ (lowB (N : Int) 2 ++ chunkAt 4000 B j) := drop_app (lowB_len _ _)
  have d10 : (recB n N B j).drop 10 = lowB (N : Int) 2 ++ chunkAt 4000 B j := by
    rw [show (10 : Nat) = 8 + 2 from rfl, ← List.drop_drop, d8]; exact drop_app (lowB_len _ _)
  have d12 : (recB n N B j).drop 12 = chunkAt 4000 B j := by
    rw [show (12 : Nat) = 10 + 2 from rfl, ← List.drop_drop, d10]; exact drop_app (lowB_len _ _)
  refine ⟨take_app (lowB_len _ _), ?_, ?_, d12, ?_⟩
  · rw [d8]; exact take_app (lowB_len _ _)
  · rw [d10]; exact take_app (lowB_len _ _)
  · simp [recB, lowB_len]; omega
theorem chunk_len2 {B : List UInt8} {j : Nat} (h : j < nP B) : (chunkAt 4000 B j).length = 4000 ∧ j + 1 < nP B ∨ j + 1 = nP B ∧ (chunkAt 4000 B j).length ≤ 4000 ∧ (0 < (chunkAt 4000 B j).length ∨ nP B = 1) ∨ (chunkAt 4000 B j).length = 4000 ∧ j + 1 = nP B := by
  have e : (chunkAt 4000 B j).length = min 4000 (B.length - 4000 * j) := by simp [chunkAt]
  rw [e]
  unfold nP at h ⊢
  unfold nChunks at h ⊢
  split at h <;> rename_i h0
  · rw [if_pos h0]; omega
  · rw [if_neg h0]; omega
theorem fit_rec {n : Int} {l : List FileL} (h : rightL n l = true) {more : List (List UInt8)} {i : Nat} (hi : i < nP (bytesL l)) : dFit (recs n l ++ more) i = true ∧ dN (recs n l ++ more) = nP (bytesL l) ∧ dM (recs n l ++ more) = n ∧ 12 ≤ (dF (recs n l ++ more)).length := by
  obtain ⟨h0, h1, hF⟩ := rightL_in h
  have hN := nChunks_le (bytesL_len hF)
  have hN2 : nP (bytesL l) ≤ 16789 := by unfold nP; split <;> omega
  have p2 : (256 : Int) ^ 2 = 65536 := by decide
  have p8 : (256 : Int) ^ 8 = 18446744073709551616 := by decide
  have hF0 : dF (recs n l ++ more) = recB n (nP (bytesL l)) (bytesL l) 0 := recs_get (by have := nP_pos (bytesL l); omega) more
  obtain ⟨a1, a2, a3, a4, a5⟩ := rec_parts n (nP (bytesL l)) (bytesL l) 0
  obtain ⟨b1, b2, b3, b4, b5⟩ := rec_parts n (nP (bytesL l)) (bytesL l) i
  have eN : dN (recs n l ++ more) = nP (bytesL l) := by
    unfold dN
    rw [hF0, a3]
    exact numI_lowB (by omega) (by omega) (by omega)
  have eM : dM (recs n l ++ more) = n := by
    unfold dM
    rw [hF0, a1]
    exact numI_lowB h0 (by omega) (by omega)
  refine ⟨?_, eN, eM, by rw [hF0, a5]; omega⟩
  unfold dFit
  rw [recs_get hi, eN, hF0]
  have q1 := numU_lowB' (k := 2) (v := (i : Int)) (by omega) (by omega)
  have q2 := numU_lowB' (k := 2) (v := ((nP (bytesL l) : Nat) : Int)) (by omega) (by omega)
  have hc := chunk_len2 hi
  simp only [hdB, szB, a1, b1, b2, b3, b5, q1, q2, Bool.and_eq_true, Bool.not_eq_true', Bool.or_eq_false_iff, Bool.or_eq_true, decide_eq_true_eq, decide_eq_false_iff_not, Bool.not_eq_false']
  refine ⟨⟨⟨⟨by omega, trivial⟩, trivial⟩, trivial⟩, ?_⟩
  omega
theorem body_rec {n : Int} {l : List FileL} {more : List (List UInt8)} : ∀ i, i ≤ nP (bytesL l) → dBody (recs n l ++ more) i = (bytesL l).take (4000 * i)
  | 0, _ => by simp [dBody]
  | i + 1, h => by
    rw [dBody_succ (by rw [List.length_append, recs_len]; omega), body_rec i (by omega), recs_get (by omega), (rec_parts n _ _ i).2.2.2.1, Nat.mul_add, Nat.mul_one, List.take_add]
    rfl
theorem head_no {n : Int} {l : List FileL} (h : rightL n l = true) (more : List (List UInt8)) : dHead (recs n l ++ more) = false := by
  obtain ⟨h0, h1, hF⟩ := rightL_in h
  have hp := nP_pos (bytesL l)
  obtain ⟨_, eN, eM, _⟩ := fit_rec h (more := more) (i := 0) (by omega)
  simp only [dHead, eN, eM, Bool.or_eq_false_iff, decide_eq_false_iff_not]
  omega
theorem dec_back {n : Int} {l : List FileL} (h : rightL n l = true) (more : List (List UInt8)) : dErr (recs n l ++ more) = 0 ∧ dN (recs n l ++ more) = nP (bytesL l) ∧ dM (recs n l ++ more) = n ∧ (dEnd (recs n l ++ more)).2 = l := by
  obtain ⟨h0, h1, hF⟩ := rightL_in h
  have hp := nP_pos (bytesL l)
  obtain ⟨_, eN, eM, e12⟩ := fit_rec h (more := more) (i := 0) (by omega)
  have hc : dCnt (recs n l ++ more) = nP (bytesL l) := by
    unfold dCnt
    rw [eN, List.length_append, recs_len]
    omega
  have hB : dBody (recs n l ++ more) (nP (bytesL l)) = bytesL l := by
    rw [body_rec _ (Nat.le_refl _), List.take_of_length_le]
    unfold nP nChunks
    split <;> omega
  have hE : dEnd (recs n l ++ more) = ((true, []), l) := by
    unfold dEnd
    rw [hc, hB, filesEnd_back hF]
  refine ⟨?_, eN, eM, by rw [hE]⟩
  rw [dErr, if_neg (by rw [List.length_append, recs_len]; omega), if_neg (by omega), if_neg (by rw [head_no h]; decide), if_pos ?_, if_neg ?_, if_pos ?_]
  · rw [hE, eM, h]; rfl
  · rw [eN, List.length_append, recs_len]; omega
  · rw [hc, List.all_eq_true]
    intro i hi
    exact (fit_rec h (by simpa using hi)).1
theorem dec_short {n : Int} {l : List FileL} (h : rightL n l = true) {i : Nat} (hi : i < nP (bytesL l)) : dErr ((recs n l).take i) = 42 := by
  by_cases h0 : i = 0
  · subst h0; exact dErr_nil rfl
  have hp := nP_pos (bytesL l)
  have hlen : ((recs n l).take i).length = i := by rw [List.length_take, recs_len]; omega
  have eF : dF ((recs n l).take i) = dF (recs n l ++ []) := by
    unfold dF
    rw [getD_takeL (by omega), List.append_nil]
  obtain ⟨_, eN, eM, e12⟩ := fit_rec h (more := []) (i := 0) (by omega)
  have eN2 : dN ((recs n l).take i) = nP (bytesL l) := by unfold dN at eN ⊢; rw [eF]; exact eN
  have eM2 : dM ((recs n l).take i) = n := by unfold dM at eM ⊢; rw [eF]; exact eM
  have hd : dHead ((recs n l).take i) = false := by
    have := head_no h []
    unfold dHead at this ⊢
    rw [eN2, eM2]; rw [eN, eM] at this; exact this
  have hc : dCnt ((recs n l).take i) = i := by unfold dCnt; rw [eN2, hlen]; omega
  rw [dErr, if_neg (by omega), if_neg (by rw [eF]; omega), if_neg (by rw [hd]; decide), if_pos ?_, if_pos ?_]
  · rw [eN2, hlen]; omega
  · rw [hc, List.all_eq_true]
    intro j hj
    have hj : j < i := by simpa using hj
    have := (fit_rec h (more := []) (i := j) (by omega)).1
    unfold dFit at this ⊢
    rw [getD_takeL hj, eF, eN2]
    rw [eN, List.append_nil] at this
    rw [List.append_nil]
    exact this
theorem all_back {n : Int} {l : List FileL} (h : rightL n l = true) (more : List (List UInt8)) : allL (recs n l ++ more) = (n, l) :: allL more := by
  obtain ⟨e1, e2, e3, e4⟩ := dec_back h more
  rw [allL_step e1, e2, e3, e4, Int.toNat_natCast, drop_app (recs_len n l)]
theorem all_short {n : Int} {l : List FileL} (h : rightL n l = true) {i : Nat} (hi : i < nP (bytesL l)) : allL ((recs n l).take i) = [] :=
  allL_stop (by rw [dec_short h hi]; decide)
end Go.Proofs.Hg

set_option linter.unusedSimpArgs false
set_option linter.unusedVariables false
set_option maxHeartbeats 4000000
namespace Go.Proofs.Hg
open Go.RowKit
set_option maxRecDepth 100000
theorem enR_ok2 {n : Int} {l : List FileL} (h : rightL n l = true) : enR n l = recR n (nP (bytesL l)) (bytesL l) (nP (bytesL l)) ∧ enE n l = 0 ∧ enZ n l = none ∧ enW n l = 1 := by
  unfold enR enE enZ enW
  simp [h]
theorem enE_no {n : Int} {l : List FileL} (h : ¬ enE n l = 0) : enR n l = [] := by
  unfold enE at h
  unfold enR
  split
  · rename_i hr; rw [if_pos hr] at h; exact absurd rfl h
  · rfl
theorem enE_right {n : Int} {l : List FileL} (h : enE n l = 0) : rightL n l = true := by
  unfold enE at h
  split at h
  · assumption
  · cases h
theorem rows_recs (n : Int) (l : List FileL) : rowsB (recR n (nP (bytesL l)) (bytesL l) (nP (bytesL l))) = recs n l := by
  simp [rowsB, recR, recs, rowB1]
theorem rowsB_app (a b : List (List D)) : rowsB (a ++ b) = rowsB a ++ rowsB b := by simp [rowsB]
theorem rowsB_take (es : List (List D)) (a : Nat) : rowsB (es.take a) = (rowsB es).take a := by simp [rowsB]
theorem recR_short {n : Int} {N : Nat} {B : List UInt8} {i : Nat} : ∀ r ∈ recR n N B i, (rowB1 r).length ≤ 5000 := by
  intro r hr
  obtain ⟨j, _, rfl⟩ := List.mem_map.1 hr
  simp only [rowB1, unb_brow]
  have := (rec_parts n N B j).2.2.2.2
  have := chunk_len B j
  omega
theorem bytes_le {l : List FileL} {k : Nat} (h : ∀ f ∈ l, (fileB f).length ≤ k) : (bytesL l).length ≤ k * l.length := by
  induction l with
  | nil => simp [bytesL]
  | cons f l ih =>
    have h1 := h f (List.mem_cons_self ..)
    have h2 := ih fun x hx => h x (List.mem_cons_of_mem _ hx)
    show (fileB f ++ bytesL l).length ≤ _
    rw [List.length_append, List.length_cons, Nat.mul_add]
    omega
theorem big_n {bl : List BigL} {n : Int} (hk : bigOk bl = true) (hr : rightL n (bigs bl) = true) : nP (bytesL (bigs bl)) ≤ 41 := by
  have h8 := good_le hk
  have hF := (rightL_in hr).2.2
  have hb : ∀ f ∈ bigs bl, (fileB f).length ≤ 20105 := by
    intro f hf
    have h1 := (hF.2 f hf).1
    rw [fileB_len2]
    obtain ⟨b, hb, rfl⟩ := List.mem_map.1 hf
    obtain ⟨i, hi, rfl⟩ := List.mem_iff_getElem.1 hb
    have hg := List.all_eq_true.1 hk i (by simpa using hi)
    have h2 : badB bl i = false := by simpa using hg
    simp only [badB, Bool.or_eq_false_iff, decide_eq_false_iff_not, getD_lt hi] at h2
    have h3 : (bigF bl[i]).2.2.length ≤ 20060 := grow_len _ (by omega) _ _ (by simp)
    omega
  have := bytes_le hb
  rw [bigs_len] at this
  unfold nP nChunks
  split <;> omega
theorem recs_ok {bl : List BigL} {n : Int} (hk : bigOk bl = true) (hr : rightL n (bigs bl) = true) {es : List (List D)} (h : RowsOk es) (h1 : es.length ≤ 12) (h2 : ∀ r ∈ es, (rowB1 r).length ≤ 5000) : RecsOk (enR n (bigs bl) ++ es) := by
  have hb := big_n hk hr
  rw [(enR_ok2 hr).1]
  refine ⟨fun r hx => ?_, by rw [List.length_append, recR_len]; omega, fun r hx => ?_⟩
  · rcases List.mem_append.1 hx with hx | hx
    · exact recR_ok _ _ _ _ r hx
    · exact h r hx
  · rcases List.mem_append.1 hx with hx | hx
    · exact recR_short r hx
    · exact h2 r hx
theorem recs_take {bl : List BigL} {n : Int} (hk : bigOk bl = true) (hr : rightL n (bigs bl) = true) (i : Nat) : RecsOk ((enR n (bigs bl)).take i) := by
  have h := recs_ok (es := []) hk hr (fun r hx => by simp at hx) (by simp) (by simp)
  rw [List.append_nil] at h
  exact ⟨fun r hx => h.1 r (List.mem_of_mem_take hx), by rw [List.length_take]; have := h.2.1; omega, fun r hx => h.2.2 r (List.mem_of_mem_take hx)⟩
def backF : List AV → Option (AVal × Prop)
  | [.s (.d (.int .i64 n)), .s (.d (.slice z e es)), .s (.d (.slice z2 e2 fs))] => some (.one (dv (.bool true)), e = 4 ∧ es = bgrow (unbg es) ∧ e2 = 1 ∧ RowsOk fs)
  | _ => none
def kn5 : List (Nat × Cont) := [(8, pureK filesF), (9, pureK aliveF), (10, pureK encF), (13, pureK fewF), (14, viewK decF), (16, pureK allF), (19, pureK same7F)]
theorem kn5_ok : ∀ p ∈ kn5, ContOk Try.prog p.1 p.2 := by
  intro p hp
  simp only [kn5, List.mem_cons, List.not_mem_nil, or_false] at hp
  rcases hp with rfl | rfl | rfl | rfl | rfl | rfl | rfl
  · exact filesF_ok
  · exact aliveF_ok
  · exact encF_ok
  · exact fewF_ok
  · exact viewK_ok decF_ok
  · exact allF_ok
  · exact same7F_ok
theorem backF_ok : ContOk Try.prog 5 (pureK backF) := by
  refine pure_ok (nargs := 3) Try.func5 rfl (by kernel_rfl) (Nat.le_of_ble_eq_true (by kernel_rfl)) ?_
  intro args q hq hob
  unfold backF at hq
  split at hq
  · rename_i n z e es z2 e2 fs
    injection hq with hq
    subst hq
    obtain ⟨h1, h2, h3, h4⟩ : e = 4 ∧ es = bgrow (unbg es) ∧ e2 = 1 ∧ RowsOk fs := hob
    generalize unbg es = bl at *
    subst h1 h2 h3
    refine ⟨rfl, by simp [AV.ids, Sc.ids], by simp [AVal.ids, AV.ids, Sc.ids], by simp, ?_⟩
    refine AWp.seq ?_
    refine AWp.reg (S1 := ?S1) (ob := ?o1) (S' := ?K1) tab_ok (knowL_ok kn5_ok) mixed [0, 1, 2] ?r1 ?h1 ?k1 ?w1
    case r1 => simp only [go_sem, kn5, filesF, aliveF, encF, fewF, decF, allF, same7F, bigV_tup, encV_tup, decV_tup, unf_fdrow, unbg_bgrow, cmrow_len, Try.ntmps5, reduceIte, reduceCtorEq, Nat.reduceAdd, Nat.reduceEqDiff, Nat.reduceLT, Nat.reduceLeDiff, Nat.reduceSub, Nat.reduceMul, Nat.reduceBEq, Int.reduceToNat, Int.reduceLE, Int.reduceLT, Int.reducePow]; rfl
    case h1 => first | exact True.intro | omega | (simp only [go_sem, kn5, filesF, aliveF, encF, fewF, decF, allF, same7F, bigV_tup, encV_tup, decV_tup, unf_fdrow, unbg_bgrow, cmrow_len, Try.ntmps5, reduceIte, reduceCtorEq, Nat.reduceAdd, Nat.reduceEqDiff, Nat.reduceLT, Nat.reduceLeDiff, Nat.reduceSub, Nat.reduceMul, Nat.reduceBEq, Int.reduceToNat, Int.reduceLE, Int.reduceLT, Int.reducePow]; done) | (simp only [go_sem, kn5, filesF, aliveF, encF, fewF, decF, allF, same7F, bigV_tup, encV_tup, decV_tup, unf_fdrow, unbg_bgrow, cmrow_len, Try.ntmps5, reduceIte, reduceCtorEq, Nat.reduceAdd, Nat.reduceEqDiff, Nat.reduceLT, Nat.reduceLeDiff, Nat.reduceSub, Nat.reduceMul, Nat.reduceBEq, Int.reduceToNat, Int.reduceLE, Int.reduceLT, Int.reducePow]; omega)
    case k1 => simp only [go_sem, kn5, filesF, aliveF, encF, fewF, decF, allF, same7F, bigV_tup, encV_tup, decV_tup, unf_fdrow, unbg_bgrow, cmrow_len, Try.ntmps5, reduceIte, reduceCtorEq, Nat.reduceAdd, Nat.reduceEqDiff, Nat.reduceLT, Nat.reduceLeDiff, Nat.reduceSub, Nat.reduceMul, Nat.reduceBEq, Int.reduceToNat, Int.reduceLE, Int.reduceLT, Int.reducePow]; rfl
    refine AWp.seq ?_
    refine AWp.reg (S1 := ?S2) (ob := ?o2) (S' := ?K2) tab_ok (knowL_ok kn5_ok) mixed [0, 2, 7, 8] ?r2 ?h2 ?k2 ?w2
    case r2 => simp only [go_sem, kn5, filesF, aliveF, encF, fewF, decF, allF, same7F, bigV_tup, encV_tup, decV_tup, unf_fdrow, unbg_bgrow, cmrow_len, Try.ntmps5, reduceIte, reduceCtorEq, Nat.reduceAdd, Nat.reduceEqDiff, Nat.reduceLT, Nat.reduceLeDiff, Nat.reduceSub, Nat.reduceMul, Nat.reduceBEq, Int.reduceToNat, Int.reduceLE, Int.reduceLT, Int.reducePow]; rfl
    case h2 => first | exact True.intro | omega | (simp only [go_sem, kn5, filesF, aliveF, encF, fewF, decF, allF, same7F, bigV_tup, encV_tup, decV_tup, unf_fdrow, unbg_bgrow, cmrow_len, Try.ntmps5, reduceIte, reduceCtorEq, Nat.reduceAdd, Nat.reduceEqDiff, Nat.reduceLT, Nat.reduceLeDiff, Nat.reduceSub, Nat.reduceMul, Nat.reduceBEq, Int.reduceToNat, Int.reduceLE, Int.reduceLT, Int.reducePow]; done) | (simp only [go_sem, kn5, filesF, aliveF, encF, fewF, decF, allF, same7F, bigV_tup, encV_tup, decV_tup, unf_fdrow, unbg_bgrow, cmrow_len, Try.ntmps5, reduceIte, reduceCtorEq, Nat.reduceAdd, Nat.reduceEqDiff, Nat.reduceLT, Nat.reduceLeDiff, Nat.reduceSub, Nat.reduceMul, Nat.reduceBEq, Int.reduceToNat, Int.reduceLE, Int.reduceLT, Int.reducePow]; omega)
    case k2 => simp only [go_sem, kn5, filesF, aliveF, encF, fewF, decF, allF, same7F, bigV_tup, encV_tup, decV_tup, unf_fdrow, unbg_bgrow, cmrow_len, Try.ntmps5, reduceIte, reduceCtorEq, Nat.reduceAdd, Nat.reduceEqDiff, Nat.reduceLT, Nat.reduceLeDiff, Nat.reduceSub, Nat.reduceMul, Nat.reduceBEq, Int.reduceToNat, Int.reduceLE, Int.reduceLT, Int.reducePow]; rfl
    refine AWp.seq ?_
    refine AWp.reg (S1 := ?S3) (ob := ?o3) (S' := ?K3) tab_ok (knowL_ok kn5_ok) mixed [0, 2, 7, 8, 9] ?r3 ?h3 ?k3 ?w3
    case r3 => simp only [go_sem, kn5, filesF, aliveF, encF, fewF, decF, allF, same7F, bigV_tup, encV_tup, decV_tup, unf_fdrow, unbg_bgrow, cmrow_len, Try.ntmps5, reduceIte, reduceCtorEq, Nat.reduceAdd, Nat.reduceEqDiff, Nat.reduceLT, Nat.reduceLeDiff, Nat.reduceSub, Nat.reduceMul, Nat.reduceBEq, Int.reduceToNat, Int.reduceLE, Int.reduceLT, Int.reducePow]; rfl
    case h3 =>
      exact ⟨.inr trivial, h4⟩
    case k3 => simp only [go_sem, kn5, filesF, aliveF, encF, fewF, decF, allF, same7F, bigV_tup, encV_tup, decV_tup, unf_fdrow, unbg_bgrow, cmrow_len, Try.ntmps5, reduceIte, reduceCtorEq, Nat.reduceAdd, Nat.reduceEqDiff, Nat.reduceLT, Nat.reduceLeDiff, Nat.reduceSub, Nat.reduceMul, Nat.reduceBEq, Int.reduceToNat, Int.reduceLE, Int.reduceLT, Int.reducePow]; rfl
    refine AWp.seq ?_
    refine AWp.seq ?_
    refine AWp.reg (S1 := ?S4) (ob := ?o4) (S' := ?K4) tab_ok (knowL_ok kn5_ok) mixed [0, 2, 7, 32] ?r4 ?h4 ?k4 ?w4
    case r4 => simp only [go_sem, kn5, filesF, aliveF, encF, fewF, decF, allF, same7F, bigV_tup, encV_tup, decV_tup, unf_fdrow, unbg_bgrow, cmrow_len, Try.ntmps5, reduceIte, reduceCtorEq, Nat.reduceAdd, Nat.reduceEqDiff, Nat.reduceLT, Nat.reduceLeDiff, Nat.reduceSub, Nat.reduceMul, Nat.reduceBEq, Int.reduceToNat, Int.reduceLE, Int.reduceLT, Int.reducePow]; rfl
    case h4 => first | exact True.intro | omega | (simp only [go_sem, kn5, filesF, aliveF, encF, fewF, decF, allF, same7F, bigV_tup, encV_tup, decV_tup, unf_fdrow, unbg_bgrow, cmrow_len, Try.ntmps5, reduceIte, reduceCtorEq, Nat.reduceAdd, Nat.reduceEqDiff, Nat.reduceLT, Nat.reduceLeDiff, Nat.reduceSub, Nat.reduceMul, Nat.reduceBEq, Int.reduceToNat, Int.reduceLE, Int.reduceLT, Int.reducePow]; done) | (simp only [go_sem, kn5, filesF, aliveF, encF, fewF, decF, allF, same7F, bigV_tup, encV_tup, decV_tup, unf_fdrow, unbg_bgrow, cmrow_len, Try.ntmps5, reduceIte, reduceCtorEq, Nat.reduceAdd, Nat.reduceEqDiff, Nat.reduceLT, Nat.reduceLeDiff, Nat.reduceSub, Nat.reduceMul, Nat.reduceBEq, Int.reduceToNat, Int.reduceLE, Int.reduceLT, Int.reducePow]; omega)
    case k4 => simp only [go_sem, kn5, filesF, aliveF, encF, fewF, decF, allF, same7F, bigV_tup, encV_tup, decV_tup, unf_fdrow, unbg_bgrow, cmrow_len, Try.ntmps5, reduceIte, reduceCtorEq, Nat.reduceAdd, Nat.reduceEqDiff, Nat.reduceLT, Nat.reduceLeDiff, Nat.reduceSub, Nat.reduceMul, Nat.reduceBEq, Int.reduceToNat, Int.reduceLE, Int.reduceLT, Int.reducePow]; rfl
    refine AWp.cond (b := ?b5) ?c5 ?t5 ?f5
    case c5 => simp only [go_sem, kn5, filesF, aliveF, encF, fewF, decF, allF, same7F, bigV_tup, encV_tup, decV_tup, unf_fdrow, unbg_bgrow, cmrow_len, Try.ntmps5, reduceIte, reduceCtorEq, Nat.reduceAdd, Nat.reduceEqDiff, Nat.reduceLT, Nat.reduceLeDiff, Nat.reduceSub, Nat.reduceMul, Nat.reduceBEq, Int.reduceToNat, Int.reduceLE, Int.reduceLT, Int.reducePow]; rfl
    case t5 =>
      intro hb1
      refine AWp.seq ?_
      refine AWp.reg (S1 := ?S6) (ob := ?o6) (S' := ?K6) tab_ok (knowL_ok kn5_ok) mixed [6] ?r6 ?h6 ?k6 ?w6
      case r6 => simp only [go_sem, kn5, filesF, aliveF, encF, fewF, decF, allF, same7F, bigV_tup, encV_tup, decV_tup, unf_fdrow, unbg_bgrow, cmrow_len, Try.ntmps5, reduceIte, reduceCtorEq, Nat.reduceAdd, Nat.reduceEqDiff, Nat.reduceLT, Nat.reduceLeDiff, Nat.reduceSub, Nat.reduceMul, Nat.reduceBEq, Int.reduceToNat, Int.reduceLE, Int.reduceLT, Int.reducePow]; rfl
      case h6 => first | exact True.intro | omega | (simp only [go_sem, kn5, filesF, aliveF, encF, fewF, decF, allF, same7F, bigV_tup, encV_tup, decV_tup, unf_fdrow, unbg_bgrow, cmrow_len, Try.ntmps5, reduceIte, reduceCtorEq, Nat.reduceAdd, Nat.reduceEqDiff, Nat.reduceLT, Nat.reduceLeDiff, Nat.reduceSub, Nat.reduceMul, Nat.reduceBEq, Int.reduceToNat, Int.reduceLE, Int.reduceLT, Int.reducePow]; done) | (simp only [go_sem, kn5, filesF, aliveF, encF, fewF, decF, allF, same7F, bigV_tup, encV_tup, decV_tup, unf_fdrow, unbg_bgrow, cmrow_len, Try.ntmps5, reduceIte, reduceCtorEq, Nat.reduceAdd, Nat.reduceEqDiff, Nat.reduceLT, Nat.reduceLeDiff, Nat.reduceSub, Nat.reduceMul, Nat.reduceBEq, Int.reduceToNat, Int.reduceLE, Int.reduceLT, Int.reducePow]; omega)
      case k6 => simp only [go_sem, kn5, filesF, aliveF, encF, fewF, decF, allF, same7F, bigV_tup, encV_tup, decV_tup, unf_fdrow, unbg_bgrow, cmrow_len, Try.ntmps5, reduceIte, reduceCtorEq, Nat.reduceAdd, Nat.reduceEqDiff, Nat.reduceLT, Nat.reduceLeDiff, Nat.reduceSub, Nat.reduceMul, Nat.reduceBEq, Int.reduceToNat, Int.reduceLE, Int.reduceLT, Int.reducePow]; rfl
      refine AWp.ret ?_
      refine ends_p (vs := ?vs1) (ob := ?ro1) (vs' := ?ws1) (ks := ?ks1) (ob2 := ?rp1) tab_ok (by simp) ?er1 ?eo1 ?ef1 ?eg1 ?en1 ?ek1 ?ev1
      case er1 => simp only [go_sem, kn5, filesF, aliveF, encF, fewF, decF, allF, same7F, bigV_tup, encV_tup, decV_tup, unf_fdrow, unbg_bgrow, cmrow_len, Try.ntmps5, reduceIte, reduceCtorEq, Nat.reduceAdd, Nat.reduceEqDiff, Nat.reduceLT, Nat.reduceLeDiff, Nat.reduceSub, Nat.reduceMul, Nat.reduceBEq, Int.reduceToNat, Int.reduceLE, Int.reduceLT, Int.reducePow, Try.results5]; rfl
      case eo1 => first | exact True.intro | simp only [go_sem, kn5, filesF, aliveF, encF, fewF, decF, allF, same7F, bigV_tup, encV_tup, decV_tup, unf_fdrow, unbg_bgrow, cmrow_len, Try.ntmps5, reduceIte, reduceCtorEq, Nat.reduceAdd, Nat.reduceEqDiff, Nat.reduceLT, Nat.reduceLeDiff, Nat.reduceSub, Nat.reduceMul, Nat.reduceBEq, Int.reduceToNat, Int.reduceLE, Int.reduceLT, Int.reducePow]
      case ef1 => simp only [go_sem, kn5, filesF, aliveF, encF, fewF, decF, allF, same7F, bigV_tup, encV_tup, decV_tup, unf_fdrow, unbg_bgrow, cmrow_len, Try.ntmps5, reduceIte, reduceCtorEq, Nat.reduceAdd, Nat.reduceEqDiff, Nat.reduceLT, Nat.reduceLeDiff, Nat.reduceSub, Nat.reduceMul, Nat.reduceBEq, Int.reduceToNat, Int.reduceLE, Int.reduceLT, Int.reducePow]; rfl
      case eg1 => first | exact True.intro | simp only [go_sem, kn5, filesF, aliveF, encF, fewF, decF, allF, same7F, bigV_tup, encV_tup, decV_tup, unf_fdrow, unbg_bgrow, cmrow_len, Try.ntmps5, reduceIte, reduceCtorEq, Nat.reduceAdd, Nat.reduceEqDiff, Nat.reduceLT, Nat.reduceLeDiff, Nat.reduceSub, Nat.reduceMul, Nat.reduceBEq, Int.reduceToNat, Int.reduceLE, Int.reduceLT, Int.reducePow]
      case en1 => simp only [go_sem, kn5, filesF, aliveF, encF, fewF, decF, allF, same7F, bigV_tup, encV_tup, decV_tup, unf_fdrow, unbg_bgrow, cmrow_len, Try.ntmps5, reduceIte, reduceCtorEq, Nat.reduceAdd, Nat.reduceEqDiff, Nat.reduceLT, Nat.reduceLeDiff, Nat.reduceSub, Nat.reduceMul, Nat.reduceBEq, Int.reduceToNat, Int.reduceLE, Int.reduceLT, Int.reducePow]
      case ek1 => simp only [go_sem, kn5, filesF, aliveF, encF, fewF, decF, allF, same7F, bigV_tup, encV_tup, decV_tup, unf_fdrow, unbg_bgrow, cmrow_len, Try.ntmps5, reduceIte, reduceCtorEq, Nat.reduceAdd, Nat.reduceEqDiff, Nat.reduceLT, Nat.reduceLeDiff, Nat.reduceSub, Nat.reduceMul, Nat.reduceBEq, Int.reduceToNat, Int.reduceLE, Int.reduceLT, Int.reducePow]
      case ev1 =>
        first | rfl | simp only [go_sem, kn5, filesF, aliveF, encF, fewF, decF, allF, same7F, bigV_tup, encV_tup, decV_tup, unf_fdrow, unbg_bgrow, cmrow_len, Try.ntmps5, reduceIte, reduceCtorEq, Nat.reduceAdd, Nat.reduceEqDiff, Nat.reduceLT, Nat.reduceLeDiff, Nat.reduceSub, Nat.reduceMul, Nat.reduceBEq, Int.reduceToNat, Int.reduceLE, Int.reduceLT, Int.reducePow]
    case f5 =>
      intro hb1
      simp only [Bool.or_eq_false_iff, Bool.not_eq_false'] at hb1
      have hk : bigOk bl = true := hb1.1
      have hR : bgR bl = bigs bl := by rw [bgR, if_pos hk]
      have hW : bgW bl = 3 := by rw [bgW, if_pos hk]
      have hO := bigs_ok hk
      obtain ⟨f1, f2⟩ := few_rows hb1.2
      refine AWp.skip ?_
      refine AWp.seq ?_
      refine AWp.reg (S1 := ?S7) (ob := ?o7) (S' := ?K7) tab_ok (knowL_ok kn5_ok) mixed [0, 2, 7, 10, 11] ?r7 ?h7 ?k7 ?w7
      case r7 => simp only [go_sem, kn5, filesF, aliveF, encF, fewF, decF, allF, same7F, bigV_tup, encV_tup, decV_tup, unf_fdrow, unbg_bgrow, cmrow_len, Try.ntmps5, reduceIte, reduceCtorEq, Nat.reduceAdd, Nat.reduceEqDiff, Nat.reduceLT, Nat.reduceLeDiff, Nat.reduceSub, Nat.reduceMul, Nat.reduceBEq, Int.reduceToNat, Int.reduceLE, Int.reduceLT, Int.reducePow]; rfl
      case h7 =>
        exact ⟨hW, by rw [hR]; exact hO⟩
      case k7 => simp only [go_sem, kn5, filesF, aliveF, encF, fewF, decF, allF, same7F, bigV_tup, encV_tup, decV_tup, unf_fdrow, unbg_bgrow, cmrow_len, Try.ntmps5, reduceIte, reduceCtorEq, Nat.reduceAdd, Nat.reduceEqDiff, Nat.reduceLT, Nat.reduceLeDiff, Nat.reduceSub, Nat.reduceMul, Nat.reduceBEq, Int.reduceToNat, Int.reduceLE, Int.reduceLT, Int.reducePow]; rfl
      refine AWp.seq ?_
      refine AWp.seq ?_
      refine AWp.reg (S1 := ?S8) (ob := ?o8) (S' := ?K8) tab_ok (knowL_ok kn5_ok) mixed [0, 2, 7, 10, 42] ?r8 ?h8 ?k8 ?w8
      case r8 => simp only [go_sem, kn5, filesF, aliveF, encF, fewF, decF, allF, same7F, bigV_tup, encV_tup, decV_tup, unf_fdrow, unbg_bgrow, cmrow_len, Try.ntmps5, reduceIte, reduceCtorEq, Nat.reduceAdd, Nat.reduceEqDiff, Nat.reduceLT, Nat.reduceLeDiff, Nat.reduceSub, Nat.reduceMul, Nat.reduceBEq, Int.reduceToNat, Int.reduceLE, Int.reduceLT, Int.reducePow]; rfl
      case h8 => first | exact True.intro | omega | (simp only [go_sem, kn5, filesF, aliveF, encF, fewF, decF, allF, same7F, bigV_tup, encV_tup, decV_tup, unf_fdrow, unbg_bgrow, cmrow_len, Try.ntmps5, reduceIte, reduceCtorEq, Nat.reduceAdd, Nat.reduceEqDiff, Nat.reduceLT, Nat.reduceLeDiff, Nat.reduceSub, Nat.reduceMul, Nat.reduceBEq, Int.reduceToNat, Int.reduceLE, Int.reduceLT, Int.reducePow]; done) | (simp only [go_sem, kn5, filesF, aliveF, encF, fewF, decF, allF, same7F, bigV_tup, encV_tup, decV_tup, unf_fdrow, unbg_bgrow, cmrow_len, Try.ntmps5, reduceIte, reduceCtorEq, Nat.reduceAdd, Nat.reduceEqDiff, Nat.reduceLT, Nat.reduceLeDiff, Nat.reduceSub, Nat.reduceMul, Nat.reduceBEq, Int.reduceToNat, Int.reduceLE, Int.reduceLT, Int.reducePow]; omega)
      case k8 => simp only [go_sem, kn5, filesF, aliveF, encF, fewF, decF, allF, same7F, bigV_tup, encV_tup, decV_tup, unf_fdrow, unbg_bgrow, cmrow_len, Try.ntmps5, reduceIte, reduceCtorEq, Nat.reduceAdd, Nat.reduceEqDiff, Nat.reduceLT, Nat.reduceLeDiff, Nat.reduceSub, Nat.reduceMul, Nat.reduceBEq, Int.reduceToNat, Int.reduceLE, Int.reduceLT, Int.reducePow]; rfl
      refine AWp.cond (b := ?b9) ?c9 ?t9 ?f9
      case c9 => simp only [go_sem, kn5, filesF, aliveF, encF, fewF, decF, allF, same7F, bigV_tup, encV_tup, decV_tup, unf_fdrow, unbg_bgrow, cmrow_len, Try.ntmps5, reduceIte, reduceCtorEq, Nat.reduceAdd, Nat.reduceEqDiff, Nat.reduceLT, Nat.reduceLeDiff, Nat.reduceSub, Nat.reduceMul, Nat.reduceBEq, Int.reduceToNat, Int.reduceLE, Int.reduceLT, Int.reducePow]; rfl
      case t9 =>
        intro hb2
        have hne := enE_no (n := n) (l := bigs bl) (by simpa [hR] using hb2)
        refine AWp.seq ?_
        refine AWp.reg (S1 := ?S10) (ob := ?o10) (S' := ?K10) tab_ok (knowL_ok kn5_ok) mixed [6] ?r10 ?h10 ?k10 ?w10
        case r10 => simp only [go_sem, kn5, filesF, aliveF, encF, fewF, decF, allF, same7F, bigV_tup, encV_tup, decV_tup, unf_fdrow, unbg_bgrow, cmrow_len, Try.ntmps5, reduceIte, reduceCtorEq, Nat.reduceAdd, Nat.reduceEqDiff, Nat.reduceLT, Nat.reduceLeDiff, Nat.reduceSub, Nat.reduceMul, Nat.reduceBEq, Int.reduceToNat, Int.reduceLE, Int.reduceLT, Int.reducePow]; rfl
        case h10 => first | exact True.intro | omega | (simp only [go_sem, kn5, filesF, aliveF, encF, fewF, decF, allF, same7F, bigV_tup, encV_tup, decV_tup, unf_fdrow, unbg_bgrow, cmrow_len, Try.ntmps5, reduceIte, reduceCtorEq, Nat.reduceAdd, Nat.reduceEqDiff, Nat.reduceLT, Nat.reduceLeDiff, Nat.reduceSub, Nat.reduceMul, Nat.reduceBEq, Int.reduceToNat, Int.reduceLE, Int.reduceLT, Int.reducePow]; done) | (simp only [go_sem, kn5, filesF, aliveF, encF, fewF, decF, allF, same7F, bigV_tup, encV_tup, decV_tup, unf_fdrow, unbg_bgrow, cmrow_len, Try.ntmps5, reduceIte, reduceCtorEq, Nat.reduceAdd, Nat.reduceEqDiff, Nat.reduceLT, Nat.reduceLeDiff, Nat.reduceSub, Nat.reduceMul, Nat.reduceBEq, Int.reduceToNat, Int.reduceLE, Int.reduceLT, Int.reducePow]; omega)
        case k10 => simp only [go_sem, kn5, filesF, aliveF, encF, fewF, decF, allF, same7F, bigV_tup, encV_tup, decV_tup, unf_fdrow, unbg_bgrow, cmrow_len, Try.ntmps5, reduceIte, reduceCtorEq, Nat.reduceAdd, Nat.reduceEqDiff, Nat.reduceLT, Nat.reduceLeDiff, Nat.reduceSub, Nat.reduceMul, Nat.reduceBEq, Int.reduceToNat, Int.reduceLE, Int.reduceLT, Int.reducePow]; rfl
        refine AWp.ret ?_
        refine ends_p (vs := ?vs2) (ob := ?ro2) (vs' := ?ws2) (ks := ?ks2) (ob2 := ?rp2) tab_ok (by simp) ?er2 ?eo2 ?ef2 ?eg2 ?en2 ?ek2 ?ev2
        case er2 => simp only [go_sem, kn5, filesF, aliveF, encF, fewF, decF, allF, same7F, bigV_tup, encV_tup, decV_tup, unf_fdrow, unbg_bgrow, cmrow_len, Try.ntmps5, reduceIte, reduceCtorEq, Nat.reduceAdd, Nat.reduceEqDiff, Nat.reduceLT, Nat.reduceLeDiff, Nat.reduceSub, Nat.reduceMul, Nat.reduceBEq, Int.reduceToNat, Int.reduceLE, Int.reduceLT, Int.reducePow, Try.results5]; rfl
        case eo2 => first | exact True.intro | simp only [go_sem, kn5, filesF, aliveF, encF, fewF, decF, allF, same7F, bigV_tup, encV_tup, decV_tup, unf_fdrow, unbg_bgrow, cmrow_len, Try.ntmps5, reduceIte, reduceCtorEq, Nat.reduceAdd, Nat.reduceEqDiff, Nat.reduceLT, Nat.reduceLeDiff, Nat.reduceSub, Nat.reduceMul, Nat.reduceBEq, Int.reduceToNat, Int.reduceLE, Int.reduceLT, Int.reducePow]
        case ef2 => simp only [go_sem, kn5, filesF, aliveF, encF, fewF, decF, allF, same7F, bigV_tup, encV_tup, decV_tup, unf_fdrow, unbg_bgrow, cmrow_len, Try.ntmps5, reduceIte, reduceCtorEq, Nat.reduceAdd, Nat.reduceEqDiff, Nat.reduceLT, Nat.reduceLeDiff, Nat.reduceSub, Nat.reduceMul, Nat.reduceBEq, Int.reduceToNat, Int.reduceLE, Int.reduceLT, Int.reducePow]; rfl
        case eg2 => first | exact True.intro | simp only [go_sem, kn5, filesF, aliveF, encF, fewF, decF, allF, same7F, bigV_tup, encV_tup, decV_tup, unf_fdrow, unbg_bgrow, cmrow_len, Try.ntmps5, reduceIte, reduceCtorEq, Nat.reduceAdd, Nat.reduceEqDiff, Nat.reduceLT, Nat.reduceLeDiff, Nat.reduceSub, Nat.reduceMul, Nat.reduceBEq, Int.reduceToNat, Int.reduceLE, Int.reduceLT, Int.reducePow]
        case en2 => simp only [go_sem, kn5, filesF, aliveF, encF, fewF, decF, allF, same7F, bigV_tup, encV_tup, decV_tup, unf_fdrow, unbg_bgrow, cmrow_len, Try.ntmps5, reduceIte, reduceCtorEq, Nat.reduceAdd, Nat.reduceEqDiff, Nat.reduceLT, Nat.reduceLeDiff, Nat.reduceSub, Nat.reduceMul, Nat.reduceBEq, Int.reduceToNat, Int.reduceLE, Int.reduceLT, Int.reducePow]
        case ek2 => simp only [go_sem, kn5, filesF, aliveF, encF, fewF, decF, allF, same7F, bigV_tup, encV_tup, decV_tup, unf_fdrow, unbg_bgrow, cmrow_len, Try.ntmps5, reduceIte, reduceCtorEq, Nat.reduceAdd, Nat.reduceEqDiff, Nat.reduceLT, Nat.reduceLeDiff, Nat.reduceSub, Nat.reduceMul, Nat.reduceBEq, Int.reduceToNat, Int.reduceLE, Int.reduceLT, Int.reducePow]
        case ev2 =>
          rw [hR, hne]; rfl
      case f9 =>
        intro hb2
        have hr : rightL n (bigs bl) = true := enE_right (by simpa [hR] using hb2)
        obtain ⟨q1, q2, q3, q4⟩ := enR_ok2 hr
        have hD := recs_ok hk hr h4 f1 f2
        have hN := big_n hk hr
        have hrw : rowsB (enR n (bigs bl) ++ fs) = recs n (bigs bl) ++ rowsB fs := by rw [rowsB_app, q1, rows_recs]
        obtain ⟨d1, d2, d3, d4⟩ := dec_back hr (rowsB fs)
        have c1 : dcM (recs n (bigs bl) ++ rowsB fs) = n := by rw [dcM, if_pos d1, d3]
        have c2 : dcF (recs n (bigs bl) ++ rowsB fs) = bigs bl := by rw [dcF, if_pos d1, d4]
        have c3 : dcN (recs n (bigs bl) ++ rowsB fs) = ((nP (bytesL (bigs bl)) : Nat) : Int) := by rw [dcN, if_pos d1, d2]
        have hlR : (enR n (bigs bl)).length = nP (bytesL (bigs bl)) := by rw [q1, recR_len]
        have hall : rowsB (enR n (bigs bl)) = recs n (bigs bl) := by rw [q1, rows_recs]
        have hall2 : allL (recs n (bigs bl)) = [(n, bigs bl)] := by have := all_back hr []; rw [List.append_nil] at this; exact this
        have hDa : RecsOk (enR n (bigs bl)) := by have := recs_take hk hr (enR n (bigs bl)).length; rw [List.take_length] at this; exact this
        refine AWp.skip ?_
        refine AWp.seq ?_
        refine AWp.reg (S1 := ?S11) (ob := ?o11) (S' := ?K11) tab_ok (knowL_ok kn5_ok) mixed [0, 7, 10, 12, 13, 14] ?r11 ?h11 ?k11 ?w11
        case r11 => simp only [go_sem, kn5, filesF, aliveF, encF, fewF, decF, allF, same7F, bigV_tup, encV_tup, decV_tup, unf_fdrow, unbg_bgrow, cmrow_len, Try.ntmps5, reduceIte, reduceCtorEq, Nat.reduceAdd, Nat.reduceEqDiff, Nat.reduceLT, Nat.reduceLeDiff, Nat.reduceSub, Nat.reduceMul, Nat.reduceBEq, Int.reduceToNat, Int.reduceLE, Int.reduceLT, Int.reducePow, hR, hW, q3, q4, hrw, d1, c1, c2, c3, hlR]; rfl
        case h11 =>
          exact ⟨⟨by omega, by omega⟩, ⟨by omega, by omega⟩, .inr trivial, hD⟩
        case k11 => simp only [go_sem, kn5, filesF, aliveF, encF, fewF, decF, allF, same7F, bigV_tup, encV_tup, decV_tup, unf_fdrow, unbg_bgrow, cmrow_len, Try.ntmps5, reduceIte, reduceCtorEq, Nat.reduceAdd, Nat.reduceEqDiff, Nat.reduceLT, Nat.reduceLeDiff, Nat.reduceSub, Nat.reduceMul, Nat.reduceBEq, Int.reduceToNat, Int.reduceLE, Int.reduceLT, Int.reducePow]; rfl
        refine AWp.seq ?_
        refine AWp.reg (S1 := ?S12) (ob := ?o12) (S' := ?K12) tab_ok (knowL_ok kn5_ok) mixed [0, 10, 12, 13, 14, 15] ?r12 ?h12 ?k12 ?w12
        case r12 => simp only [go_sem, kn5, filesF, aliveF, encF, fewF, decF, allF, same7F, bigV_tup, encV_tup, decV_tup, unf_fdrow, unbg_bgrow, cmrow_len, Try.ntmps5, reduceIte, reduceCtorEq, Nat.reduceAdd, Nat.reduceEqDiff, Nat.reduceLT, Nat.reduceLeDiff, Nat.reduceSub, Nat.reduceMul, Nat.reduceBEq, Int.reduceToNat, Int.reduceLE, Int.reduceLT, Int.reducePow, hR, hW, q3, q4, hrw, d1, c1, c2, c3, hlR]; rfl
        case h12 =>
          exact ⟨.inr trivial, .inr trivial, by rw [fdrow_len]; have := hO.1; omega⟩
        case k12 => simp only [go_sem, kn5, filesF, aliveF, encF, fewF, decF, allF, same7F, bigV_tup, encV_tup, decV_tup, unf_fdrow, unbg_bgrow, cmrow_len, Try.ntmps5, reduceIte, reduceCtorEq, Nat.reduceAdd, Nat.reduceEqDiff, Nat.reduceLT, Nat.reduceLeDiff, Nat.reduceSub, Nat.reduceMul, Nat.reduceBEq, Int.reduceToNat, Int.reduceLE, Int.reduceLT, Int.reducePow]; rfl
        refine AWp.seq ?_
        refine AWp.seq ?_
        refine AWp.reg (S1 := ?S13) (ob := ?o13) (S' := ?K13) tab_ok (knowL_ok kn5_ok) mixed [10, 80] ?r13 ?h13 ?k13 ?w13
        case r13 => simp only [go_sem, kn5, filesF, aliveF, encF, fewF, decF, allF, same7F, bigV_tup, encV_tup, decV_tup, unf_fdrow, unbg_bgrow, cmrow_len, Try.ntmps5, reduceIte, reduceCtorEq, Nat.reduceAdd, Nat.reduceEqDiff, Nat.reduceLT, Nat.reduceLeDiff, Nat.reduceSub, Nat.reduceMul, Nat.reduceBEq, Int.reduceToNat, Int.reduceLE, Int.reduceLT, Int.reducePow, hR, hW, q3, q4, hrw, d1, c1, c2, c3, hlR]; rfl
        case h13 => first | exact True.intro | omega | (simp only [go_sem, kn5, filesF, aliveF, encF, fewF, decF, allF, same7F, bigV_tup, encV_tup, decV_tup, unf_fdrow, unbg_bgrow, cmrow_len, Try.ntmps5, reduceIte, reduceCtorEq, Nat.reduceAdd, Nat.reduceEqDiff, Nat.reduceLT, Nat.reduceLeDiff, Nat.reduceSub, Nat.reduceMul, Nat.reduceBEq, Int.reduceToNat, Int.reduceLE, Int.reduceLT, Int.reducePow]; done) | (simp only [go_sem, kn5, filesF, aliveF, encF, fewF, decF, allF, same7F, bigV_tup, encV_tup, decV_tup, unf_fdrow, unbg_bgrow, cmrow_len, Try.ntmps5, reduceIte, reduceCtorEq, Nat.reduceAdd, Nat.reduceEqDiff, Nat.reduceLT, Nat.reduceLeDiff, Nat.reduceSub, Nat.reduceMul, Nat.reduceBEq, Int.reduceToNat, Int.reduceLE, Int.reduceLT, Int.reducePow]; omega)
        case k13 => simp only [go_sem, kn5, filesF, aliveF, encF, fewF, decF, allF, same7F, bigV_tup, encV_tup, decV_tup, unf_fdrow, unbg_bgrow, cmrow_len, Try.ntmps5, reduceIte, reduceCtorEq, Nat.reduceAdd, Nat.reduceEqDiff, Nat.reduceLT, Nat.reduceLeDiff, Nat.reduceSub, Nat.reduceMul, Nat.reduceBEq, Int.reduceToNat, Int.reduceLE, Int.reduceLT, Int.reducePow]; rfl
        refine AWp.cond (b := ?b14) ?c14 ?t14 ?f14
        case c14 => simp only [go_sem, kn5, filesF, aliveF, encF, fewF, decF, allF, same7F, bigV_tup, encV_tup, decV_tup, unf_fdrow, unbg_bgrow, cmrow_len, Try.ntmps5, reduceIte, reduceCtorEq, Nat.reduceAdd, Nat.reduceEqDiff, Nat.reduceLT, Nat.reduceLeDiff, Nat.reduceSub, Nat.reduceMul, Nat.reduceBEq, Int.reduceToNat, Int.reduceLE, Int.reduceLT, Int.reducePow]; rfl
        case t14 =>
          intro hb3
          exfalso; simp at hb3
        case f14 =>
          intro hb3
          refine AWp.skip ?_
          refine AWp.seq ?_
          refine AWp.seq ?_
          refine AWp.reg (S1 := ?S15) (ob := ?o15) (S' := ?K15) tab_ok (knowL_ok kn5_ok) mixed [10, 16] ?r15 ?h15 ?k15 ?w15
          case r15 => simp only [go_sem, kn5, filesF, aliveF, encF, fewF, decF, allF, same7F, bigV_tup, encV_tup, decV_tup, unf_fdrow, unbg_bgrow, cmrow_len, Try.ntmps5, reduceIte, reduceCtorEq, Nat.reduceAdd, Nat.reduceEqDiff, Nat.reduceLT, Nat.reduceLeDiff, Nat.reduceSub, Nat.reduceMul, Nat.reduceBEq, Int.reduceToNat, Int.reduceLE, Int.reduceLT, Int.reducePow, hR, hW, q3, q4, hrw, d1, c1, c2, c3, hlR]; rfl
          case h15 => first | exact True.intro | omega | (simp only [go_sem, kn5, filesF, aliveF, encF, fewF, decF, allF, same7F, bigV_tup, encV_tup, decV_tup, unf_fdrow, unbg_bgrow, cmrow_len, Try.ntmps5, reduceIte, reduceCtorEq, Nat.reduceAdd, Nat.reduceEqDiff, Nat.reduceLT, Nat.reduceLeDiff, Nat.reduceSub, Nat.reduceMul, Nat.reduceBEq, Int.reduceToNat, Int.reduceLE, Int.reduceLT, Int.reducePow]; done) | (simp only [go_sem, kn5, filesF, aliveF, encF, fewF, decF, allF, same7F, bigV_tup, encV_tup, decV_tup, unf_fdrow, unbg_bgrow, cmrow_len, Try.ntmps5, reduceIte, reduceCtorEq, Nat.reduceAdd, Nat.reduceEqDiff, Nat.reduceLT, Nat.reduceLeDiff, Nat.reduceSub, Nat.reduceMul, Nat.reduceBEq, Int.reduceToNat, Int.reduceLE, Int.reduceLT, Int.reducePow]; omega)
          case k15 => simp only [go_sem, kn5, filesF, aliveF, encF, fewF, decF, allF, same7F, bigV_tup, encV_tup, decV_tup, unf_fdrow, unbg_bgrow, cmrow_len, Try.ntmps5, reduceIte, reduceCtorEq, Nat.reduceAdd, Nat.reduceEqDiff, Nat.reduceLT, Nat.reduceLeDiff, Nat.reduceSub, Nat.reduceMul, Nat.reduceBEq, Int.reduceToNat, Int.reduceLE, Int.reduceLT, Int.reducePow]; rfl
          refine AWp.block ?_
          refine AWp.conv (Conv.keep [10, 16] [] (by simp)) ?_
          refine AWp.loop (fun k S => ∃ i : Nat, i ≤ nP (bytesL (bigs bl)) ∧ k = nP (bytesL (bigs bl)) - i ∧ S = ⟨[(10, .one (dv (.slice none 1 (enR n (bigs bl))))), (16, .one (dv (.int .i64 ((i : Nat) : Int))))], [], 4⟩) (nP (bytesL (bigs bl))) ?i1 ?n1
          case i1 =>
            exact ⟨0, by omega, rfl, by simp [St.keep, keepE, lookN]⟩
          case n1 =>
            rintro k S ⟨i, hi0, rfl, rfl⟩
            refine AWp.seq ?_
            refine AWp.seq ?_
            refine AWp.reg (S1 := ?S16) (ob := ?o16) (S' := ?K16) tab_ok (knowL_ok kn5_ok) mixed [10, 16, 84] ?r16 ?h16 ?k16 ?w16
            case r16 => simp only [go_sem, kn5, filesF, aliveF, encF, fewF, decF, allF, same7F, bigV_tup, encV_tup, decV_tup, unf_fdrow, unbg_bgrow, cmrow_len, Try.ntmps5, reduceIte, reduceCtorEq, Nat.reduceAdd, Nat.reduceEqDiff, Nat.reduceLT, Nat.reduceLeDiff, Nat.reduceSub, Nat.reduceMul, Nat.reduceBEq, Int.reduceToNat, Int.reduceLE, Int.reduceLT, Int.reducePow]; rfl
            case h16 => first | exact True.intro | omega | (simp only [go_sem, kn5, filesF, aliveF, encF, fewF, decF, allF, same7F, bigV_tup, encV_tup, decV_tup, unf_fdrow, unbg_bgrow, cmrow_len, Try.ntmps5, reduceIte, reduceCtorEq, Nat.reduceAdd, Nat.reduceEqDiff, Nat.reduceLT, Nat.reduceLeDiff, Nat.reduceSub, Nat.reduceMul, Nat.reduceBEq, Int.reduceToNat, Int.reduceLE, Int.reduceLT, Int.reducePow]; done) | (simp only [go_sem, kn5, filesF, aliveF, encF, fewF, decF, allF, same7F, bigV_tup, encV_tup, decV_tup, unf_fdrow, unbg_bgrow, cmrow_len, Try.ntmps5, reduceIte, reduceCtorEq, Nat.reduceAdd, Nat.reduceEqDiff, Nat.reduceLT, Nat.reduceLeDiff, Nat.reduceSub, Nat.reduceMul, Nat.reduceBEq, Int.reduceToNat, Int.reduceLE, Int.reduceLT, Int.reducePow]; omega)
            case k16 => simp only [go_sem, kn5, filesF, aliveF, encF, fewF, decF, allF, same7F, bigV_tup, encV_tup, decV_tup, unf_fdrow, unbg_bgrow, cmrow_len, Try.ntmps5, reduceIte, reduceCtorEq, Nat.reduceAdd, Nat.reduceEqDiff, Nat.reduceLT, Nat.reduceLeDiff, Nat.reduceSub, Nat.reduceMul, Nat.reduceBEq, Int.reduceToNat, Int.reduceLE, Int.reduceLT, Int.reducePow]; rfl
            refine AWp.cond (b := ?b17) ?c17 ?t17 ?f17
            case c17 => simp only [go_sem, kn5, filesF, aliveF, encF, fewF, decF, allF, same7F, bigV_tup, encV_tup, decV_tup, unf_fdrow, unbg_bgrow, cmrow_len, Try.ntmps5, reduceIte, reduceCtorEq, Nat.reduceAdd, Nat.reduceEqDiff, Nat.reduceLT, Nat.reduceLeDiff, Nat.reduceSub, Nat.reduceMul, Nat.reduceBEq, Int.reduceToNat, Int.reduceLE, Int.reduceLT, Int.reducePow]; rfl
            case t17 =>
              intro hb4
              have hi : i < nP (bytesL (bigs bl)) := by simp only [decide_eq_true_eq] at hb4; rw [hlR] at hb4; omega
              have ht : rowsB (List.take i (enR n (bigs bl))) = (recs n (bigs bl)).take i := by rw [rowsB_take, q1, rows_recs]
              have s1 := dec_short hr hi
              have s2 : dcN ((recs n (bigs bl)).take i) = 0 := by rw [dcN, if_neg (by rw [s1]; decide)]
              have s3 : dcF ((recs n (bigs bl)).take i) = [] := by rw [dcF, if_neg (by rw [s1]; decide)]
              have hTk := recs_take hk hr i
              refine AWp.skip ?_
              refine AWp.seq ?_
              refine AWp.block ?_
              refine AWp.seq ?_
              refine AWp.reg (S1 := ?S18) (ob := ?o18) (S' := ?K18) tab_ok (knowL_ok kn5_ok) mixed [10, 16, 17, 18, 19] ?r18 ?h18 ?k18 ?w18
              case r18 => simp only [go_sem, kn5, filesF, aliveF, encF, fewF, decF, allF, same7F, bigV_tup, encV_tup, decV_tup, unf_fdrow, unbg_bgrow, cmrow_len, Try.ntmps5, reduceIte, reduceCtorEq, Nat.reduceAdd, Nat.reduceEqDiff, Nat.reduceLT, Nat.reduceLeDiff, Nat.reduceSub, Nat.reduceMul, Nat.reduceBEq, Int.reduceToNat, Int.reduceLE, Int.reduceLT, Int.reducePow, ht, s1, s2, s3]; rfl
              case h18 =>
                exact ⟨⟨by omega, by rw [hlR]; omega, by omega⟩, .inr trivial, hTk⟩
              case k18 => simp only [go_sem, kn5, filesF, aliveF, encF, fewF, decF, allF, same7F, bigV_tup, encV_tup, decV_tup, unf_fdrow, unbg_bgrow, cmrow_len, Try.ntmps5, reduceIte, reduceCtorEq, Nat.reduceAdd, Nat.reduceEqDiff, Nat.reduceLT, Nat.reduceLeDiff, Nat.reduceSub, Nat.reduceMul, Nat.reduceBEq, Int.reduceToNat, Int.reduceLE, Int.reduceLT, Int.reducePow]; rfl
              refine AWp.seq ?_
              refine AWp.reg (S1 := ?S19) (ob := ?o19) (S' := ?K19) tab_ok (knowL_ok kn5_ok) mixed [10, 16, 106] ?r19 ?h19 ?k19 ?w19
              case r19 => simp only [go_sem, kn5, filesF, aliveF, encF, fewF, decF, allF, same7F, bigV_tup, encV_tup, decV_tup, unf_fdrow, unbg_bgrow, cmrow_len, Try.ntmps5, reduceIte, reduceCtorEq, Nat.reduceAdd, Nat.reduceEqDiff, Nat.reduceLT, Nat.reduceLeDiff, Nat.reduceSub, Nat.reduceMul, Nat.reduceBEq, Int.reduceToNat, Int.reduceLE, Int.reduceLT, Int.reducePow, ht, s1, s2, s3]; rfl
              case h19 => first | exact True.intro | omega | (simp only [go_sem, kn5, filesF, aliveF, encF, fewF, decF, allF, same7F, bigV_tup, encV_tup, decV_tup, unf_fdrow, unbg_bgrow, cmrow_len, Try.ntmps5, reduceIte, reduceCtorEq, Nat.reduceAdd, Nat.reduceEqDiff, Nat.reduceLT, Nat.reduceLeDiff, Nat.reduceSub, Nat.reduceMul, Nat.reduceBEq, Int.reduceToNat, Int.reduceLE, Int.reduceLT, Int.reducePow]; done) | (simp only [go_sem, kn5, filesF, aliveF, encF, fewF, decF, allF, same7F, bigV_tup, encV_tup, decV_tup, unf_fdrow, unbg_bgrow, cmrow_len, Try.ntmps5, reduceIte, reduceCtorEq, Nat.reduceAdd, Nat.reduceEqDiff, Nat.reduceLT, Nat.reduceLeDiff, Nat.reduceSub, Nat.reduceMul, Nat.reduceBEq, Int.reduceToNat, Int.reduceLE, Int.reduceLT, Int.reducePow]; omega)
              case k19 => simp only [go_sem, kn5, filesF, aliveF, encF, fewF, decF, allF, same7F, bigV_tup, encV_tup, decV_tup, unf_fdrow, unbg_bgrow, cmrow_len, Try.ntmps5, reduceIte, reduceCtorEq, Nat.reduceAdd, Nat.reduceEqDiff, Nat.reduceLT, Nat.reduceLeDiff, Nat.reduceSub, Nat.reduceMul, Nat.reduceBEq, Int.reduceToNat, Int.reduceLE, Int.reduceLT, Int.reducePow]; rfl
              refine AWp.cond (b := ?b20) ?c20 ?t20 ?f20
              case c20 => simp only [go_sem, kn5, filesF, aliveF, encF, fewF, decF, allF, same7F, bigV_tup, encV_tup, decV_tup, unf_fdrow, unbg_bgrow, cmrow_len, Try.ntmps5, reduceIte, reduceCtorEq, Nat.reduceAdd, Nat.reduceEqDiff, Nat.reduceLT, Nat.reduceLeDiff, Nat.reduceSub, Nat.reduceMul, Nat.reduceBEq, Int.reduceToNat, Int.reduceLE, Int.reduceLT, Int.reducePow]; rfl
              case t20 =>
                intro hb5
                exfalso; simp [fdrow] at hb5
              case f20 =>
                intro hb5
                refine AWp.skip ?_
                refine AWp.reg (S1 := ?S21) (ob := ?o21) (S' := ?K21) tab_ok (knowL_ok kn5_ok) mixed [10, 16] ?r21 ?h21 ?k21 ?w21
                case r21 => simp only [go_sem, kn5, filesF, aliveF, encF, fewF, decF, allF, same7F, bigV_tup, encV_tup, decV_tup, unf_fdrow, unbg_bgrow, cmrow_len, Try.ntmps5, reduceIte, reduceCtorEq, Nat.reduceAdd, Nat.reduceEqDiff, Nat.reduceLT, Nat.reduceLeDiff, Nat.reduceSub, Nat.reduceMul, Nat.reduceBEq, Int.reduceToNat, Int.reduceLE, Int.reduceLT, Int.reducePow]; rfl
                case h21 => first | exact True.intro | omega | (simp only [go_sem, kn5, filesF, aliveF, encF, fewF, decF, allF, same7F, bigV_tup, encV_tup, decV_tup, unf_fdrow, unbg_bgrow, cmrow_len, Try.ntmps5, reduceIte, reduceCtorEq, Nat.reduceAdd, Nat.reduceEqDiff, Nat.reduceLT, Nat.reduceLeDiff, Nat.reduceSub, Nat.reduceMul, Nat.reduceBEq, Int.reduceToNat, Int.reduceLE, Int.reduceLT, Int.reducePow]; done) | (simp only [go_sem, kn5, filesF, aliveF, encF, fewF, decF, allF, same7F, bigV_tup, encV_tup, decV_tup, unf_fdrow, unbg_bgrow, cmrow_len, Try.ntmps5, reduceIte, reduceCtorEq, Nat.reduceAdd, Nat.reduceEqDiff, Nat.reduceLT, Nat.reduceLeDiff, Nat.reduceSub, Nat.reduceMul, Nat.reduceBEq, Int.reduceToNat, Int.reduceLE, Int.reduceLT, Int.reducePow]; omega)
                case k21 => simp only [go_sem, kn5, filesF, aliveF, encF, fewF, decF, allF, same7F, bigV_tup, encV_tup, decV_tup, unf_fdrow, unbg_bgrow, cmrow_len, Try.ntmps5, reduceIte, reduceCtorEq, Nat.reduceAdd, Nat.reduceEqDiff, Nat.reduceLT, Nat.reduceLeDiff, Nat.reduceSub, Nat.reduceMul, Nat.reduceBEq, Int.reduceToNat, Int.reduceLE, Int.reduceLT, Int.reducePow]; rfl
                refine ⟨nP (bytesL (bigs bl)) - (i + 1), ⟨[(10, .one (dv (.slice none 1 (enR n (bigs bl))))), (16, .one (dv (.int .i64 (((i + 1) : Nat) : Int))))], [], 4⟩, by omega, ?_, i + 1, by omega, rfl, rfl⟩
                exact Conv.rename id (by simp; done) (by simp; done) (by simp [lookN, AVal.ren, AV.ren, Sc.ren, AVal.ids, AV.ids, Sc.ids]; done) (by simp; done) (by simp; done)
            case f17 =>
              intro hb4
              refine AWp.exit ?_
              refine thenA_exit ?_
              refine thenA_exit ?_
              refine inB_eq ?_
              refine AWp.seq ?_
              refine AWp.reg (S1 := ?S22) (ob := ?o22) (S' := ?K22) tab_ok (knowL_ok kn5_ok) mixed [6] ?r22 ?h22 ?k22 ?w22
              case r22 => simp only [go_sem, kn5, filesF, aliveF, encF, fewF, decF, allF, same7F, bigV_tup, encV_tup, decV_tup, unf_fdrow, unbg_bgrow, cmrow_len, Try.ntmps5, reduceIte, reduceCtorEq, Nat.reduceAdd, Nat.reduceEqDiff, Nat.reduceLT, Nat.reduceLeDiff, Nat.reduceSub, Nat.reduceMul, Nat.reduceBEq, Int.reduceToNat, Int.reduceLE, Int.reduceLT, Int.reducePow, hall, hall2]; rfl
              case h22 =>
                exact ⟨.inr trivial, hDa⟩
              case k22 => simp only [go_sem, kn5, filesF, aliveF, encF, fewF, decF, allF, same7F, bigV_tup, encV_tup, decV_tup, unf_fdrow, unbg_bgrow, cmrow_len, Try.ntmps5, reduceIte, reduceCtorEq, Nat.reduceAdd, Nat.reduceEqDiff, Nat.reduceLT, Nat.reduceLeDiff, Nat.reduceSub, Nat.reduceMul, Nat.reduceBEq, Int.reduceToNat, Int.reduceLE, Int.reduceLT, Int.reducePow]; rfl
              refine AWp.ret ?_
              refine ends_p (vs := ?vs3) (ob := ?ro3) (vs' := ?ws3) (ks := ?ks3) (ob2 := ?rp3) tab_ok (by simp) ?er3 ?eo3 ?ef3 ?eg3 ?en3 ?ek3 ?ev3
              case er3 => simp only [go_sem, kn5, filesF, aliveF, encF, fewF, decF, allF, same7F, bigV_tup, encV_tup, decV_tup, unf_fdrow, unbg_bgrow, cmrow_len, Try.ntmps5, reduceIte, reduceCtorEq, Nat.reduceAdd, Nat.reduceEqDiff, Nat.reduceLT, Nat.reduceLeDiff, Nat.reduceSub, Nat.reduceMul, Nat.reduceBEq, Int.reduceToNat, Int.reduceLE, Int.reduceLT, Int.reducePow, Try.results5]; rfl
              case eo3 => first | exact True.intro | simp only [go_sem, kn5, filesF, aliveF, encF, fewF, decF, allF, same7F, bigV_tup, encV_tup, decV_tup, unf_fdrow, unbg_bgrow, cmrow_len, Try.ntmps5, reduceIte, reduceCtorEq, Nat.reduceAdd, Nat.reduceEqDiff, Nat.reduceLT, Nat.reduceLeDiff, Nat.reduceSub, Nat.reduceMul, Nat.reduceBEq, Int.reduceToNat, Int.reduceLE, Int.reduceLT, Int.reducePow]
              case ef3 => simp only [go_sem, kn5, filesF, aliveF, encF, fewF, decF, allF, same7F, bigV_tup, encV_tup, decV_tup, unf_fdrow, unbg_bgrow, cmrow_len, Try.ntmps5, reduceIte, reduceCtorEq, Nat.reduceAdd, Nat.reduceEqDiff, Nat.reduceLT, Nat.reduceLeDiff, Nat.reduceSub, Nat.reduceMul, Nat.reduceBEq, Int.reduceToNat, Int.reduceLE, Int.reduceLT, Int.reducePow]; rfl
              case eg3 => first | exact True.intro | simp only [go_sem, kn5, filesF, aliveF, encF, fewF, decF, allF, same7F, bigV_tup, encV_tup, decV_tup, unf_fdrow, unbg_bgrow, cmrow_len, Try.ntmps5, reduceIte, reduceCtorEq, Nat.reduceAdd, Nat.reduceEqDiff, Nat.reduceLT, Nat.reduceLeDiff, Nat.reduceSub, Nat.reduceMul, Nat.reduceBEq, Int.reduceToNat, Int.reduceLE, Int.reduceLT, Int.reducePow]
              case en3 => simp only [go_sem, kn5, filesF, aliveF, encF, fewF, decF, allF, same7F, bigV_tup, encV_tup, decV_tup, unf_fdrow, unbg_bgrow, cmrow_len, Try.ntmps5, reduceIte, reduceCtorEq, Nat.reduceAdd, Nat.reduceEqDiff, Nat.reduceLT, Nat.reduceLeDiff, Nat.reduceSub, Nat.reduceMul, Nat.reduceBEq, Int.reduceToNat, Int.reduceLE, Int.reduceLT, Int.reducePow]
              case ek3 => simp only [go_sem, kn5, filesF, aliveF, encF, fewF, decF, allF, same7F, bigV_tup, encV_tup, decV_tup, unf_fdrow, unbg_bgrow, cmrow_len, Try.ntmps5, reduceIte, reduceCtorEq, Nat.reduceAdd, Nat.reduceEqDiff, Nat.reduceLT, Nat.reduceLeDiff, Nat.reduceSub, Nat.reduceMul, Nat.reduceBEq, Int.reduceToNat, Int.reduceLE, Int.reduceLT, Int.reducePow]
              case ev3 =>
                first | rfl | simp only [go_sem, kn5, filesF, aliveF, encF, fewF, decF, allF, same7F, bigV_tup, encV_tup, decV_tup, unf_fdrow, unbg_bgrow, cmrow_len, Try.ntmps5, reduceIte, reduceCtorEq, Nat.reduceAdd, Nat.reduceEqDiff, Nat.reduceLT, Nat.reduceLeDiff, Nat.reduceSub, Nat.reduceMul, Nat.reduceBEq, Int.reduceToNat, Int.reduceLE, Int.reduceLT, Int.reducePow]
  · cases hq

end Go.Proofs.Hg
