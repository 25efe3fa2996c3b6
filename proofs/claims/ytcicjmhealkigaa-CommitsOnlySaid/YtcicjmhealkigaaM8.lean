/- What was encoded is decoded: the plain law. -/
import Derived.Test.YtcicjmhealkigaaM7
set_option linter.unusedSimpArgs false
set_option linter.unusedVariables false
namespace Go.Proofs.Hg
open Go.RowKit
set_option maxRecDepth 100000

theorem lowB_cons (v : Int) (k : Nat) : lowB v (k + 1) = u8 v :: lowB (v / 256) k := by
  unfold lowB
  rw [List.range_succ_eq_map, List.map_cons, List.map_map]
  congr 1
  · simp
  · apply List.map_congr_left
    intro i _
    show u8 (v / 2 ^ (8 * (i + 1))) = u8 (v / 256 / 2 ^ (8 * i))
    congr 1
    rw [Int.ediv_ediv_of_nonneg (by omega : (0 : Int) ≤ 256)]
    congr 1
    have : (2 : Int) ^ (8 * (i + 1)) = 2 ^ (8 * i) * 256 := by rw [Nat.mul_add, Int.pow_add]; rfl
    rw [this, Int.mul_comm]
theorem u8_int (v : Int) : ((u8 v).toNat : Int) = v % 256 := by
  have := u8_wrap v
  rw [IntKind.wrap_u8] at this
  exact this
theorem numU_lowB : ∀ (k : Nat) (v : Nat), v < 256 ^ k → numU (lowB (v : Int) k) = v
  | 0, v, h => by simp at h; subst h; rfl
  | k + 1, v, h => by
    rw [lowB_cons]
    have e : (v : Int) / 256 = ((v / 256 : Nat) : Int) := by omega
    rw [e, numU, numU_lowB k (v / 256) (by rw [Nat.pow_succ] at h; omega)]
    have := u8_int (v : Int)
    omega
theorem numU_lowB' {k : Nat} {v : Int} (h0 : 0 ≤ v) (h : v < 256 ^ k) : (numU (lowB v k) : Int) = v := by
  obtain ⟨m, rfl⟩ : ∃ m : Nat, v = m := ⟨v.toNat, by omega⟩
  rw [numU_lowB k m (by
    have e : ((256 ^ k : Nat) : Int) = 256 ^ k := by push_cast; rfl
    omega)]
theorem numI_lowB {k : Nat} {v : Int} (h0 : 0 ≤ v) (h : v < 256 ^ k) (h63 : v ≤ 9223372036854775807) : numI (lowB v k) = v := by
  unfold numI
  rw [numU_lowB' h0 h]
  exact IntWalk.i64_in _ ⟨by omega, by omega⟩

/-! ### files -/
theorem head_u8 {n : Nat} (h : n ≤ 255) : (u8 (n : Int)).toNat = n := by
  have := u8_int (n : Int)
  omega
theorem take_app {α : Type} {a b : List α} {n : Nat} (h : a.length = n) : (a ++ b).take n = a := by subst h; simp
theorem drop_app {α : Type} {a b : List α} {n : Nat} (h : a.length = n) : (a ++ b).drop n = b := by subst h; simp
theorem rf_fileB {f : FileL} (hf : FileIn f) (t : List UInt8) : rfN (fileB f ++ t) = f.1.length ∧ rfSz (fileB f ++ t) = f.2.2.length ∧ rfFile (fileB f ++ t) = f ∧ (fileB f ++ t).drop (13 + f.1.length + f.2.2.length) = t := by
  obtain ⟨h1, h2, h3, h4⟩ := hf
  have p4' : (256 : Int) ^ 4 = 4294967296 := by decide
  have p8' : (256 : Int) ^ 8 = 18446744073709551616 := by decide
  have hN : rfN (fileB f ++ t) = f.1.length := by
    show (u8 (f.1.length : Int)).toNat = _
    exact head_u8 (by omega)
  have e : fileB f ++ t = [u8 (f.1.length : Int)] ++ (f.1 ++ (lowB f.2.1 8 ++ (lowB (f.2.2.length : Int) 4 ++ (f.2.2 ++ t)))) := by simp [fileB]
  have d1 : (fileB f ++ t).drop 1 = f.1 ++ (lowB f.2.1 8 ++ (lowB (f.2.2.length : Int) 4 ++ (f.2.2 ++ t))) := by rw [e]; rfl
  have d2 : (fileB f ++ t).drop (1 + f.1.length) = lowB f.2.1 8 ++ (lowB (f.2.2.length : Int) 4 ++ (f.2.2 ++ t)) := by rw [← List.drop_drop, d1, drop_app rfl]
  have d3 : (fileB f ++ t).drop (9 + f.1.length) = lowB (f.2.2.length : Int) 4 ++ (f.2.2 ++ t) := by rw [show 9 + f.1.length = 1 + f.1.length + 8 by omega, ← List.drop_drop, d2, drop_app (lowB_len _ _)]
  have d4 : (fileB f ++ t).drop (13 + f.1.length) = f.2.2 ++ t := by rw [show 13 + f.1.length = 9 + f.1.length + 4 by omega, ← List.drop_drop, d3, drop_app (lowB_len _ _)]
  have hS : rfSz (fileB f ++ t) = f.2.2.length := by
    unfold rfSz
    rw [hN, d3, take_app (lowB_len _ _), numI_lowB (by omega) (by omega) (by omega)]
  refine ⟨hN, hS, ?_, ?_⟩
  · unfold rfFile
    rw [hS, hN, d1, d2, d4, take_app rfl, take_app (lowB_len _ _), take_app (by simp), numI_lowB h2 (by omega) (by omega)]
  · rw [← List.drop_drop, d4, drop_app rfl]
theorem fileB_len2 (f : FileL) : (fileB f).length = 13 + f.1.length + f.2.2.length := by simp [fileB, lowB_len]; omega
theorem files_back : ∀ (l : List FileL) (fs : List FileL) (n : Nat), (∀ f ∈ l, FileIn f) → (bytesL l).length ≤ n → filesP n (true, bytesL l) fs = ((true, []), fs ++ l)
  | [], fs, n, _, _ => by cases n <;> simp [filesP, bytesL]
  | f :: l, fs, n, h, hn => by
    have e : bytesL (f :: l) = fileB f ++ bytesL l := rfl
    have hl := fileB_len2 f
    rw [e, List.length_append] at hn
    obtain ⟨m, rfl⟩ : ∃ m, n = m + 1 := ⟨n - 1, by omega⟩
    obtain ⟨a1, a2, a3, a4⟩ := rf_fileB (h f (List.mem_cons_self ..)) (bytesL l)
    have hpos : 0 < (fileB f ++ bytesL l).length := by rw [List.length_append]; omega
    rw [e, filesP, if_pos ⟨rfl, hpos⟩]
    rcases step_all hpos with ⟨b1, b2, b3, b4⟩ | ⟨b1, b2⟩
    · rw [b3, b4, a1, a2, a3, Int.toNat_natCast, a4, files_back l _ m (fun g hg => h g (List.mem_cons_of_mem _ hg)) (by omega)]
      simp
    · exfalso
      apply b1
      rw [a1, a2, List.length_append]
      omega
theorem filesEnd_back {l : List FileL} (h : FilesIn l) : filesEnd (bytesL l) = ((true, []), l) :=
  files_back l [] (bytesL l).length h.2 (Nat.le_refl _)

/-! ### records -/
def recs (n : Int) (l : List FileL) : List (List UInt8) := (List.range (nP (bytesL l))).map (recB n (nP (bytesL l)) (bytesL l))
theorem recs_len (n : Int) (l : List FileL) : (recs n l).length = nP (bytesL l) := by simp [recs]
theorem recs_get {n : Int} {l : List FileL} {i : Nat} (h : i < nP (bytesL l)) (more : List (List UInt8)) : (recs n l ++ more).getD i [] = recB n (nP (bytesL l)) (bytesL l) i := by
  rw [List.getD_eq_getElem?_getD, List.getElem?_append_left (by rw [recs_len]; exact h)]
  simp [recs, List.getElem?_map, List.getElem?_range h]
theorem nP_pos (B : List UInt8) : 1 ≤ nP B := by unfold nP; split <;> omega
theorem rec_parts (n : Int) (N : Nat) (B : List UInt8) (j : Nat) : (recB n N B j).take 8 = lowB n 8 ∧ ((recB n N B j).drop 8).take 2 = lowB (j : Int) 2 ∧ ((recB n N B j).drop 10).take 2 = lowB (N : Int) 2 ∧ (recB n N B j).drop 12 = chunkAt 4000 B j ∧ (recB n N B j).length = 12 + (chunkAt 4000 B j).length := by
  have d8 : (recB n N B j).drop 8 = lowB (j : Int) 2 ++ (lowB (N : Int) 2 ++ chunkAt 4000 B j) := drop_app (lowB_len _ _)
  have d10 : (recB n N B j).drop 10 = lowB (N : Int) 2 ++ chunkAt 4000 B j := by
    rw [show (10 : Nat) = 8 + 2 from rfl, ← List.drop_drop, d8]; exact drop_app (lowB_len _ _)
  have d12 : (recB n N B j).drop 12 = chunkAt 4000 B j := by
    rw [show (12 : Nat) = 10 + 2 from rfl, ← List.drop_drop, d10]; exact drop_app (lowB_len _ _)
  refine ⟨take_app (lowB_len _ _), ?_, ?_, d12, ?_⟩
  · rw [d8]; exact take_app (lowB_len _ _)
  · rw [d10]; exact take_app (lowB_len _ _)
  · simp [recB, lowB_len]; omega
theorem chunk_len2 {B : List UInt8} {j : Nat} (h : j < nP B) : (chunkAt 4000 B j).length = 4000 ∧ j + 1 < nP B ∨ j + 1 = nP B ∧ (chunkAt 4000 B j).length ≤ 4000 ∧ (0 < (chunkAt 4000 B j).length ∨ nP B = 1) ∨ (chunkAt 4000 B j).length = 4000 ∧ j + 1 = nP B := by
  have e : (chunkAt 4000 B j).length = min 4000 (B.length - 4000 * j) := by simp [chunkAt]
  rw [e]
  unfold nP at h ⊢
  unfold nChunks at h ⊢
  split at h <;> rename_i h0
  · rw [if_pos h0]; omega
  · rw [if_neg h0]; omega
theorem fit_rec {n : Int} {l : List FileL} (h : rightL n l = true) {more : List (List UInt8)} {i : Nat} (hi : i < nP (bytesL l)) : dFit (recs n l ++ more) i = true ∧ dN (recs n l ++ more) = nP (bytesL l) ∧ dM (recs n l ++ more) = n ∧ 12 ≤ (dF (recs n l ++ more)).length := by
  obtain ⟨h0, h1, hF⟩ := rightL_in h
  have hN := nChunks_le (bytesL_len hF)
  have hN2 : nP (bytesL l) ≤ 16789 := by unfold nP; split <;> omega
  have p2 : (256 : Int) ^ 2 = 65536 := by decide
  have p8 : (256 : Int) ^ 8 = 18446744073709551616 := by decide
  have hF0 : dF (recs n l ++ more) = recB n (nP (bytesL l)) (bytesL l) 0 := recs_get (by have := nP_pos (bytesL l); omega) more
  obtain ⟨a1, a2, a3, a4, a5⟩ := rec_parts n (nP (bytesL l)) (bytesL l) 0
  obtain ⟨b1, b2, b3, b4, b5⟩ := rec_parts n (nP (bytesL l)) (bytesL l) i
  have eN : dN (recs n l ++ more) = nP (bytesL l) := by
    unfold dN
    rw [hF0, a3]
    exact numI_lowB (by omega) (by omega) (by omega)
  have eM : dM (recs n l ++ more) = n := by
    unfold dM
    rw [hF0, a1]
    exact numI_lowB h0 (by omega) (by omega)
  refine ⟨?_, eN, eM, by rw [hF0, a5]; omega⟩
  unfold dFit
  rw [recs_get hi, eN, hF0]
  have q1 := numU_lowB' (k := 2) (v := (i : Int)) (by omega) (by omega)
  have q2 := numU_lowB' (k := 2) (v := ((nP (bytesL l) : Nat) : Int)) (by omega) (by omega)
  have hc := chunk_len2 hi
  simp only [hdB, szB, a1, b1, b2, b3, b5, q1, q2, Bool.and_eq_true, Bool.not_eq_true', Bool.or_eq_false_iff, Bool.or_eq_true, decide_eq_true_eq, decide_eq_false_iff_not, Bool.not_eq_false']
  refine ⟨⟨⟨⟨by omega, trivial⟩, trivial⟩, trivial⟩, ?_⟩
  omega
theorem body_rec {n : Int} {l : List FileL} {more : List (List UInt8)} : ∀ i, i ≤ nP (bytesL l) → dBody (recs n l ++ more) i = (bytesL l).take (4000 * i)
  | 0, _ => by simp [dBody]
  | i + 1, h => by
    rw [dBody_succ (by rw [List.length_append, recs_len]; omega), body_rec i (by omega), recs_get (by omega), (rec_parts n _ _ i).2.2.2.1, Nat.mul_add, Nat.mul_one, List.take_add]
    rfl
theorem head_no {n : Int} {l : List FileL} (h : rightL n l = true) (more : List (List UInt8)) : dHead (recs n l ++ more) = false := by
  obtain ⟨h0, h1, hF⟩ := rightL_in h
  have hp := nP_pos (bytesL l)
  obtain ⟨_, eN, eM, _⟩ := fit_rec h (more := more) (i := 0) (by omega)
  simp only [dHead, eN, eM, Bool.or_eq_false_iff, decide_eq_false_iff_not]
  omega
theorem dec_back {n : Int} {l : List FileL} (h : rightL n l = true) (more : List (List UInt8)) : dErr (recs n l ++ more) = 0 ∧ dN (recs n l ++ more) = nP (bytesL l) ∧ dM (recs n l ++ more) = n ∧ (dEnd (recs n l ++ more)).2 = l := by
  obtain ⟨h0, h1, hF⟩ := rightL_in h
  have hp := nP_pos (bytesL l)
  obtain ⟨_, eN, eM, e12⟩ := fit_rec h (more := more) (i := 0) (by omega)
  have hc : dCnt (recs n l ++ more) = nP (bytesL l) := by
    unfold dCnt
    rw [eN, List.length_append, recs_len]
    omega
  have hB : dBody (recs n l ++ more) (nP (bytesL l)) = bytesL l := by
    rw [body_rec _ (Nat.le_refl _), List.take_of_length_le]
    unfold nP nChunks
    split <;> omega
  have hE : dEnd (recs n l ++ more) = ((true, []), l) := by
    unfold dEnd
    rw [hc, hB, filesEnd_back hF]
  refine ⟨?_, eN, eM, by rw [hE]⟩
  rw [dErr, if_neg (by rw [List.length_append, recs_len]; omega), if_neg (by omega), if_neg (by rw [head_no h]; decide), if_pos ?_, if_neg ?_, if_pos ?_]
  · rw [hE, eM, h]; rfl
  · rw [eN, List.length_append, recs_len]; omega
  · rw [hc, List.all_eq_true]
    intro i hi
    exact (fit_rec h (by simpa using hi)).1
theorem dec_short {n : Int} {l : List FileL} (h : rightL n l = true) {i : Nat} (hi : i < nP (bytesL l)) : dErr ((recs n l).take i) = 42 := by
  by_cases h0 : i = 0
  · subst h0; exact dErr_nil rfl
  have hp := nP_pos (bytesL l)
  have hlen : ((recs n l).take i).length = i := by rw [List.length_take, recs_len]; omega
  have eF : dF ((recs n l).take i) = dF (recs n l ++ []) := by
    unfold dF
    rw [getD_takeL (by omega), List.append_nil]
  obtain ⟨_, eN, eM, e12⟩ := fit_rec h (more := []) (i := 0) (by omega)
  have eN2 : dN ((recs n l).take i) = nP (bytesL l) := by unfold dN at eN ⊢; rw [eF]; exact eN
  have eM2 : dM ((recs n l).take i) = n := by unfold dM at eM ⊢; rw [eF]; exact eM
  have hd : dHead ((recs n l).take i) = false := by
    have := head_no h []
    unfold dHead at this ⊢
    rw [eN2, eM2]; rw [eN, eM] at this; exact this
  have hc : dCnt ((recs n l).take i) = i := by unfold dCnt; rw [eN2, hlen]; omega
  rw [dErr, if_neg (by omega), if_neg (by rw [eF]; omega), if_neg (by rw [hd]; decide), if_pos ?_, if_pos ?_]
  · rw [eN2, hlen]; omega
  · rw [hc, List.all_eq_true]
    intro j hj
    have hj : j < i := by simpa using hj
    have := (fit_rec h (more := []) (i := j) (by omega)).1
    unfold dFit at this ⊢
    rw [getD_takeL hj, eF, eN2]
    rw [eN, List.append_nil] at this
    rw [List.append_nil]
    exact this
theorem all_back {n : Int} {l : List FileL} (h : rightL n l = true) (more : List (List UInt8)) : allL (recs n l ++ more) = (n, l) :: allL more := by
  obtain ⟨e1, e2, e3, e4⟩ := dec_back h more
  rw [allL_step e1, e2, e3, e4, Int.toNat_natCast, drop_app (recs_len n l)]
theorem all_short {n : Int} {l : List FileL} (h : rightL n l = true) {i : Nat} (hi : i < nP (bytesL l)) : allL ((recs n l).take i) = [] :=
  allL_stop (by rw [dec_short h hi]; decide)
end Go.Proofs.Hg

set_option linter.unusedSimpArgs false
set_option linter.unusedVariables false
set_option maxHeartbeats 4000000
namespace Go.Proofs.Hg
open Go.RowKit
set_option maxRecDepth 100000
theorem enR_ok2 {n : Int} {l : List FileL} (h : rightL n l = true) : enR n l = recR n (nP (bytesL l)) (bytesL l) (nP (bytesL l)) ∧ enE n l = 0 ∧ enZ n l = none ∧ enW n l = 1 := by
  unfold enR enE enZ enW
  simp [h]
theorem enE_no {n : Int} {l : List FileL} (h : ¬ enE n l = 0) : enR n l = [] := by
  unfold enE at h
  unfold enR
  split
  · rename_i hr; rw [if_pos hr] at h; exact absurd rfl h
  · rfl
theorem enE_right {n : Int} {l : List FileL} (h : enE n l = 0) : rightL n l = true := by
  unfold enE at h
  split at h
  · assumption
  · cases h
theorem rows_recs (n : Int) (l : List FileL) : rowsB (recR n (nP (bytesL l)) (bytesL l) (nP (bytesL l))) = recs n l := by
  simp [rowsB, recR, recs, rowB1]
theorem rowsB_app (a b : List (List D)) : rowsB (a ++ b) = rowsB a ++ rowsB b := by simp [rowsB]
theorem rowsB_take (es : List (List D)) (a : Nat) : rowsB (es.take a) = (rowsB es).take a := by simp [rowsB]
theorem recR_short {n : Int} {N : Nat} {B : List UInt8} {i : Nat} : ∀ r ∈ recR n N B i, (rowB1 r).length ≤ 5000 := by
  intro r hr
  obtain ⟨j, _, rfl⟩ := List.mem_map.1 hr
  simp only [rowB1, unb_brow]
  have := (rec_parts n N B j).2.2.2.2
  have := chunk_len B j
  omega
theorem bytes_le {l : List FileL} {k : Nat} (h : ∀ f ∈ l, (fileB f).length ≤ k) : (bytesL l).length ≤ k * l.length := by
  induction l with
  | nil => simp [bytesL]
  | cons f l ih =>
    have h1 := h f (List.mem_cons_self ..)
    have h2 := ih fun x hx => h x (List.mem_cons_of_mem _ hx)
    show (fileB f ++ bytesL l).length ≤ _
    rw [List.length_append, List.length_cons, Nat.mul_add]
    omega
theorem big_n {bl : List BigL} {n : Int} (hk : bigOk bl = true) (hr : rightL n (bigs bl) = true) : nP (bytesL (bigs bl)) ≤ 41 := by
  have h8 := good_le hk
  have hF := (rightL_in hr).2.2
  have hb : ∀ f ∈ bigs bl, (fileB f).length ≤ 20105 := by
    intro f hf
    have h1 := (hF.2 f hf).1
    rw [fileB_len2]
    obtain ⟨b, hb, rfl⟩ := List.mem_map.1 hf
    obtain ⟨i, hi, rfl⟩ := List.mem_iff_getElem.1 hb
    have hg := List.all_eq_true.1 hk i (by simpa using hi)
    have h2 : badB bl i = false := by simpa using hg
    simp only [badB, Bool.or_eq_false_iff, decide_eq_false_iff_not, getD_lt hi] at h2
    have h3 : (bigF bl[i]).2.2.length ≤ 20060 := grow_len _ (by omega) _ _ (by simp)
    omega
  have := bytes_le hb
  rw [bigs_len] at this
  unfold nP nChunks
  split <;> omega
theorem recs_ok {bl : List BigL} {n : Int} (hk : bigOk bl = true) (hr : rightL n (bigs bl) = true) {es : List (List D)} (h : RowsOk es) (h1 : es.length ≤ 12) (h2 : ∀ r ∈ es, (rowB1 r).length ≤ 5000) : RecsOk (enR n (bigs bl) ++ es) := by
  have hb := big_n hk hr
  rw [(enR_ok2 hr).1]
  refine ⟨fun r hx => ?_, by rw [List.length_append, recR_len]; omega, fun r hx => ?_⟩
  · rcases List.mem_append.1 hx with hx | hx
    · exact recR_ok _ _ _ _ r hx
    · exact h r hx
  · rcases List.mem_append.1 hx with hx | hx
    · exact recR_short r hx
    · exact h2 r hx
theorem recs_take {bl : List BigL} {n : Int} (hk : bigOk bl = true) (hr : rightL n (bigs bl) = true) (i : Nat) : RecsOk ((enR n (bigs bl)).take i) := by
  have h := recs_ok (es := []) hk hr (fun r hx => by simp at hx) (by simp) (by simp)
  rw [List.append_nil] at h
  exact ⟨fun r hx => h.1 r (List.mem_of_mem_take hx), by rw [List.length_take]; have := h.2.1; omega, fun r hx => h.2.2 r (List.mem_of_mem_take hx)⟩
def backF : List AV → Option (AVal × Prop)
  | [.s (.d (.int .i64 n)), .s (.d (.slice z e es)), .s (.d (.slice z2 e2 fs))] => some (.one (dv (.bool true)), e = 4 ∧ es = bgrow (unbg es) ∧ e2 = 1 ∧ RowsOk fs)
  | _ => none
def kn5 : List (Nat × Cont) := [(8, pureK filesF), (9, pureK aliveF), (10, pureK encF), (13, pureK fewF), (14, viewK decF), (16, pureK allF), (19, pureK same7F)]
theorem kn5_ok : ∀ p ∈ kn5, ContOk Try.prog p.1 p.2 := by
  intro p hp
  simp only [kn5, List.mem_cons, List.not_mem_nil, or_false] at hp
  rcases hp with rfl | rfl | rfl | rfl | rfl | rfl | rfl
  · exact filesF_ok
  · exact aliveF_ok
  · exact encF_ok
  · exact fewF_ok
  · exact viewK_ok decF_ok
  · exact allF_ok
  · exact same7F_ok
theorem backF_ok : ContOk Try.prog 5 (pureK backF) := by
  refine pure_ok (nargs := 3) Try.func5 rfl (by kernel_rfl) (Nat.le_of_ble_eq_true (by kernel_rfl)) ?_
  intro args q hq hob
  unfold backF at hq
  split at hq
  · rename_i n z e es z2 e2 fs
    injection hq with hq
    subst hq
    obtain ⟨h1, h2, h3, h4⟩ : e = 4 ∧ es = bgrow (unbg es) ∧ e2 = 1 ∧ RowsOk fs := hob
    generalize unbg es = bl at *
    subst h1 h2 h3
    refine ⟨rfl, by simp [AV.ids, Sc.ids], by simp [AVal.ids, AV.ids, Sc.ids], by simp, ?_⟩
    refine AWp.seq ?_
    refine AWp.reg (S1 := ?S1) (ob := ?o1) (S' := ?K1) tab_ok (knowL_ok kn5_ok) mixed [0, 1, 2] ?r1 ?h1 ?k1 ?w1
    case r1 => simp only [go_sem, kn5, filesF, aliveF, encF, fewF, decF, allF, same7F, bigV_tup, encV_tup, decV_tup, unf_fdrow, unbg_bgrow, cmrow_len, Try.ntmps5, reduceIte, reduceCtorEq, Nat.reduceAdd, Nat.reduceEqDiff, Nat.reduceLT, Nat.reduceLeDiff, Nat.reduceSub, Nat.reduceMul, Nat.reduceBEq, Int.reduceToNat, Int.reduceLE, Int.reduceLT, Int.reducePow]; rfl
    case h1 => first | exact True.intro | omega | (simp only [go_sem, kn5, filesF, aliveF, encF, fewF, decF, allF, same7F, bigV_tup, encV_tup, decV_tup, unf_fdrow, unbg_bgrow, cmrow_len, Try.ntmps5, reduceIte, reduceCtorEq, Nat.reduceAdd, Nat.reduceEqDiff, Nat.reduceLT, Nat.reduceLeDiff, Nat.reduceSub, Nat.reduceMul, Nat.reduceBEq, Int.reduceToNat, Int.reduceLE, Int.reduceLT, Int.reducePow]; done) | (simp only [go_sem, kn5, filesF, aliveF, encF, fewF, decF, allF, same7F, bigV_tup, encV_tup, decV_tup, unf_fdrow, unbg_bgrow, cmrow_len, Try.ntmps5, reduceIte, reduceCtorEq, Nat.reduceAdd, Nat.reduceEqDiff, Nat.reduceLT, Nat.reduceLeDiff, Nat.reduceSub, Nat.reduceMul, Nat.reduceBEq, Int.reduceToNat, Int.reduceLE, Int.reduceLT, Int.reducePow]; omega)
    case k1 => simp only [go_sem, kn5, filesF, aliveF, encF, fewF, decF, allF, same7F, bigV_tup, encV_tup, decV_tup, unf_fdrow, unbg_bgrow, cmrow_len, Try.ntmps5, reduceIte, reduceCtorEq, Nat.reduceAdd, Nat.reduceEqDiff, Nat.reduceLT, Nat.reduceLeDiff, Nat.reduceSub, Nat.reduceMul, Nat.reduceBEq, Int.reduceToNat, Int.reduceLE, Int.reduceLT, Int.reducePow]; rfl
    refine AWp.seq ?_
    refine AWp.reg (S1 := ?S2) (ob := ?o2) (S' := ?K2) tab_ok (knowL_ok kn5_ok) mixed [0, 2, 7, 8] ?r2 ?h2 ?k2 ?w2
    case r2 => simp only [go_sem, kn5, filesF, aliveF, encF, fewF, decF, allF, same7F, bigV_tup, encV_tup, decV_tup, unf_fdrow, unbg_bgrow, cmrow_len, Try.ntmps5, reduceIte, reduceCtorEq, Nat.reduceAdd, Nat.reduceEqDiff, Nat.reduceLT, Nat.reduceLeDiff, Nat.reduceSub, Nat.reduceMul, Nat.reduceBEq, Int.reduceToNat, Int.reduceLE, Int.reduceLT, Int.reducePow]; rfl
    case h2 => first | exact True.intro | omega | (simp only [go_sem, kn5, filesF, aliveF, encF, fewF, decF, allF, same7F, bigV_tup, encV_tup, decV_tup, unf_fdrow, unbg_bgrow, cmrow_len, Try.ntmps5, reduceIte, reduceCtorEq, Nat.reduceAdd, Nat.reduceEqDiff, Nat.reduceLT, Nat.reduceLeDiff, Nat.reduceSub, Nat.reduceMul, Nat.reduceBEq, Int.reduceToNat, Int.reduceLE, Int.reduceLT, Int.reducePow]; done) | (simp only [go_sem, kn5, filesF, aliveF, encF, fewF, decF, allF, same7F, bigV_tup, encV_tup, decV_tup, unf_fdrow, unbg_bgrow, cmrow_len, Try.ntmps5, reduceIte, reduceCtorEq, Nat.reduceAdd, Nat.reduceEqDiff, Nat.reduceLT, Nat.reduceLeDiff, Nat.reduceSub, Nat.reduceMul, Nat.reduceBEq, Int.reduceToNat, Int.reduceLE, Int.reduceLT, Int.reducePow]; omega)
    case k2 => simp only [go_sem, kn5, filesF, aliveF, encF, fewF, decF, allF, same7F, bigV_tup, encV_tup, decV_tup, unf_fdrow, unbg_bgrow, cmrow_len, Try.ntmps5, reduceIte, reduceCtorEq, Nat.reduceAdd, Nat.reduceEqDiff, Nat.reduceLT, Nat.reduceLeDiff, Nat.reduceSub, Nat.reduceMul, Nat.reduceBEq, Int.reduceToNat, Int.reduceLE, Int.reduceLT, Int.reducePow]; rfl
    refine AWp.seq ?_
    refine AWp.reg (S1 := ?S3) (ob := ?o3) (S' := ?K3) tab_ok (knowL_ok kn5_ok) mixed [0, 2, 7, 8, 9] ?r3 ?h3 ?k3 ?w3
    case r3 => simp only [go_sem, kn5, filesF, aliveF, encF, fewF, decF, allF, same7F, bigV_tup, encV_tup, decV_tup, unf_fdrow, unbg_bgrow, cmrow_len, Try.ntmps5, reduceIte, reduceCtorEq, Nat.reduceAdd, Nat.reduceEqDiff, Nat.reduceLT, Nat.reduceLeDiff, Nat.reduceSub, Nat.reduceMul, Nat.reduceBEq, Int.reduceToNat, Int.reduceLE, Int.reduceLT, Int.reducePow]; rfl
    case h3 =>
      exact ⟨.inr trivial, h4⟩
    case k3 => simp only [go_sem, kn5, filesF, aliveF, encF, fewF, decF, allF, same7F, bigV_tup, encV_tup, decV_tup, unf_fdrow, unbg_bgrow, cmrow_len, Try.ntmps5, reduceIte, reduceCtorEq, Nat.reduceAdd, Nat.reduceEqDiff, Nat.reduceLT, Nat.reduceLeDiff, Nat.reduceSub, Nat.reduceMul, Nat.reduceBEq, Int.reduceToNat, Int.reduceLE, Int.reduceLT, Int.reducePow]; rfl
    refine AWp.seq ?_
    refine AWp.seq ?_
    refine AWp.reg (S1 := ?S4) (ob := ?o4) (S' := ?K4) tab_ok (knowL_ok kn5_ok) mixed [0, 2, 7, 32] ?r4 ?h4 ?k4 ?w4
    case r4 => simp only [go_sem, kn5, filesF, aliveF, encF, fewF, decF, allF, same7F, bigV_tup, encV_tup, decV_tup, unf_fdrow, unbg_bgrow, cmrow_len, Try.ntmps5, reduceIte, reduceCtorEq, Nat.reduceAdd, Nat.reduceEqDiff, Nat.reduceLT, Nat.reduceLeDiff, Nat.reduceSub, Nat.reduceMul, Nat.reduceBEq, Int.reduceToNat, Int.reduceLE, Int.reduceLT, Int.reducePow]; rfl
    case h4 => first | exact True.intro | omega | (simp only [go_sem, kn5, filesF, aliveF, encF, fewF, decF, allF, same7F, bigV_tup, encV_tup, decV_tup, unf_fdrow, unbg_bgrow, cmrow_len, Try.ntmps5, reduceIte, reduceCtorEq, Nat.reduceAdd, Nat.reduceEqDiff, Nat.reduceLT, Nat.reduceLeDiff, Nat.reduceSub, Nat.reduceMul, Nat.reduceBEq, Int.reduceToNat, Int.reduceLE, Int.reduceLT, Int.reducePow]; done) | (simp only [go_sem, kn5, filesF, aliveF, encF, fewF, decF, allF, same7F, bigV_tup, encV_tup, decV_tup, unf_fdrow, unbg_bgrow, cmrow_len, Try.ntmps5, reduceIte, reduceCtorEq, Nat.reduceAdd, Nat.reduceEqDiff, Nat.reduceLT, Nat.reduceLeDiff, Nat.reduceSub, Nat.reduceMul, Nat.reduceBEq, Int.reduceToNat, Int.reduceLE, Int.reduceLT, Int.reducePow]; omega)
    case k4 => simp only [go_sem, kn5, filesF, aliveF, encF, fewF, decF, allF, same7F, bigV_tup, encV_tup, decV_tup, unf_fdrow, unbg_bgrow, cmrow_len, Try.ntmps5, reduceIte, reduceCtorEq, Nat.reduceAdd, Nat.reduceEqDiff, Nat.reduceLT, Nat.reduceLeDiff, Nat.reduceSub, Nat.reduceMul, Nat.reduceBEq, Int.reduceToNat, Int.reduceLE, Int.reduceLT, Int.reducePow]; rfl
    refine AWp.cond (b := ?b5) ?c5 ?t5 ?f5
    case c5 => simp only [go_sem, kn5, filesF, aliveF, encF, fewF, decF, allF, same7F, bigV_tup, encV_tup, decV_tup, unf_fdrow, unbg_bgrow, cmrow_len, Try.ntmps5, reduceIte, reduceCtorEq, Nat.reduceAdd, Nat.reduceEqDiff, Nat.reduceLT, Nat.reduceLeDiff, Nat.reduceSub, Nat.reduceMul, Nat.reduceBEq, Int.reduceToNat, Int.reduceLE, Int.reduceLT, Int.reducePow]; rfl
    case t5 =>
      intro hb1
      refine AWp.seq ?_
      refine AWp.reg (S1 := ?S6) (ob := ?o6) (S' := ?K6) tab_ok (knowL_ok kn5_ok) mixed [6] ?r6 ?h6 ?k6 ?w6
      case r6 => simp only [go_sem, kn5, filesF, aliveF, encF, fewF, decF, allF, same7F, bigV_tup, encV_tup, decV_tup, unf_fdrow, unbg_bgrow, cmrow_len, Try.ntmps5, reduceIte, reduceCtorEq, Nat.reduceAdd, Nat.reduceEqDiff, Nat.reduceLT, Nat.reduceLeDiff, Nat.reduceSub, Nat.reduceMul, Nat.reduceBEq, Int.reduceToNat, Int.reduceLE, Int.reduceLT, Int.reducePow]; rfl
      case h6 => first | exact True.intro | omega | (simp only [go_sem, kn5, filesF, aliveF, encF, fewF, decF, allF, same7F, bigV_tup, encV_tup, decV_tup, unf_fdrow, unbg_bgrow, cmrow_len, Try.ntmps5, reduceIte, reduceCtorEq, Nat.reduceAdd, Nat.reduceEqDiff, Nat.reduceLT, Nat.reduceLeDiff, Nat.reduceSub, Nat.reduceMul, Nat.reduceBEq, Int.reduceToNat, Int.reduceLE, Int.reduceLT, Int.reducePow]; done) | (simp only [go_sem, kn5, filesF, aliveF, encF, fewF, decF, allF, same7F, bigV_tup, encV_tup, decV_tup, unf_fdrow, unbg_bgrow, cmrow_len, Try.ntmps5, reduceIte, reduceCtorEq, Nat.reduceAdd, Nat.reduceEqDiff, Nat.reduceLT, Nat.reduceLeDiff, Nat.reduceSub, Nat.reduceMul, Nat.reduceBEq, Int.reduceToNat, Int.reduceLE, Int.reduceLT, Int.reducePow]; omega)
      case k6 => simp only [go_sem, kn5, filesF, aliveF, encF, fewF, decF, allF, same7F, bigV_tup, encV_tup, decV_tup, unf_fdrow, unbg_bgrow, cmrow_len, Try.ntmps5, reduceIte, reduceCtorEq, Nat.reduceAdd, Nat.reduceEqDiff, Nat.reduceLT, Nat.reduceLeDiff, Nat.reduceSub, Nat.reduceMul, Nat.reduceBEq, Int.reduceToNat, Int.reduceLE, Int.reduceLT, Int.reducePow]; rfl
      refine AWp.ret ?_
      refine ends_p (vs := ?vs1) (ob := ?ro1) (vs' := ?ws1) (ks := ?ks1) (ob2 := ?rp1) tab_ok (by simp) ?er1 ?eo1 ?ef1 ?eg1 ?en1 ?ek1 ?ev1
      case er1 => simp only [go_sem, kn5, filesF, aliveF, encF, fewF, decF, allF, same7F, bigV_tup, encV_tup, decV_tup, unf_fdrow, unbg_bgrow, cmrow_len, Try.ntmps5, reduceIte, reduceCtorEq, Nat.reduceAdd, Nat.reduceEqDiff, Nat.reduceLT, Nat.reduceLeDiff, Nat.reduceSub, Nat.reduceMul, Nat.reduceBEq, Int.reduceToNat, Int.reduceLE, Int.reduceLT, Int.reducePow, Try.results5]; rfl
      case eo1 => first | exact True.intro | simp only [go_sem, kn5, filesF, aliveF, encF, fewF, decF, allF, same7F, bigV_tup, encV_tup, decV_tup, unf_fdrow, unbg_bgrow, cmrow_len, Try.ntmps5, reduceIte, reduceCtorEq, Nat.reduceAdd, Nat.reduceEqDiff, Nat.reduceLT, Nat.reduceLeDiff, Nat.reduceSub, Nat.reduceMul, Nat.reduceBEq, Int.reduceToNat, Int.reduceLE, Int.reduceLT, Int.reducePow]
      case ef1 => simp only [go_sem, kn5, filesF, aliveF, encF, fewF, decF, allF, same7F, bigV_tup, encV_tup, decV_tup, unf_fdrow, unbg_bgrow, cmrow_len, Try.ntmps5, reduceIte, reduceCtorEq, Nat.reduceAdd, Nat.reduceEqDiff, Nat.reduceLT, Nat.reduceLeDiff, Nat.reduceSub, Nat.reduceMul, Nat.reduceBEq, Int.reduceToNat, Int.reduceLE, Int.reduceLT, Int.reducePow]; rfl
      case eg1 => first | exact True.intro | simp only [go_sem, kn5, filesF, aliveF, encF, fewF, decF, allF, same7F, bigV_tup, encV_tup, decV_tup, unf_fdrow, unbg_bgrow, cmrow_len, Try.ntmps5, reduceIte, reduceCtorEq, Nat.reduceAdd, Nat.reduceEqDiff, Nat.reduceLT, Nat.reduceLeDiff, Nat.reduceSub, Nat.reduceMul, Nat.reduceBEq, Int.reduceToNat, Int.reduceLE, Int.reduceLT, Int.reducePow]
      case en1 => simp only [go_sem, kn5, filesF, aliveF, encF, fewF, decF, allF, same7F, bigV_tup, encV_tup, decV_tup, unf_fdrow, unbg_bgrow, cmrow_len, Try.ntmps5, reduceIte, reduceCtorEq, Nat.reduceAdd, Nat.reduceEqDiff, Nat.reduceLT, Nat.reduceLeDiff, Nat.reduceSub, Nat.reduceMul, Nat.reduceBEq, Int.reduceToNat, Int.reduceLE, Int.reduceLT, Int.reducePow]
      case ek1 => simp only [go_sem, kn5, filesF, aliveF, encF, fewF, decF, allF, same7F, bigV_tup, encV_tup, decV_tup, unf_fdrow, unbg_bgrow, cmrow_len, Try.ntmps5, reduceIte, reduceCtorEq, Nat.reduceAdd, Nat.reduceEqDiff, Nat.reduceLT, Nat.reduceLeDiff, Nat.reduceSub, Nat.reduceMul, Nat.reduceBEq, Int.reduceToNat, Int.reduceLE, Int.reduceLT, Int.reducePow]
      case ev1 =>
        first | rfl | simp only [go_sem, kn5, filesF, aliveF, encF, fewF, decF, allF, same7F, bigV_tup, encV_tup, decV_tup, unf_fdrow, unbg_bgrow, cmrow_len, Try.ntmps5, reduceIte, reduceCtorEq, Nat.reduceAdd, Nat.reduceEqDiff, Nat.reduceLT, Nat.reduceLeDiff, Nat.reduceSub, Nat.reduceMul, Nat.reduceBEq, Int.reduceToNat, Int.reduceLE, Int.reduceLT, Int.reducePow]
    case f5 =>
      intro hb1
      simp only [Bool.or_eq_false_iff, Bool.not_eq_false'] at hb1
      have hk : bigOk bl = true := hb1.1
      have hR : bgR bl = bigs bl := by rw [bgR, if_pos hk]
      have hW : bgW bl = 3 := by rw [bgW, if_pos hk]
      have hO := bigs_ok hk
      obtain ⟨f1, f2⟩ := few_rows hb1.2
      refine AWp.skip ?_
      refine AWp.seq ?_
      refine AWp.reg (S1 := ?S7) (ob := ?o7) (S' := ?K7) tab_ok (knowL_ok kn5_ok) mixed [0, 2, 7, 10, 11] ?r7 ?h7 ?k7 ?w7
      case r7 => simp only [go_sem, kn5, filesF, aliveF, encF, fewF, decF, allF, same7F, bigV_tup, encV_tup, decV_tup, unf_fdrow, unbg_bgrow, cmrow_len, Try.ntmps5, reduceIte, reduceCtorEq, Nat.reduceAdd, Nat.reduceEqDiff, Nat.reduceLT, Nat.reduceLeDiff, Nat.reduceSub, Nat.reduceMul, Nat.reduceBEq, Int.reduceToNat, Int.reduceLE, Int.reduceLT, Int.reducePow]; rfl
      case h7 =>
        exact ⟨hW, by rw [hR]; exact hO⟩
      case k7 => simp only [go_sem, kn5, filesF, aliveF, encF, fewF, decF, allF, same7F, bigV_tup, encV_tup, decV_tup, unf_fdrow, unbg_bgrow, cmrow_len, Try.ntmps5, reduceIte, reduceCtorEq, Nat.reduceAdd, Nat.reduceEqDiff, Nat.reduceLT, Nat.reduceLeDiff, Nat.reduceSub, Nat.reduceMul, Nat.reduceBEq, Int.reduceToNat, Int.reduceLE, Int.reduceLT, Int.reducePow]; rfl
      refine AWp.seq ?_
      refine AWp.seq ?_
      refine AWp.reg (S1 := ?S8) (ob := ?o8) (S' := ?K8) tab_ok (knowL_ok kn5_ok) mixed [0, 2, 7, 10, 42] ?r8 ?h8 ?k8 ?w8
      case r8 => simp only [go_sem, kn5, filesF, aliveF, encF, fewF, decF, allF, same7F, bigV_tup, encV_tup, decV_tup, unf_fdrow, unbg_bgrow, cmrow_len, Try.ntmps5, reduceIte, reduceCtorEq, Nat.reduceAdd, Nat.reduceEqDiff, Nat.reduceLT, Nat.reduceLeDiff, Nat.reduceSub, Nat.reduceMul, Nat.reduceBEq, Int.reduceToNat, Int.reduceLE, Int.reduceLT, Int.reducePow]; rfl
      case h8 => first | exact True.intro | omega | (simp only [go_sem, kn5, filesF, aliveF, encF, fewF, decF, allF, same7F, bigV_tup, encV_tup, decV_tup, unf_fdrow, unbg_bgrow, cmrow_len, Try.ntmps5, reduceIte, reduceCtorEq, Nat.reduceAdd, Nat.reduceEqDiff, Nat.reduceLT, Nat.reduceLeDiff, Nat.reduceSub, Nat.reduceMul, Nat.reduceBEq, Int.reduceToNat, Int.reduceLE, Int.reduceLT, Int.reducePow]; done) | (simp only [go_sem, kn5, filesF, aliveF, encF, fewF, decF, allF, same7F, bigV_tup, encV_tup, decV_tup, unf_fdrow, unbg_bgrow, cmrow_len, Try.ntmps5, reduceIte, reduceCtorEq, Nat.reduceAdd, Nat.reduceEqDiff, Nat.reduceLT, Nat.reduceLeDiff, Nat.reduceSub, Nat.reduceMul, Nat.reduceBEq, Int.reduceToNat, Int.reduceLE, Int.reduceLT, Int.reducePow]; omega)
      case k8 => simp only [go_sem, kn5, filesF, aliveF, encF, fewF, decF, allF, same7F, bigV_tup, encV_tup, decV_tup, unf_fdrow, unbg_bgrow, cmrow_len, Try.ntmps5, reduceIte, reduceCtorEq, Nat.reduceAdd, Nat.reduceEqDiff, Nat.reduceLT, Nat.reduceLeDiff, Nat.reduceSub, Nat.reduceMul, Nat.reduceBEq, Int.reduceToNat, Int.reduceLE, Int.reduceLT, Int.reducePow]; rfl
      refine AWp.cond (b := ?b9) ?c9 ?t9 ?f9
      case c9 => simp only [go_sem, kn5, filesF, aliveF, encF, fewF, decF, allF, same7F, bigV_tup, encV_tup, decV_tup, unf_fdrow, unbg_bgrow, cmrow_len, Try.ntmps5, reduceIte, reduceCtorEq, Nat.reduceAdd, Nat.reduceEqDiff, Nat.reduceLT, Nat.reduceLeDiff, Nat.reduceSub, Nat.reduceMul, Nat.reduceBEq, Int.reduceToNat, Int.reduceLE, Int.reduceLT, Int.reducePow]; rfl
      case t9 =>
        intro hb2
        have hne := enE_no (n := n) (l := bigs bl) (by simpa [hR] using hb2)
        refine AWp.seq ?_
        refine AWp.reg (S1 := ?S10) (ob := ?o10) (S' := ?K10) tab_ok (knowL_ok kn5_ok) mixed [6] ?r10 ?h10 ?k10 ?w10
        case r10 => simp only [go_sem, kn5, filesF, aliveF, encF, fewF, decF, allF, same7F, bigV_tup, encV_tup, decV_tup, unf_fdrow, unbg_bgrow, cmrow_len, Try.ntmps5, reduceIte, reduceCtorEq, Nat.reduceAdd, Nat.reduceEqDiff, Nat.reduceLT, Nat.reduceLeDiff, Nat.reduceSub, Nat.reduceMul, Nat.reduceBEq, Int.reduceToNat, Int.reduceLE, Int.reduceLT, Int.reducePow]; rfl
        case h10 => first | exact True.intro | omega | (simp only [go_sem, kn5, filesF, aliveF, encF, fewF, decF, allF, same7F, bigV_tup, encV_tup, decV_tup, unf_fdrow, unbg_bgrow, cmrow_len, Try.ntmps5, reduceIte, reduceCtorEq, Nat.reduceAdd, Nat.reduceEqDiff, Nat.reduceLT, Nat.reduceLeDiff, Nat.reduceSub, Nat.reduceMul, Nat.reduceBEq, Int.reduceToNat, Int.reduceLE, Int.reduceLT, Int.reducePow]; done) | (simp only [go_sem, kn5, filesF, aliveF, encF, fewF, decF, allF, same7F, bigV_tup, encV_tup, decV_tup, unf_fdrow, unbg_bgrow, cmrow_len, Try.ntmps5, reduceIte, reduceCtorEq, Nat.reduceAdd, Nat.reduceEqDiff, Nat.reduceLT, Nat.reduceLeDiff, Nat.reduceSub, Nat.reduceMul, Nat.reduceBEq, Int.reduceToNat, Int.reduceLE, Int.reduceLT, Int.reducePow]; omega)
        case k10 => simp only [go_sem, kn5, filesF, aliveF, encF, fewF, decF, allF, same7F, bigV_tup, encV_tup, decV_tup, unf_fdrow, unbg_bgrow, cmrow_len, Try.ntmps5, reduceIte, reduceCtorEq, Nat.reduceAdd, Nat.reduceEqDiff, Nat.reduceLT, Nat.reduceLeDiff, Nat.reduceSub, Nat.reduceMul, Nat.reduceBEq, Int.reduceToNat, Int.reduceLE, Int.reduceLT, Int.reducePow]; rfl
        refine AWp.ret ?_
        refine ends_p (vs := ?vs2) (ob := ?ro2) (vs' := ?ws2) (ks := ?ks2) (ob2 := ?rp2) tab_ok (by simp) ?er2 ?eo2 ?ef2 ?eg2 ?en2 ?ek2 ?ev2
        case er2 => simp only [go_sem, kn5, filesF, aliveF, encF, fewF, decF, allF, same7F, bigV_tup, encV_tup, decV_tup, unf_fdrow, unbg_bgrow, cmrow_len, Try.ntmps5, reduceIte, reduceCtorEq, Nat.reduceAdd, Nat.reduceEqDiff, Nat.reduceLT, Nat.reduceLeDiff, Nat.reduceSub, Nat.reduceMul, Nat.reduceBEq, Int.reduceToNat, Int.reduceLE, Int.reduceLT, Int.reducePow, Try.results5]; rfl
        case eo2 => first | exact True.intro | simp only [go_sem, kn5, filesF, aliveF, encF, fewF, decF, allF, same7F, bigV_tup, encV_tup, decV_tup, unf_fdrow, unbg_bgrow, cmrow_len, Try.ntmps5, reduceIte, reduceCtorEq, Nat.reduceAdd, Nat.reduceEqDiff, Nat.reduceLT, Nat.reduceLeDiff, Nat.reduceSub, Nat.reduceMul, Nat.reduceBEq, Int.reduceToNat, Int.reduceLE, Int.reduceLT, Int.reducePow]
        case ef2 => simp only [go_sem, kn5, filesF, aliveF, encF, fewF, decF, allF, same7F, bigV_tup, encV_tup, decV_tup, unf_fdrow, unbg_bgrow, cmrow_len, Try.ntmps5, reduceIte, reduceCtorEq, Nat.reduceAdd, Nat.reduceEqDiff, Nat.reduceLT, Nat.reduceLeDiff, Nat.reduceSub, Nat.reduceMul, Nat.reduceBEq, Int.reduceToNat, Int.reduceLE, Int.reduceLT, Int.reducePow]; rfl
        case eg2 => first | exact True.intro | simp only [go_sem, kn5, filesF, aliveF, encF, fewF, decF, allF, same7F, bigV_tup, encV_tup, decV_tup, unf_fdrow, unbg_bgrow, cmrow_len, Try.ntmps5, reduceIte, reduceCtorEq, Nat.reduceAdd, Nat.reduceEqDiff, Nat.reduceLT, Nat.reduceLeDiff, Nat.reduceSub, Nat.reduceMul, Nat.reduceBEq, Int.reduceToNat, Int.reduceLE, Int.reduceLT, Int.reducePow]
        case en2 => simp only [go_sem, kn5, filesF, aliveF, encF, fewF, decF, allF, same7F, bigV_tup, encV_tup, decV_tup, unf_fdrow, unbg_bgrow, cmrow_len, Try.ntmps5, reduceIte, reduceCtorEq, Nat.reduceAdd, Nat.reduceEqDiff, Nat.reduceLT, Nat.reduceLeDiff, Nat.reduceSub, Nat.reduceMul, Nat.reduceBEq, Int.reduceToNat, Int.reduceLE, Int.reduceLT, Int.reducePow]
        case ek2 => simp only [go_sem, kn5, filesF, aliveF, encF, fewF, decF, allF, same7F, bigV_tup, encV_tup, decV_tup, unf_fdrow, unbg_bgrow, cmrow_len, Try.ntmps5, reduceIte, reduceCtorEq, Nat.reduceAdd, Nat.reduceEqDiff, Nat.reduceLT, Nat.reduceLeDiff, Nat.reduceSub, Nat.reduceMul, Nat.reduceBEq, Int.reduceToNat, Int.reduceLE, Int.reduceLT, Int.reducePow]
        case ev2 =>
          rw [hR, hne]; rfl
      case f9 =>
        intro hb2
        have hr : rightL n (bigs bl) = true := enE_right (by simpa [hR] using hb2)
        obtain ⟨q1, q2, q3, q4⟩ := enR_ok2 hr
        have hD := recs_ok hk hr h4 f1 f2
        have hN := big_n hk hr
        have hrw : rowsB (enR n (bigs bl) ++ fs) = recs n (bigs bl) ++ rowsB fs := by rw [rowsB_app, q1, rows_recs]
        obtain ⟨d1, d2, d3, d4⟩ := dec_back hr (rowsB fs)
        have c1 : dcM (recs n (bigs bl) ++ rowsB fs) = n := by rw [dcM, if_pos d1, d3]
        have c2 : dcF (recs n (bigs bl) ++ rowsB fs) = bigs bl := by rw [dcF, if_pos d1, d4]
        have c3 : dcN (recs n (bigs bl) ++ rowsB fs) = ((nP (bytesL (bigs bl)) : Nat) : Int) := by rw [dcN, if_pos d1, d2]
        have hlR : (enR n (bigs bl)).length = nP (bytesL (bigs bl)) := by rw [q1, recR_len]
        have hall : rowsB (enR n (bigs bl)) = recs n (bigs bl) := by rw [q1, rows_recs]
        have hall2 : allL (recs n (bigs bl)) = [(n, bigs bl)] := by have := all_back hr []; rw [List.append_nil] at this; exact this
        have hDa : RecsOk (enR n (bigs bl)) := by have := recs_take hk hr (enR n (bigs bl)).length; rw [List.take_length] at this; exact this
        refine AWp.skip ?_
        refine AWp.seq ?_
        refine AWp.reg (S1 := ?S11) (ob := ?o11) (S' := ?K11) tab_ok (knowL_ok kn5_ok) mixed [0, 7, 10, 12, 13, 14] ?r11 ?h11 ?k11 ?w11
        case r11 => simp only [go_sem, kn5, filesF, aliveF, encF, fewF, decF, allF, same7F, bigV_tup, encV_tup, decV_tup, unf_fdrow, unbg_bgrow, cmrow_len, Try.ntmps5, reduceIte, reduceCtorEq, Nat.reduceAdd, Nat.reduceEqDiff, Nat.reduceLT, Nat.reduceLeDiff, Nat.reduceSub, Nat.reduceMul, Nat.reduceBEq, Int.reduceToNat, Int.reduceLE, Int.reduceLT, Int.reducePow, hR, hW, q3, q4, hrw, d1, c1, c2, c3, hlR]; rfl
        case h11 =>
          exact ⟨⟨by omega, by omega⟩, ⟨by omega, by omega⟩, .inr trivial, hD⟩
        case k11 => simp only [go_sem, kn5, filesF, aliveF, encF, fewF, decF, allF, same7F, bigV_tup, encV_tup, decV_tup, unf_fdrow, unbg_bgrow, cmrow_len, Try.ntmps5, reduceIte, reduceCtorEq, Nat.reduceAdd, Nat.reduceEqDiff, Nat.reduceLT, Nat.reduceLeDiff, Nat.reduceSub, Nat.reduceMul, Nat.reduceBEq, Int.reduceToNat, Int.reduceLE, Int.reduceLT, Int.reducePow]; rfl
        refine AWp.seq ?_
        refine AWp.reg (S1 := ?S12) (ob := ?o12) (S' := ?K12) tab_ok (knowL_ok kn5_ok) mixed [0, 10, 12, 13, 14, 15] ?r12 ?h12 ?k12 ?w12
        case r12 => simp only [go_sem, kn5, filesF, aliveF, encF, fewF, decF, allF, same7F, bigV_tup, encV_tup, decV_tup, unf_fdrow, unbg_bgrow, cmrow_len, Try.ntmps5, reduceIte, reduceCtorEq, Nat.reduceAdd, Nat.reduceEqDiff, Nat.reduceLT, Nat.reduceLeDiff, Nat.reduceSub, Nat.reduceMul, Nat.reduceBEq, Int.reduceToNat, Int.reduceLE, Int.reduceLT, Int.reducePow, hR, hW, q3, q4, hrw, d1, c1, c2, c3, hlR]; rfl
        case h12 =>
          exact ⟨.inr trivial, .inr trivial, by rw [fdrow_len]; have := hO.1; omega⟩
        case k12 => simp only [go_sem, kn5, filesF, aliveF, encF, fewF, decF, allF, same7F, bigV_tup, encV_tup, decV_tup, unf_fdrow, unbg_bgrow, cmrow_len, Try.ntmps5, reduceIte, reduceCtorEq, Nat.reduceAdd, Nat.reduceEqDiff, Nat.reduceLT, Nat.reduceLeDiff, Nat.reduceSub, Nat.reduceMul, Nat.reduceBEq, Int.reduceToNat, Int.reduceLE, Int.reduceLT, Int.reducePow]; rfl
        refine AWp.seq ?_
        refine AWp.seq ?_
        refine AWp.reg (S1 := ?S13) (ob := ?o13) (S' := ?K13) tab_ok (knowL_ok kn5_ok) mixed [10, 80] ?r13 ?h13 ?k13 ?w13
        case r13 => simp only [go_sem, kn5, filesF, aliveF, encF, fewF, decF, allF, same7F, bigV_tup, encV_tup, decV_tup, unf_fdrow, unbg_bgrow, cmrow_len, Try.ntmps5, reduceIte, reduceCtorEq, Nat.reduceAdd, Nat.reduceEqDiff, Nat.reduceLT, Nat.reduceLeDiff, Nat.reduceSub, Nat.reduceMul, Nat.reduceBEq, Int.reduceToNat, Int.reduceLE, Int.reduceLT, Int.reducePow, hR, hW, q3, q4, hrw, d1, c1, c2, c3, hlR]; rfl
        case h13 => first | exact True.intro | omega | (simp only [go_sem, kn5, filesF, aliveF, encF, fewF, decF, allF, same7F, bigV_tup, encV_tup, decV_tup, unf_fdrow, unbg_bgrow, cmrow_len, Try.ntmps5, reduceIte, reduceCtorEq, Nat.reduceAdd, Nat.reduceEqDiff, Nat.reduceLT, Nat.reduceLeDiff, Nat.reduceSub, Nat.reduceMul, Nat.reduceBEq, Int.reduceToNat, Int.reduceLE, Int.reduceLT, Int.reducePow]; done) | (simp only [go_sem, kn5, filesF, aliveF, encF, fewF, decF, allF, same7F, bigV_tup, encV_tup, decV_tup, unf_fdrow, unbg_bgrow, cmrow_len, Try.ntmps5, reduceIte, reduceCtorEq, Nat.reduceAdd, Nat.reduceEqDiff, Nat.reduceLT, Nat.reduceLeDiff, Nat.reduceSub, Nat.reduceMul, Nat.reduceBEq, Int.reduceToNat, Int.reduceLE, Int.reduceLT, Int.reducePow]; omega)
        case k13 => simp only [go_sem, kn5, filesF, aliveF, encF, fewF, decF, allF, same7F, bigV_tup, encV_tup, decV_tup, unf_fdrow, unbg_bgrow, cmrow_len, Try.ntmps5, reduceIte, reduceCtorEq, Nat.reduceAdd, Nat.reduceEqDiff, Nat.reduceLT, Nat.reduceLeDiff, Nat.reduceSub, Nat.reduceMul, Nat.reduceBEq, Int.reduceToNat, Int.reduceLE, Int.reduceLT, Int.reducePow]; rfl
        refine AWp.cond (b := ?b14) ?c14 ?t14 ?f14
        case c14 => simp only [go_sem, kn5, filesF, aliveF, encF, fewF, decF, allF, same7F, bigV_tup, encV_tup, decV_tup, unf_fdrow, unbg_bgrow, cmrow_len, Try.ntmps5, reduceIte, reduceCtorEq, Nat.reduceAdd, Nat.reduceEqDiff, Nat.reduceLT, Nat.reduceLeDiff, Nat.reduceSub, Nat.reduceMul, Nat.reduceBEq, Int.reduceToNat, Int.reduceLE, Int.reduceLT, Int.reducePow]; rfl
        case t14 =>
          intro hb3
          exfalso; simp at hb3
        case f14 =>
          intro hb3
          refine AWp.skip ?_
          refine AWp.seq ?_
          refine AWp.seq ?_
          refine AWp.reg (S1 := ?S15) (ob := ?o15) (S' := ?K15) tab_ok (knowL_ok kn5_ok) mixed [10, 16] ?r15 ?h15 ?k15 ?w15
          case r15 => simp only [go_sem, kn5, filesF, aliveF, encF, fewF, decF, allF, same7F, bigV_tup, encV_tup, decV_tup, unf_fdrow, unbg_bgrow, cmrow_len, Try.ntmps5, reduceIte, reduceCtorEq, Nat.reduceAdd, Nat.reduceEqDiff, Nat.reduceLT, Nat.reduceLeDiff, Nat.reduceSub, Nat.reduceMul, Nat.reduceBEq, Int.reduceToNat, Int.reduceLE, Int.reduceLT, Int.reducePow, hR, hW, q3, q4, hrw, d1, c1, c2, c3, hlR]; rfl
          case h15 => first | exact True.intro | omega | (simp only [go_sem, kn5, filesF, aliveF, encF, fewF, decF, allF, same7F, bigV_tup, encV_tup, decV_tup, unf_fdrow, unbg_bgrow, cmrow_len, Try.ntmps5, reduceIte, reduceCtorEq, Nat.reduceAdd, Nat.reduceEqDiff, Nat.reduceLT, Nat.reduceLeDiff, Nat.reduceSub, Nat.reduceMul, Nat.reduceBEq, Int.reduceToNat, Int.reduceLE, Int.reduceLT, Int.reducePow]; done) | (simp only [go_sem, kn5, filesF, aliveF, encF, fewF, decF, allF, same7F, bigV_tup, encV_tup, decV_tup, unf_fdrow, unbg_bgrow, cmrow_len, Try.ntmps5, reduceIte, reduceCtorEq, Nat.reduceAdd, Nat.reduceEqDiff, Nat.reduceLT, Nat.reduceLeDiff, Nat.reduceSub, Nat.reduceMul, Nat.reduceBEq, Int.reduceToNat, Int.reduceLE, Int.reduceLT, Int.reducePow]; omega)
          case k15 => simp only [go_sem, kn5, filesF, aliveF, encF, fewF, decF, allF, same7F, bigV_tup, encV_tup, decV_tup, unf_fdrow, unbg_bgrow, cmrow_len, Try.ntmps5, reduceIte, reduceCtorEq, Nat.reduceAdd, Nat.reduceEqDiff, Nat.reduceLT, Nat.reduceLeDiff, Nat.reduceSub, Nat.reduceMul, Nat.reduceBEq, Int.reduceToNat, Int.reduceLE, Int.reduceLT, Int.reducePow]; rfl
          refine AWp.block ?_
          refine AWp.conv (Conv.keep [10, 16] [] (by simp)) ?_
          refine AWp.loop (fun k S => ∃ i : Nat, i ≤ nP (bytesL (bigs bl)) ∧ k = nP (bytesL (bigs bl)) - i ∧ S = ⟨[(10, .one (dv (.slice none 1 (enR n (bigs bl))))), (16, .one (dv (.int .i64 ((i : Nat) : Int))))], [], 4⟩) (nP (bytesL (bigs bl))) ?i1 ?n1
          case i1 =>
            exact ⟨0, by omega, rfl, by simp [St.keep, keepE, lookN]⟩
          case n1 =>
            rintro k S ⟨i, hi0, rfl, rfl⟩
            refine AWp.seq ?_
            refine AWp.seq ?_
            refine AWp.reg (S1 := ?S16) (ob := ?o16) (S' := ?K16) tab_ok (knowL_ok kn5_ok) mixed [10, 16, 84] ?r16 ?h16 ?k16 ?w16
            case r16 => simp only [go_sem, kn5, filesF, aliveF, encF, fewF, decF, allF, same7F, bigV_tup, encV_tup, decV_tup, unf_fdrow, unbg_bgrow, cmrow_len, Try.ntmps5, reduceIte, reduceCtorEq, Nat.reduceAdd, Nat.reduceEqDiff, Nat.reduceLT, Nat.reduceLeDiff, Nat.reduceSub, Nat.reduceMul, Nat.reduceBEq, Int.reduceToNat, Int.reduceLE, Int.reduceLT, Int.reducePow]; rfl
            case h16 => first | exact True.intro | omega | (simp only [go_sem, kn5, filesF, aliveF, encF, fewF, decF, allF, same7F, bigV_tup, encV_tup, decV_tup, unf_fdrow, unbg_bgrow, cmrow_len, Try.ntmps5, reduceIte, reduceCtorEq, Nat.reduceAdd, Nat.reduceEqDiff, Nat.reduceLT, Nat.reduceLeDiff, Nat.reduceSub, Nat.reduceMul, Nat.reduceBEq, Int.reduceToNat, Int.reduceLE, Int.reduceLT, Int.reducePow]; done) | (simp only [go_sem, kn5, filesF, aliveF, encF, fewF, decF, allF, same7F, bigV_tup, encV_tup, decV_tup, unf_fdrow, unbg_bgrow, cmrow_len, Try.ntmps5, reduceIte, reduceCtorEq, Nat.reduceAdd, Nat.reduceEqDiff, Nat.reduceLT, Nat.reduceLeDiff, Nat.reduceSub, Nat.reduceMul, Nat.reduceBEq, Int.reduceToNat, Int.reduceLE, Int.reduceLT, Int.reducePow]; omega)
            case k16 => simp only [go_sem, kn5, filesF, aliveF, encF, fewF, decF, allF, same7F, bigV_tup, encV_tup, decV_tup, unf_fdrow, unbg_bgrow, cmrow_len, Try.ntmps5, reduceIte, reduceCtorEq, Nat.reduceAdd, Nat.reduceEqDiff, Nat.reduceLT, Nat.reduceLeDiff, Nat.reduceSub, Nat.reduceMul, Nat.reduceBEq, Int.reduceToNat, Int.reduceLE, Int.reduceLT, Int.reducePow]; rfl
            refine AWp.cond (b := ?b17) ?c17 ?t17 ?f17
            case c17 => simp only [go_sem, kn5, filesF, aliveF, encF, fewF, decF, allF, same7F, bigV_tup, encV_tup, decV_tup, unf_fdrow, unbg_bgrow, cmrow_len, Try.ntmps5, reduceIte, reduceCtorEq, Nat.reduceAdd, Nat.reduceEqDiff, Nat.reduceLT, Nat.reduceLeDiff, Nat.reduceSub, Nat.reduceMul, Nat.reduceBEq, Int.reduceToNat, Int.reduceLE, Int.reduceLT, Int.reducePow]; rfl
            case t17 =>
              intro hb4
              have hi : i < nP (bytesL (bigs bl)) := by simp only [decide_eq_true_eq] at hb4; rw [hlR] at hb4; omega
              have ht : rowsB (List.take i (enR n (bigs bl))) = (recs n (bigs bl)).take i := by rw [rowsB_take, q1, rows_recs]
              have s1 := dec_short hr hi
              have s2 : dcN ((recs n (bigs bl)).take i) = 0 := by rw [dcN, if_neg (by rw [s1]; decide)]
              have s3 : dcF ((recs n (bigs bl)).take i) = [] := by rw [dcF, if_neg (by rw [s1]; decide)]
              have hTk := recs_take hk hr i
              refine AWp.skip ?_
              refine AWp.seq ?_
              refine AWp.block ?_
              refine AWp.seq ?_
              refine AWp.reg (S1 := ?S18) (ob := ?o18) (S' := ?K18) tab_ok (knowL_ok kn5_ok) mixed [10, 16, 17, 18, 19] ?r18 ?h18 ?k18 ?w18
              case r18 => simp only [go_sem, kn5, filesF, aliveF, encF, fewF, decF, allF, same7F, bigV_tup, encV_tup, decV_tup, unf_fdrow, unbg_bgrow, cmrow_len, Try.ntmps5, reduceIte, reduceCtorEq, Nat.reduceAdd, Nat.reduceEqDiff, Nat.reduceLT, Nat.reduceLeDiff, Nat.reduceSub, Nat.reduceMul, Nat.reduceBEq, Int.reduceToNat, Int.reduceLE, Int.reduceLT, Int.reducePow, ht, s1, s2, s3]; rfl
              case h18 =>
                exact ⟨⟨by omega, by rw [hlR]; omega, by omega⟩, .inr trivial, hTk⟩
              case k18 => simp only [go_sem, kn5, filesF, aliveF, encF, fewF, decF, allF, same7F, bigV_tup, encV_tup, decV_tup, unf_fdrow, unbg_bgrow, cmrow_len, Try.ntmps5, reduceIte, reduceCtorEq, Nat.reduceAdd, Nat.reduceEqDiff, Nat.reduceLT, Nat.reduceLeDiff, Nat.reduceSub, Nat.reduceMul, Nat.reduceBEq, Int.reduceToNat, Int.reduceLE, Int.reduceLT, Int.reducePow]; rfl
              refine AWp.seq ?_
              refine AWp.reg (S1 := ?S19) (ob := ?o19) (S' := ?K19) tab_ok (knowL_ok kn5_ok) mixed [10, 16, 106] ?r19 ?h19 ?k19 ?w19
              case r19 => simp only [go_sem, kn5, filesF, aliveF, encF, fewF, decF, allF, same7F, bigV_tup, encV_tup, decV_tup, unf_fdrow, unbg_bgrow, cmrow_len, Try.ntmps5, reduceIte, reduceCtorEq, Nat.reduceAdd, Nat.reduceEqDiff, Nat.reduceLT, Nat.reduceLeDiff, Nat.reduceSub, Nat.reduceMul, Nat.reduceBEq, Int.reduceToNat, Int.reduceLE, Int.reduceLT, Int.reducePow, ht, s1, s2, s3]; rfl
              case h19 => first | exact True.intro | omega | (simp only [go_sem, kn5, filesF, aliveF, encF, fewF, decF, allF, same7F, bigV_tup, encV_tup, decV_tup, unf_fdrow, unbg_bgrow, cmrow_len, Try.ntmps5, reduceIte, reduceCtorEq, Nat.reduceAdd, Nat.reduceEqDiff, Nat.reduceLT, Nat.reduceLeDiff, Nat.reduceSub, Nat.reduceMul, Nat.reduceBEq, Int.reduceToNat, Int.reduceLE, Int.reduceLT, Int.reducePow]; done) | (simp only [go_sem, kn5, filesF, aliveF, encF, fewF, decF, allF, same7F, bigV_tup, encV_tup, decV_tup, unf_fdrow, unbg_bgrow, cmrow_len, Try.ntmps5, reduceIte, reduceCtorEq, Nat.reduceAdd, Nat.reduceEqDiff, Nat.reduceLT, Nat.reduceLeDiff, Nat.reduceSub, Nat.reduceMul, Nat.reduceBEq, Int.reduceToNat, Int.reduceLE, Int.reduceLT, Int.reducePow]; omega)
              case k19 => simp only [go_sem, kn5, filesF, aliveF, encF, fewF, decF, allF, same7F, bigV_tup, encV_tup, decV_tup, unf_fdrow, unbg_bgrow, cmrow_len, Try.ntmps5, reduceIte, reduceCtorEq, Nat.reduceAdd, Nat.reduceEqDiff, Nat.reduceLT, Nat.reduceLeDiff, Nat.reduceSub, Nat.reduceMul, Nat.reduceBEq, Int.reduceToNat, Int.reduceLE, Int.reduceLT, Int.reducePow]; rfl
              refine AWp.cond (b := ?b20) ?c20 ?t20 ?f20
              case c20 => simp only [go_sem, kn5, filesF, aliveF, encF, fewF, decF, allF, same7F, bigV_tup, encV_tup, decV_tup, unf_fdrow, unbg_bgrow, cmrow_len, Try.ntmps5, reduceIte, reduceCtorEq, Nat.reduceAdd, Nat.reduceEqDiff, Nat.reduceLT, Nat.reduceLeDiff, Nat.reduceSub, Nat.reduceMul, Nat.reduceBEq, Int.reduceToNat, Int.reduceLE, Int.reduceLT, Int.reducePow]; rfl
              case t20 =>
                intro hb5
                exfalso; simp [fdrow] at hb5
              case f20 =>
                intro hb5
                refine AWp.skip ?_
                refine AWp.reg (S1 := ?S21) (ob := ?o21) (S' := ?K21) tab_ok (knowL_ok kn5_ok) mixed [10, 16] ?r21 ?h21 ?k21 ?w21
                case r21 => simp only [go_sem, kn5, filesF, aliveF, encF, fewF, decF, allF, same7F, bigV_tup, encV_tup, decV_tup, unf_fdrow, unbg_bgrow, cmrow_len, Try.ntmps5, reduceIte, reduceCtorEq, Nat.reduceAdd, Nat.reduceEqDiff, Nat.reduceLT, Nat.reduceLeDiff, Nat.reduceSub, Nat.reduceMul, Nat.reduceBEq, Int.reduceToNat, Int.reduceLE, Int.reduceLT, Int.reducePow]; rfl
                case h21 => first | exact True.intro | omega | (simp only [go_sem, kn5, filesF, aliveF, encF, fewF, decF, allF, same7F, bigV_tup, encV_tup, decV_tup, unf_fdrow, unbg_bgrow, cmrow_len, Try.ntmps5, reduceIte, reduceCtorEq, Nat.reduceAdd, Nat.reduceEqDiff, Nat.reduceLT, Nat.reduceLeDiff, Nat.reduceSub, Nat.reduceMul, Nat.reduceBEq, Int.reduceToNat, Int.reduceLE, Int.reduceLT, Int.reducePow]; done) | (simp only [go_sem, kn5, filesF, aliveF, encF, fewF, decF, allF, same7F, bigV_tup, encV_tup, decV_tup, unf_fdrow, unbg_bgrow, cmrow_len, Try.ntmps5, reduceIte, reduceCtorEq, Nat.reduceAdd, Nat.reduceEqDiff, Nat.reduceLT, Nat.reduceLeDiff, Nat.reduceSub, Nat.reduceMul, Nat.reduceBEq, Int.reduceToNat, Int.reduceLE, Int.reduceLT, Int.reducePow]; omega)
                case k21 => simp only [go_sem, kn5, filesF, aliveF, encF, fewF, decF, allF, same7F, bigV_tup, encV_tup, decV_tup, unf_fdrow, unbg_bgrow, cmrow_len, Try.ntmps5, reduceIte, reduceCtorEq, Nat.reduceAdd, Nat.reduceEqDiff, Nat.reduceLT, Nat.reduceLeDiff, Nat.reduceSub, Nat.reduceMul, Nat.reduceBEq, Int.reduceToNat, Int.reduceLE, Int.reduceLT, Int.reducePow]; rfl
                refine ⟨nP (bytesL (bigs bl)) - (i + 1), ⟨[(10, .one (dv (.slice none 1 (enR n (bigs bl))))), (16, .one (dv (.int .i64 (((i + 1) : Nat) : Int))))], [], 4⟩, by omega, ?_, i + 1, by omega, rfl, rfl⟩
                exact Conv.rename id (by simp; done) (by simp; done) (by simp [lookN, AVal.ren, AV.ren, Sc.ren, AVal.ids, AV.ids, Sc.ids]; done) (by simp; done) (by simp; done)
            case f17 =>
              intro hb4
              refine AWp.exit ?_
              refine thenA_exit ?_
              refine thenA_exit ?_
              refine inB_eq ?_
              refine AWp.seq ?_
              refine AWp.reg (S1 := ?S22) (ob := ?o22) (S' := ?K22) tab_ok (knowL_ok kn5_ok) mixed [6] ?r22 ?h22 ?k22 ?w22
              case r22 => simp only [go_sem, kn5, filesF, aliveF, encF, fewF, decF, allF, same7F, bigV_tup, encV_tup, decV_tup, unf_fdrow, unbg_bgrow, cmrow_len, Try.ntmps5, reduceIte, reduceCtorEq, Nat.reduceAdd, Nat.reduceEqDiff, Nat.reduceLT, Nat.reduceLeDiff, Nat.reduceSub, Nat.reduceMul, Nat.reduceBEq, Int.reduceToNat, Int.reduceLE, Int.reduceLT, Int.reducePow, hall, hall2]; rfl
              case h22 =>
                exact ⟨.inr trivial, hDa⟩
              case k22 => simp only [go_sem, kn5, filesF, aliveF, encF, fewF, decF, allF, same7F, bigV_tup, encV_tup, decV_tup, unf_fdrow, unbg_bgrow, cmrow_len, Try.ntmps5, reduceIte, reduceCtorEq, Nat.reduceAdd, Nat.reduceEqDiff, Nat.reduceLT, Nat.reduceLeDiff, Nat.reduceSub, Nat.reduceMul, Nat.reduceBEq, Int.reduceToNat, Int.reduceLE, Int.reduceLT, Int.reducePow]; rfl
              refine AWp.ret ?_
              refine ends_p (vs := ?vs3) (ob := ?ro3) (vs' := ?ws3) (ks := ?ks3) (ob2 := ?rp3) tab_ok (by simp) ?er3 ?eo3 ?ef3 ?eg3 ?en3 ?ek3 ?ev3
              case er3 => simp only [go_sem, kn5, filesF, aliveF, encF, fewF, decF, allF, same7F, bigV_tup, encV_tup, decV_tup, unf_fdrow, unbg_bgrow, cmrow_len, Try.ntmps5, reduceIte, reduceCtorEq, Nat.reduceAdd, Nat.reduceEqDiff, Nat.reduceLT, Nat.reduceLeDiff, Nat.reduceSub, Nat.reduceMul, Nat.reduceBEq, Int.reduceToNat, Int.reduceLE, Int.reduceLT, Int.reducePow, Try.results5]; rfl
              case eo3 => first | exact True.intro | simp only [go_sem, kn5, filesF, aliveF, encF, fewF, decF, allF, same7F, bigV_tup, encV_tup, decV_tup, unf_fdrow, unbg_bgrow, cmrow_len, Try.ntmps5, reduceIte, reduceCtorEq, Nat.reduceAdd, Nat.reduceEqDiff, Nat.reduceLT, Nat.reduceLeDiff, Nat.reduceSub, Nat.reduceMul, Nat.reduceBEq, Int.reduceToNat, Int.reduceLE, Int.reduceLT, Int.reducePow]
              case ef3 => simp only [go_sem, kn5, filesF, aliveF, encF, fewF, decF, allF, same7F, bigV_tup, encV_tup, decV_tup, unf_fdrow, unbg_bgrow, cmrow_len, Try.ntmps5, reduceIte, reduceCtorEq, Nat.reduceAdd, Nat.reduceEqDiff, Nat.reduceLT, Nat.reduceLeDiff, Nat.reduceSub, Nat.reduceMul, Nat.reduceBEq, Int.reduceToNat, Int.reduceLE, Int.reduceLT, Int.reducePow]; rfl
              case eg3 => first | exact True.intro | simp only [go_sem, kn5, filesF, aliveF, encF, fewF, decF, allF, same7F, bigV_tup, encV_tup, decV_tup, unf_fdrow, unbg_bgrow, cmrow_len, Try.ntmps5, reduceIte, reduceCtorEq, Nat.reduceAdd, Nat.reduceEqDiff, Nat.reduceLT, Nat.reduceLeDiff, Nat.reduceSub, Nat.reduceMul, Nat.reduceBEq, Int.reduceToNat, Int.reduceLE, Int.reduceLT, Int.reducePow]
              case en3 => simp only [go_sem, kn5, filesF, aliveF, encF, fewF, decF, allF, same7F, bigV_tup, encV_tup, decV_tup, unf_fdrow, unbg_bgrow, cmrow_len, Try.ntmps5, reduceIte, reduceCtorEq, Nat.reduceAdd, Nat.reduceEqDiff, Nat.reduceLT, Nat.reduceLeDiff, Nat.reduceSub, Nat.reduceMul, Nat.reduceBEq, Int.reduceToNat, Int.reduceLE, Int.reduceLT, Int.reducePow]
              case ek3 => simp only [go_sem, kn5, filesF, aliveF, encF, fewF, decF, allF, same7F, bigV_tup, encV_tup, decV_tup, unf_fdrow, unbg_bgrow, cmrow_len, Try.ntmps5, reduceIte, reduceCtorEq, Nat.reduceAdd, Nat.reduceEqDiff, Nat.reduceLT, Nat.reduceLeDiff, Nat.reduceSub, Nat.reduceMul, Nat.reduceBEq, Int.reduceToNat, Int.reduceLE, Int.reduceLT, Int.reducePow]
              case ev3 =>
                first | rfl | simp only [go_sem, kn5, filesF, aliveF, encF, fewF, decF, allF, same7F, bigV_tup, encV_tup, decV_tup, unf_fdrow, unbg_bgrow, cmrow_len, Try.ntmps5, reduceIte, reduceCtorEq, Nat.reduceAdd, Nat.reduceEqDiff, Nat.reduceLT, Nat.reduceLeDiff, Nat.reduceSub, Nat.reduceMul, Nat.reduceBEq, Int.reduceToNat, Int.reduceLE, Int.reduceLT, Int.reducePow]
  · cases hq

end Go.Proofs.Hg

/- What is decoded, encoded again, is the records that it came from: the plain law. -/
set_option linter.unusedSimpArgs false
set_option linter.unusedVariables false
namespace Go.Proofs.Hg
open Go.RowKit
set_option maxRecDepth 100000

theorem u8_byte (c : UInt8) (m : Nat) : u8 (((c.toNat + 256 * m : Nat)) : Int) = c := by
  have h := u8_int ((c.toNat + 256 * m : Nat) : Int)
  have hc := c.toNat_lt
  apply UInt8.toNat_inj.1
  omega
theorem lowB_numU : ∀ s : List UInt8, lowB (numU s : Int) s.length = s
  | [] => rfl
  | c :: t => by
    rw [List.length_cons, lowB_cons]
    have hc := c.toNat_lt
    have e : (numU (c :: t) : Int) / 256 = (numU t : Int) := by simp only [numU]; omega
    rw [e, lowB_numU t]
    congr 1
    exact u8_byte c _
theorem lowB_two {s : List UInt8} (h : s.length = 2) : lowB (numU s : Int) 2 = s := by
  have := lowB_numU s
  rw [h] at this
  exact this
theorem lowB_numI {s : List UInt8} {k : Nat} (hk : s.length = k) (h8 : k ≤ 8) (h0 : 0 ≤ numI s) : lowB (numI s) k = s := by
  have hm := numU_max (s := s) (by omega)
  have e : numI s = (numU s : Int) := by
    unfold numI at h0 ⊢
    by_cases h : numU s ≤ 9223372036854775807
    · exact IntWalk.i64_in _ ⟨by omega, by omega⟩
    · exfalso
      rw [IntKind.wrap_i64] at h0
      omega
  rw [e, ← hk]
  exact lowB_numU s

theorem fileB_rf {t : List UInt8} (h1 : 13 + rfN t ≤ t.length) (h2 : 13 + (rfN t : Int) + rfSz t ≤ t.length) (hv : 0 ≤ (rfFile t).2.1) : fileB (rfFile t) ++ t.drop (13 + rfN t + (rfSz t).toNat) = t := by
  have hs := rfSz_rng t
  have lp : (rfFile t).1.length = rfN t := by
    show ((t.drop 1).take (rfN t)).length = _
    rw [List.length_take, List.length_drop]; omega
  have lc : (rfFile t).2.2.length = (rfSz t).toNat := by
    show ((t.drop (13 + rfN t)).take (rfSz t).toNat).length = _
    rw [List.length_take, List.length_drop]; omega
  have e8 : lowB (rfFile t).2.1 8 = (t.drop (1 + rfN t)).take 8 := lowB_numI (by rw [List.length_take, List.length_drop]; omega) (by omega) hv
  have e4 : lowB ((rfFile t).2.2.length : Int) 4 = (t.drop (9 + rfN t)).take 4 := by
    rw [lc, Int.toNat_of_nonneg hs.1]
    exact lowB_numI (by rw [List.length_take, List.length_drop]; omega) (by omega) hs.1
  have ec : u8 ((rfFile t).1.length : Int) = t.getD 0 0 := by
    rw [lp]
    have := u8_byte (t.getD 0 0) 0
    simpa [rfN] using this
  obtain ⟨c, t', rfl⟩ : ∃ c t', t = c :: t' := by cases t with
    | nil => simp at h1
    | cons c t' => exact ⟨c, t', rfl⟩
  have e : fileB (rfFile (c :: t')) = [c] ++ (((c :: t').drop 1).take (rfN (c :: t')) ++ (((c :: t').drop (1 + rfN (c :: t'))).take 8 ++ (((c :: t').drop (9 + rfN (c :: t'))).take 4 ++ ((c :: t').drop (13 + rfN (c :: t'))).take (rfSz (c :: t')).toNat))) := by
    unfold fileB
    rw [ec, e8, e4]
    rfl
  rw [e]
  have a4 := List.take_append_drop (rfSz (c :: t')).toNat ((c :: t').drop (13 + rfN (c :: t')))
  have a3 := List.take_append_drop 4 ((c :: t').drop (9 + rfN (c :: t')))
  have a2 := List.take_append_drop 8 ((c :: t').drop (1 + rfN (c :: t')))
  have a1 := List.take_append_drop (rfN (c :: t')) ((c :: t').drop 1)
  rw [List.drop_drop] at a1 a2 a3 a4
  rw [show 9 + rfN (c :: t') + 4 = 13 + rfN (c :: t') by omega] at a3
  rw [show 1 + rfN (c :: t') + 8 = 9 + rfN (c :: t') by omega] at a2
  simp only [List.append_assoc]
  rw [a4, a3, a2, a1]
  rfl
theorem files_only : ∀ (n : Nat) (t : List UInt8) (fs : List FileL), t.length ≤ n → (filesP n (true, t) fs).1.1 = true → ∃ l, (filesP n (true, t) fs).2 = fs ++ l ∧ ((∀ f ∈ l, 0 ≤ f.2.1) → bytesL l = t)
  | 0, t, fs, h, _ => ⟨[], by simp [filesP], fun _ => by rw [List.eq_nil_of_length_eq_zero (Nat.le_zero.1 h)]; rfl⟩
  | n + 1, t, fs, h, hk => by
    by_cases h0 : t.length = 0
    · have e : filesP (n + 1) (true, t) fs = ((true, t), fs) := by simp [filesP, h0]
      exact ⟨[], by rw [e]; simp, fun _ => by rw [List.eq_nil_of_length_eq_zero h0]; rfl⟩
    · have e : filesP (n + 1) (true, t) fs = filesP n (p5 (true, t)) (fs ++ [pFile (true, t)]) := by
        rw [filesP, if_pos ⟨rfl, by show 0 < t.length; omega⟩]
      rw [e] at hk ⊢
      rcases step_all (t := t) (by omega) with ⟨a1, a2, a3, a4⟩ | ⟨a1, a2⟩
      · rw [a3, a4] at hk ⊢
        obtain ⟨l, q1, q2⟩ := files_only n _ _ (by rw [List.length_drop]; omega) hk
        refine ⟨rfFile t :: l, by rw [q1, List.append_assoc]; rfl, fun hv => ?_⟩
        have := q2 fun f hf => hv f (List.mem_cons_of_mem _ hf)
        show fileB (rfFile t) ++ bytesL l = t
        rw [this]
        exact fileB_rf a1 a2 (hv _ (List.mem_cons_self ..))
      · rw [filesP_off _ _ _ a2, a2] at hk
        cases hk
theorem filesEnd_only {s : List UInt8} {m : Int} (h : (filesEnd s).1.1 = true) (hr : rightL m (filesEnd s).2 = true) : bytesL (filesEnd s).2 = s := by
  obtain ⟨l, q1, q2⟩ := files_only s.length s [] (Nat.le_refl _) h
  have e : (filesEnd s).2 = l := q1
  rw [e] at hr ⊢
  exact q2 fun f hf => ((rightL_in hr).2.2.2 f hf).2.1

/-! ### records -/
theorem fit_parts {L : List (List UInt8)} {i : Nat} (h : dFit L i = true) : 12 ≤ (L.getD i []).length ∧ (L.getD i []).take 8 = (dF L).take 8 ∧ (numU (((L.getD i []).drop 8).take 2) : Int) = i ∧ (numU (((L.getD i []).drop 10).take 2) : Int) = dN L ∧
    (((L.getD i []).drop 12).length = 4000 ∨ ((i : Int) = dN L - 1 ∧ ((L.getD i []).drop 12).length ≤ 4000 ∧ (0 < ((L.getD i []).drop 12).length ∨ dN L = 1))) := by
  simp only [dFit, hdB, szB, Bool.and_eq_true, Bool.not_eq_true', Bool.or_eq_false_iff, Bool.or_eq_true, decide_eq_true_eq, decide_eq_false_iff_not, Bool.not_eq_false'] at h
  obtain ⟨⟨⟨⟨h1, h2⟩, h3⟩, h4⟩, h5⟩ := h
  refine ⟨by omega, h2, h3, h4, ?_⟩
  rw [List.length_drop]
  omega
theorem dec_only {L : List (List UInt8)} (h : dErr L = 0) : recs (dM L) (dEnd L).2 = L.take (dN L).toNat := by
  obtain ⟨h1, h2, h3, h4, h5, h6, h7, h8⟩ := dErr_zero h
  have hc : dCnt L = (dN L).toNat := by unfold dCnt; omega
  have hB : bytesL (dEnd L).2 = dBody L (dN L).toNat := by
    have := filesEnd_only (s := dBody L (dCnt L)) (m := dM L) h7 h8
    rw [hc] at this
    unfold dEnd
    rw [hc]
    exact this
  rw [hc, List.all_eq_true] at h6
  have hfit : ∀ i, i < (dN L).toNat → dFit L i = true := fun i hi => h6 i (by simpa using hi)
  generalize hN : (dN L).toNat = N at *
  have hNi : dN L = (N : Int) := by omega
  -- the bodies' lengths
  have hlen : ∀ i, i < N → (dBody L i).length = 4000 * i := fun i => by
    induction i with
    | zero => intro _; simp [dBody]
    | succ i ih =>
      intro hi
      have p := (fit_parts (hfit i (by omega))).2.2.2.2
      rw [dBody_succ (by omega), List.length_append, ih (by omega)]
      omega
  have hpre : ∀ k i, i + k = N → ∃ r, dBody L N = dBody L i ++ r ∧ (k = 0 → r = []) := fun k => by
    induction k with
    | zero => intro i hi; have : i = N := by omega
              subst this; exact ⟨[], by simp, fun _ => rfl⟩
    | succ k ih =>
      intro i hi
      obtain ⟨r, q1, _⟩ := ih (i + 1) (by omega)
      exact ⟨(L.getD i []).drop 12 ++ r, by rw [q1, dBody_succ (by omega), List.append_assoc], fun h => by omega⟩
  have hlast := fit_parts (hfit (N - 1) (by omega))
  have hBl : (dBody L N).length = 4000 * (N - 1) + ((L.getD (N - 1) []).drop 12).length := by
    have e : N = N - 1 + 1 := by omega
    conv => lhs; rw [e]
    rw [dBody_succ (by omega), List.length_append, hlen (N - 1) (by omega)]
  have hnP : nP (bytesL (dEnd L).2) = N := by
    rw [hB]
    unfold nP nChunks
    have p := hlast.2.2.2.2
    rw [hBl]
    split <;> omega
  have hchunk : ∀ i, i < N → chunkAt 4000 (dBody L N) i = (L.getD i []).drop 12 := fun i hi => by
    obtain ⟨r, q1, q2⟩ := hpre (N - (i + 1)) (i + 1) (by omega)
    have p := (fit_parts (hfit i hi)).2.2.2.2
    unfold chunkAt
    rw [q1, dBody_succ (by omega), List.append_assoc, drop_app (hlen i hi)]
    by_cases hlt : i + 1 < N
    · exact take_app (by omega)
    · rw [q2 (by omega), List.append_nil, List.take_of_length_le (by omega)]
  unfold recs
  rw [hnP, hB]
  apply List.ext_getElem
  · simp; omega
  · intro i g1 g2
    have hi : i < N := by simpa using g1
    obtain ⟨p1, p2, p3, p4, p5⟩ := fit_parts (hfit i hi)
    have e : (L.take N)[i] = L.getD i [] := by rw [getD_lt (by omega)]; simp
    rw [e, List.getElem_map, List.getElem_range]
    unfold recB
    rw [hchunk i hi]
    have hM : 0 ≤ dM L := (rightL_in h8).1
    have e8 : lowB (dM L) 8 = (L.getD i []).take 8 := by
      rw [p2]
      exact lowB_numI (by rw [List.length_take]; omega) (by omega) hM
    have e2 : lowB (i : Int) 2 = ((L.getD i []).drop 8).take 2 := by
      rw [← p3]
      have hl : (((L.getD i []).drop 8).take 2).length = 2 := by rw [List.length_take, List.length_drop]; omega
      exact lowB_two hl
    have e3 : lowB ((N : Nat) : Int) 2 = ((L.getD i []).drop 10).take 2 := by
      rw [← hNi, ← p4]
      have hl : (((L.getD i []).drop 10).take 2).length = 2 := by rw [List.length_take, List.length_drop]; omega
      exact lowB_two hl
    rw [e8, e2, e3]
    have a1 := List.take_append_drop 8 (L.getD i [])
    have a2 := List.take_append_drop 2 ((L.getD i []).drop 8)
    have a3 := List.take_append_drop 2 ((L.getD i []).drop 10)
    rw [List.drop_drop] at a2 a3
    rw [a3, a2, a1]
def encAll (cs : List CommL) : List (List UInt8) := cs.flatMap fun c => recs c.1 c.2
theorem all_only : ∀ (n : Nat) (L : List (List UInt8)), L.length ≤ n → (∀ c ∈ allL L, rightL c.1 c.2 = true) ∧ encAll (allL L) = L.take (encAll (allL L)).length ∧ (encAll (allL L)).length ≤ L.length ∧ ¬ dErr (L.drop (encAll (allL L)).length) = 0 := by
  intro n
  induction n with
  | zero =>
    intro L h
    have hE : ¬ dErr L = 0 := by rw [dErr_nil (Nat.le_zero.1 h)]; decide
    rw [allL_stop hE]
    exact ⟨fun c hc => by simp at hc, rfl, by simp [encAll], by simpa [encAll] using hE⟩
  | succ n ih =>
    intro L h
    by_cases hE : dErr L = 0
    · obtain ⟨h1, h2, h3, h4, h5, h6, h7, h8⟩ := dErr_zero hE
      obtain ⟨i1, i2, i3, i4⟩ := ih (L.drop (dN L).toNat) (by rw [List.length_drop]; omega)
      have hd := dec_only hE
      rw [allL_step hE]
      have e : encAll ((dM L, (dEnd L).2) :: allL (L.drop (dN L).toNat)) = L.take (dN L).toNat ++ encAll (allL (L.drop (dN L).toNat)) := by
        show recs (dM L) (dEnd L).2 ++ _ = _
        rw [hd]; rfl
      have hl : (L.take (dN L).toNat).length = (dN L).toNat := by rw [List.length_take]; omega
      rw [e, List.length_append, hl]
      rw [List.length_drop] at i3
      refine ⟨fun c hc => ?_, ?_, by omega, ?_⟩
      · rcases List.mem_cons.1 hc with rfl | hc
        · exact h8
        · exact i1 c hc
      · rw [List.take_add, ← i2]
      · rw [← List.drop_drop]; exact i4
    · rw [allL_stop hE]
      exact ⟨fun c hc => by simp at hc, rfl, by simp [encAll], by simpa [encAll] using hE⟩
end Go.Proofs.Hg

set_option linter.unusedSimpArgs false
set_option linter.unusedVariables false
set_option maxHeartbeats 4000000
namespace Go.Proofs.Hg
open Go.RowKit
set_option maxRecDepth 100000
def outR (cs : List CommL) : List (List D) := cs.flatMap fun c => recR c.1 (nP (bytesL c.2)) (bytesL c.2) (nP (bytesL c.2))
theorem rowsB_out (cs : List CommL) : rowsB (outR cs) = encAll cs := by
  induction cs with
  | nil => rfl
  | cons c cs ih =>
    show rowsB (recR c.1 (nP (bytesL c.2)) (bytesL c.2) (nP (bytesL c.2)) ++ outR cs) = recs c.1 c.2 ++ encAll cs
    rw [rowsB_app, rows_recs, ih]
theorem outR_succ {cs : List CommL} {i : Nat} (h : i < cs.length) : outR (cs.take (i + 1)) = outR (cs.take i) ++ recR (cs.getD i (0, [])).1 (nP (bytesL (cs.getD i (0, [])).2)) (bytesL (cs.getD i (0, [])).2) (nP (bytesL (cs.getD i (0, [])).2)) := by
  rw [take_one (by omega) (0, []), outR, List.flatMap_append]
  simp [outR]
theorem outR_ok (cs : List CommL) : RowsOk (outR cs) := by
  intro r hr
  obtain ⟨c, _, hr⟩ := List.mem_flatMap.1 hr
  exact recR_ok _ _ _ _ r hr
theorem outR_len {cs : List CommL} (h : ∀ c ∈ cs, rightL c.1 c.2 = true) : ∀ i, (outR (cs.take i)).length ≤ 16789 * i
  | 0 => by simp [outR]
  | i + 1 => by
    have ih := outR_len h i
    by_cases hi : i < cs.length
    · have hr := h (cs.getD i (0, [])) (by rw [getD_lt hi]; exact List.getElem_mem _)
      have hN := nChunks_le (bytesL_len (rightL_in hr).2.2)
      rw [outR_succ hi, List.length_append, recR_len]
      unfold nP
      split <;> omega
    · rw [List.take_of_length_le (by omega)] at ih ⊢
      omega
theorem RowsOk.take {es : List (List D)} (h : RowsOk es) (a : Nat) : RowsOk (es.take a) := fun r hr => h r (List.mem_of_mem_take hr)
def onlyF : List AV → Option (AVal × Prop)
  | [.s (.d (.slice z e es))] => some (.one (dv (.bool true)), e = 1 ∧ RowsOk es)
  | _ => none
def kn6 : List (Nat × Cont) := [(9, pureK aliveF), (10, pureK encF), (13, pureK fewF), (14, pureK decF), (16, pureK allF), (18, pureK same4F)]
theorem kn6_ok : ∀ p ∈ kn6, ContOk Try.prog p.1 p.2 := by
  intro p hp
  simp only [kn6, List.mem_cons, List.not_mem_nil, or_false] at hp
  rcases hp with rfl | rfl | rfl | rfl | rfl | rfl
  · exact aliveF_ok
  · exact encF_ok
  · exact fewF_ok
  · exact decF_ok
  · exact allF_ok
  · exact same4F_ok
theorem onlyF_ok : ContOk Try.prog 6 (pureK onlyF) := by
  refine pure_ok (nargs := 1) Try.func6 rfl (by kernel_rfl) (Nat.le_of_ble_eq_true (by kernel_rfl)) ?_
  intro args q hq hob
  unfold onlyF at hq
  split at hq
  · rename_i z e es
    injection hq with hq
    subst hq
    obtain ⟨h1, h2⟩ : e = 1 ∧ RowsOk es := hob
    subst h1
    have hrl := rowsB_len es
    refine ⟨rfl, by simp [AV.ids, Sc.ids], by simp [AVal.ids, AV.ids, Sc.ids], by simp, ?_⟩
    refine AWp.seq ?_
    refine AWp.reg (S1 := ?S1) (ob := ?o1) (S' := ?K1) tab_ok (knowL_ok kn6_ok) mixed [0] ?r1 ?h1 ?k1 ?w1
    case r1 => simp only [go_sem, kn6, aliveF, encF, fewF, decF, allF, same4F, encV_tup, decV_tup, unf_fdrow, cmrow_len, Try.ntmps6, reduceIte, reduceCtorEq, Nat.reduceAdd, Nat.reduceEqDiff, Nat.reduceLT, Nat.reduceLeDiff, Nat.reduceSub, Nat.reduceMul, Nat.reduceBEq, Int.reduceToNat, Int.reduceLE, Int.reduceLT, Int.reducePow]; rfl
    case h1 => first | exact True.intro | omega | (simp only [go_sem, kn6, aliveF, encF, fewF, decF, allF, same4F, encV_tup, decV_tup, unf_fdrow, cmrow_len, Try.ntmps6, reduceIte, reduceCtorEq, Nat.reduceAdd, Nat.reduceEqDiff, Nat.reduceLT, Nat.reduceLeDiff, Nat.reduceSub, Nat.reduceMul, Nat.reduceBEq, Int.reduceToNat, Int.reduceLE, Int.reduceLT, Int.reducePow]; done) | (simp only [go_sem, kn6, aliveF, encF, fewF, decF, allF, same4F, encV_tup, decV_tup, unf_fdrow, cmrow_len, Try.ntmps6, reduceIte, reduceCtorEq, Nat.reduceAdd, Nat.reduceEqDiff, Nat.reduceLT, Nat.reduceLeDiff, Nat.reduceSub, Nat.reduceMul, Nat.reduceBEq, Int.reduceToNat, Int.reduceLE, Int.reduceLT, Int.reducePow]; omega)
    case k1 => simp only [go_sem, kn6, aliveF, encF, fewF, decF, allF, same4F, encV_tup, decV_tup, unf_fdrow, cmrow_len, Try.ntmps6, reduceIte, reduceCtorEq, Nat.reduceAdd, Nat.reduceEqDiff, Nat.reduceLT, Nat.reduceLeDiff, Nat.reduceSub, Nat.reduceMul, Nat.reduceBEq, Int.reduceToNat, Int.reduceLE, Int.reduceLT, Int.reducePow]; rfl
    refine AWp.seq ?_
    refine AWp.reg (S1 := ?S2) (ob := ?o2) (S' := ?K2) tab_ok (knowL_ok kn6_ok) mixed [0, 3] ?r2 ?h2 ?k2 ?w2
    case r2 => simp only [go_sem, kn6, aliveF, encF, fewF, decF, allF, same4F, encV_tup, decV_tup, unf_fdrow, cmrow_len, Try.ntmps6, reduceIte, reduceCtorEq, Nat.reduceAdd, Nat.reduceEqDiff, Nat.reduceLT, Nat.reduceLeDiff, Nat.reduceSub, Nat.reduceMul, Nat.reduceBEq, Int.reduceToNat, Int.reduceLE, Int.reduceLT, Int.reducePow]; rfl
    case h2 =>
      exact ⟨.inr trivial, h2⟩
    case k2 => simp only [go_sem, kn6, aliveF, encF, fewF, decF, allF, same4F, encV_tup, decV_tup, unf_fdrow, cmrow_len, Try.ntmps6, reduceIte, reduceCtorEq, Nat.reduceAdd, Nat.reduceEqDiff, Nat.reduceLT, Nat.reduceLeDiff, Nat.reduceSub, Nat.reduceMul, Nat.reduceBEq, Int.reduceToNat, Int.reduceLE, Int.reduceLT, Int.reducePow]; rfl
    refine AWp.seq ?_
    refine AWp.seq ?_
    refine AWp.reg (S1 := ?S3) (ob := ?o3) (S' := ?K3) tab_ok (knowL_ok kn6_ok) mixed [0, 16] ?r3 ?h3 ?k3 ?w3
    case r3 => simp only [go_sem, kn6, aliveF, encF, fewF, decF, allF, same4F, encV_tup, decV_tup, unf_fdrow, cmrow_len, Try.ntmps6, reduceIte, reduceCtorEq, Nat.reduceAdd, Nat.reduceEqDiff, Nat.reduceLT, Nat.reduceLeDiff, Nat.reduceSub, Nat.reduceMul, Nat.reduceBEq, Int.reduceToNat, Int.reduceLE, Int.reduceLT, Int.reducePow]; rfl
    case h3 => first | exact True.intro | omega | (simp only [go_sem, kn6, aliveF, encF, fewF, decF, allF, same4F, encV_tup, decV_tup, unf_fdrow, cmrow_len, Try.ntmps6, reduceIte, reduceCtorEq, Nat.reduceAdd, Nat.reduceEqDiff, Nat.reduceLT, Nat.reduceLeDiff, Nat.reduceSub, Nat.reduceMul, Nat.reduceBEq, Int.reduceToNat, Int.reduceLE, Int.reduceLT, Int.reducePow]; done) | (simp only [go_sem, kn6, aliveF, encF, fewF, decF, allF, same4F, encV_tup, decV_tup, unf_fdrow, cmrow_len, Try.ntmps6, reduceIte, reduceCtorEq, Nat.reduceAdd, Nat.reduceEqDiff, Nat.reduceLT, Nat.reduceLeDiff, Nat.reduceSub, Nat.reduceMul, Nat.reduceBEq, Int.reduceToNat, Int.reduceLE, Int.reduceLT, Int.reducePow]; omega)
    case k3 => simp only [go_sem, kn6, aliveF, encF, fewF, decF, allF, same4F, encV_tup, decV_tup, unf_fdrow, cmrow_len, Try.ntmps6, reduceIte, reduceCtorEq, Nat.reduceAdd, Nat.reduceEqDiff, Nat.reduceLT, Nat.reduceLeDiff, Nat.reduceSub, Nat.reduceMul, Nat.reduceBEq, Int.reduceToNat, Int.reduceLE, Int.reduceLT, Int.reducePow]; rfl
    refine AWp.cond (b := ?b4) ?c4 ?t4 ?f4
    case c4 => simp only [go_sem, kn6, aliveF, encF, fewF, decF, allF, same4F, encV_tup, decV_tup, unf_fdrow, cmrow_len, Try.ntmps6, reduceIte, reduceCtorEq, Nat.reduceAdd, Nat.reduceEqDiff, Nat.reduceLT, Nat.reduceLeDiff, Nat.reduceSub, Nat.reduceMul, Nat.reduceBEq, Int.reduceToNat, Int.reduceLE, Int.reduceLT, Int.reducePow]; rfl
    case t4 =>
      intro hb1
      refine AWp.seq ?_
      refine AWp.reg (S1 := ?S5) (ob := ?o5) (S' := ?K5) tab_ok (knowL_ok kn6_ok) mixed [2] ?r5 ?h5 ?k5 ?w5
      case r5 => simp only [go_sem, kn6, aliveF, encF, fewF, decF, allF, same4F, encV_tup, decV_tup, unf_fdrow, cmrow_len, Try.ntmps6, reduceIte, reduceCtorEq, Nat.reduceAdd, Nat.reduceEqDiff, Nat.reduceLT, Nat.reduceLeDiff, Nat.reduceSub, Nat.reduceMul, Nat.reduceBEq, Int.reduceToNat, Int.reduceLE, Int.reduceLT, Int.reducePow]; rfl
      case h5 => first | exact True.intro | omega | (simp only [go_sem, kn6, aliveF, encF, fewF, decF, allF, same4F, encV_tup, decV_tup, unf_fdrow, cmrow_len, Try.ntmps6, reduceIte, reduceCtorEq, Nat.reduceAdd, Nat.reduceEqDiff, Nat.reduceLT, Nat.reduceLeDiff, Nat.reduceSub, Nat.reduceMul, Nat.reduceBEq, Int.reduceToNat, Int.reduceLE, Int.reduceLT, Int.reducePow]; done) | (simp only [go_sem, kn6, aliveF, encF, fewF, decF, allF, same4F, encV_tup, decV_tup, unf_fdrow, cmrow_len, Try.ntmps6, reduceIte, reduceCtorEq, Nat.reduceAdd, Nat.reduceEqDiff, Nat.reduceLT, Nat.reduceLeDiff, Nat.reduceSub, Nat.reduceMul, Nat.reduceBEq, Int.reduceToNat, Int.reduceLE, Int.reduceLT, Int.reducePow]; omega)
      case k5 => simp only [go_sem, kn6, aliveF, encF, fewF, decF, allF, same4F, encV_tup, decV_tup, unf_fdrow, cmrow_len, Try.ntmps6, reduceIte, reduceCtorEq, Nat.reduceAdd, Nat.reduceEqDiff, Nat.reduceLT, Nat.reduceLeDiff, Nat.reduceSub, Nat.reduceMul, Nat.reduceBEq, Int.reduceToNat, Int.reduceLE, Int.reduceLT, Int.reducePow]; rfl
      refine AWp.ret ?_
      refine ends_p (vs := ?vs1) (ob := ?ro1) (vs' := ?ws1) (ks := ?ks1) (ob2 := ?rp1) tab_ok (by simp) ?er1 ?eo1 ?ef1 ?eg1 ?en1 ?ek1 ?ev1
      case er1 => simp only [go_sem, kn6, aliveF, encF, fewF, decF, allF, same4F, encV_tup, decV_tup, unf_fdrow, cmrow_len, Try.ntmps6, reduceIte, reduceCtorEq, Nat.reduceAdd, Nat.reduceEqDiff, Nat.reduceLT, Nat.reduceLeDiff, Nat.reduceSub, Nat.reduceMul, Nat.reduceBEq, Int.reduceToNat, Int.reduceLE, Int.reduceLT, Int.reducePow, Try.results6]; rfl
      case eo1 => first | exact True.intro | simp only [go_sem, kn6, aliveF, encF, fewF, decF, allF, same4F, encV_tup, decV_tup, unf_fdrow, cmrow_len, Try.ntmps6, reduceIte, reduceCtorEq, Nat.reduceAdd, Nat.reduceEqDiff, Nat.reduceLT, Nat.reduceLeDiff, Nat.reduceSub, Nat.reduceMul, Nat.reduceBEq, Int.reduceToNat, Int.reduceLE, Int.reduceLT, Int.reducePow]
      case ef1 => simp only [go_sem, kn6, aliveF, encF, fewF, decF, allF, same4F, encV_tup, decV_tup, unf_fdrow, cmrow_len, Try.ntmps6, reduceIte, reduceCtorEq, Nat.reduceAdd, Nat.reduceEqDiff, Nat.reduceLT, Nat.reduceLeDiff, Nat.reduceSub, Nat.reduceMul, Nat.reduceBEq, Int.reduceToNat, Int.reduceLE, Int.reduceLT, Int.reducePow]; rfl
      case eg1 => first | exact True.intro | simp only [go_sem, kn6, aliveF, encF, fewF, decF, allF, same4F, encV_tup, decV_tup, unf_fdrow, cmrow_len, Try.ntmps6, reduceIte, reduceCtorEq, Nat.reduceAdd, Nat.reduceEqDiff, Nat.reduceLT, Nat.reduceLeDiff, Nat.reduceSub, Nat.reduceMul, Nat.reduceBEq, Int.reduceToNat, Int.reduceLE, Int.reduceLT, Int.reducePow]
      case en1 => simp only [go_sem, kn6, aliveF, encF, fewF, decF, allF, same4F, encV_tup, decV_tup, unf_fdrow, cmrow_len, Try.ntmps6, reduceIte, reduceCtorEq, Nat.reduceAdd, Nat.reduceEqDiff, Nat.reduceLT, Nat.reduceLeDiff, Nat.reduceSub, Nat.reduceMul, Nat.reduceBEq, Int.reduceToNat, Int.reduceLE, Int.reduceLT, Int.reducePow]
      case ek1 => simp only [go_sem, kn6, aliveF, encF, fewF, decF, allF, same4F, encV_tup, decV_tup, unf_fdrow, cmrow_len, Try.ntmps6, reduceIte, reduceCtorEq, Nat.reduceAdd, Nat.reduceEqDiff, Nat.reduceLT, Nat.reduceLeDiff, Nat.reduceSub, Nat.reduceMul, Nat.reduceBEq, Int.reduceToNat, Int.reduceLE, Int.reduceLT, Int.reducePow]
      case ev1 =>
        first | rfl | simp only [go_sem, kn6, aliveF, encF, fewF, decF, allF, same4F, encV_tup, decV_tup, unf_fdrow, cmrow_len, Try.ntmps6, reduceIte, reduceCtorEq, Nat.reduceAdd, Nat.reduceEqDiff, Nat.reduceLT, Nat.reduceLeDiff, Nat.reduceSub, Nat.reduceMul, Nat.reduceBEq, Int.reduceToNat, Int.reduceLE, Int.reduceLT, Int.reducePow]
    case f4 =>
      intro hb1
      have hfew : fewOk (rowsB es) = true := by simpa using hb1
      obtain ⟨f1, f2⟩ := few_rows hfew
      have hro : RecsOk es := ⟨h2, by omega, f2⟩
      have hal := allL_len (rowsB es)
      obtain ⟨o1, o2, o3, o4⟩ := all_only (rowsB es).length (rowsB es) (Nat.le_refl _)
      have hol := outR_len o1
      refine AWp.skip ?_
      refine AWp.seq ?_
      refine AWp.reg (S1 := ?S6) (ob := ?o6) (S' := ?K6) tab_ok (knowL_ok kn6_ok) mixed [0, 4] ?r6 ?h6 ?k6 ?w6
      case r6 => simp only [go_sem, kn6, aliveF, encF, fewF, decF, allF, same4F, encV_tup, decV_tup, unf_fdrow, cmrow_len, Try.ntmps6, reduceIte, reduceCtorEq, Nat.reduceAdd, Nat.reduceEqDiff, Nat.reduceLT, Nat.reduceLeDiff, Nat.reduceSub, Nat.reduceMul, Nat.reduceBEq, Int.reduceToNat, Int.reduceLE, Int.reduceLT, Int.reducePow]; rfl
      case h6 =>
        exact ⟨.inr trivial, hro⟩
      case k6 => simp only [go_sem, kn6, aliveF, encF, fewF, decF, allF, same4F, encV_tup, decV_tup, unf_fdrow, cmrow_len, Try.ntmps6, reduceIte, reduceCtorEq, Nat.reduceAdd, Nat.reduceEqDiff, Nat.reduceLT, Nat.reduceLeDiff, Nat.reduceSub, Nat.reduceMul, Nat.reduceBEq, Int.reduceToNat, Int.reduceLE, Int.reduceLT, Int.reducePow]; rfl
      refine AWp.seq ?_
      refine AWp.reg (S1 := ?S7) (ob := ?o7) (S' := ?K7) tab_ok (knowL_ok kn6_ok) mixed [0, 4, 5] ?r7 ?h7 ?k7 ?w7
      case r7 => simp only [go_sem, kn6, aliveF, encF, fewF, decF, allF, same4F, encV_tup, decV_tup, unf_fdrow, cmrow_len, Try.ntmps6, reduceIte, reduceCtorEq, Nat.reduceAdd, Nat.reduceEqDiff, Nat.reduceLT, Nat.reduceLeDiff, Nat.reduceSub, Nat.reduceMul, Nat.reduceBEq, Int.reduceToNat, Int.reduceLE, Int.reduceLT, Int.reducePow]; rfl
      case h7 => first | exact True.intro | omega | (simp only [go_sem, kn6, aliveF, encF, fewF, decF, allF, same4F, encV_tup, decV_tup, unf_fdrow, cmrow_len, Try.ntmps6, reduceIte, reduceCtorEq, Nat.reduceAdd, Nat.reduceEqDiff, Nat.reduceLT, Nat.reduceLeDiff, Nat.reduceSub, Nat.reduceMul, Nat.reduceBEq, Int.reduceToNat, Int.reduceLE, Int.reduceLT, Int.reducePow]; done) | (simp only [go_sem, kn6, aliveF, encF, fewF, decF, allF, same4F, encV_tup, decV_tup, unf_fdrow, cmrow_len, Try.ntmps6, reduceIte, reduceCtorEq, Nat.reduceAdd, Nat.reduceEqDiff, Nat.reduceLT, Nat.reduceLeDiff, Nat.reduceSub, Nat.reduceMul, Nat.reduceBEq, Int.reduceToNat, Int.reduceLE, Int.reduceLT, Int.reducePow]; omega)
      case k7 => simp only [go_sem, kn6, aliveF, encF, fewF, decF, allF, same4F, encV_tup, decV_tup, unf_fdrow, cmrow_len, Try.ntmps6, reduceIte, reduceCtorEq, Nat.reduceAdd, Nat.reduceEqDiff, Nat.reduceLT, Nat.reduceLeDiff, Nat.reduceSub, Nat.reduceMul, Nat.reduceBEq, Int.reduceToNat, Int.reduceLE, Int.reduceLT, Int.reducePow]; rfl
      refine AWp.seq ?_
      refine AWp.seq ?_
      refine AWp.reg (S1 := ?S8) (ob := ?o8) (S' := ?K8) tab_ok (knowL_ok kn6_ok) mixed [0, 4, 5, 6] ?r8 ?h8 ?k8 ?w8
      case r8 => simp only [go_sem, kn6, aliveF, encF, fewF, decF, allF, same4F, encV_tup, decV_tup, unf_fdrow, cmrow_len, Try.ntmps6, reduceIte, reduceCtorEq, Nat.reduceAdd, Nat.reduceEqDiff, Nat.reduceLT, Nat.reduceLeDiff, Nat.reduceSub, Nat.reduceMul, Nat.reduceBEq, Int.reduceToNat, Int.reduceLE, Int.reduceLT, Int.reducePow]; rfl
      case h8 => first | exact True.intro | omega | (simp only [go_sem, kn6, aliveF, encF, fewF, decF, allF, same4F, encV_tup, decV_tup, unf_fdrow, cmrow_len, Try.ntmps6, reduceIte, reduceCtorEq, Nat.reduceAdd, Nat.reduceEqDiff, Nat.reduceLT, Nat.reduceLeDiff, Nat.reduceSub, Nat.reduceMul, Nat.reduceBEq, Int.reduceToNat, Int.reduceLE, Int.reduceLT, Int.reducePow]; done) | (simp only [go_sem, kn6, aliveF, encF, fewF, decF, allF, same4F, encV_tup, decV_tup, unf_fdrow, cmrow_len, Try.ntmps6, reduceIte, reduceCtorEq, Nat.reduceAdd, Nat.reduceEqDiff, Nat.reduceLT, Nat.reduceLeDiff, Nat.reduceSub, Nat.reduceMul, Nat.reduceBEq, Int.reduceToNat, Int.reduceLE, Int.reduceLT, Int.reducePow]; omega)
      case k8 => simp only [go_sem, kn6, aliveF, encF, fewF, decF, allF, same4F, encV_tup, decV_tup, unf_fdrow, cmrow_len, Try.ntmps6, reduceIte, reduceCtorEq, Nat.reduceAdd, Nat.reduceEqDiff, Nat.reduceLT, Nat.reduceLeDiff, Nat.reduceSub, Nat.reduceMul, Nat.reduceBEq, Int.reduceToNat, Int.reduceLE, Int.reduceLT, Int.reducePow]; rfl
      refine AWp.block ?_
      refine AWp.conv (Conv.nilT 5 (e := 1) (ety := 38) rfl rfl) ?_
      refine AWp.conv (Conv.keep [0, 4, 5, 6] [0] (by simp [St.nilT])) ?_
      refine AWp.loop (fun k S => ∃ i : Nat, i ≤ (allL (rowsB es)).length ∧ k = (allL (rowsB es)).length - i ∧ S = ⟨[(0, .one (.s (.d (.slice z 1 es)))), (4, .one (dv (.slice none 2 (cmrow (allL (rowsB es)))))), (5, .one (.s (.row 0 1 0 (outR ((allL (rowsB es)).take i)).length none))), (6, .one (dv (.int .i64 ((i : Nat) : Int))))], [(0, .row (outR ((allL (rowsB es)).take i)) 38)], 1⟩) (allL (rowsB es)).length ?i1 ?n1
      case i1 =>
        exact ⟨0, by omega, rfl, by simp [St.nilT, St.keep, keepE, lookN, outR]⟩
      case n1 =>
        rintro k S ⟨i, hi0, rfl, rfl⟩
        refine AWp.seq ?_
        refine AWp.seq ?_
        refine AWp.reg (S1 := ?S9) (ob := ?o9) (S' := ?K9) tab_ok (knowL_ok kn6_ok) mixed [0, 4, 5, 6, 23] ?r9 ?h9 ?k9 ?w9
        case r9 => simp only [go_sem, kn6, aliveF, encF, fewF, decF, allF, same4F, encV_tup, decV_tup, unf_fdrow, cmrow_len, Try.ntmps6, reduceIte, reduceCtorEq, Nat.reduceAdd, Nat.reduceEqDiff, Nat.reduceLT, Nat.reduceLeDiff, Nat.reduceSub, Nat.reduceMul, Nat.reduceBEq, Int.reduceToNat, Int.reduceLE, Int.reduceLT, Int.reducePow]; rfl
        case h9 => first | exact True.intro | omega | (simp only [go_sem, kn6, aliveF, encF, fewF, decF, allF, same4F, encV_tup, decV_tup, unf_fdrow, cmrow_len, Try.ntmps6, reduceIte, reduceCtorEq, Nat.reduceAdd, Nat.reduceEqDiff, Nat.reduceLT, Nat.reduceLeDiff, Nat.reduceSub, Nat.reduceMul, Nat.reduceBEq, Int.reduceToNat, Int.reduceLE, Int.reduceLT, Int.reducePow]; done) | (simp only [go_sem, kn6, aliveF, encF, fewF, decF, allF, same4F, encV_tup, decV_tup, unf_fdrow, cmrow_len, Try.ntmps6, reduceIte, reduceCtorEq, Nat.reduceAdd, Nat.reduceEqDiff, Nat.reduceLT, Nat.reduceLeDiff, Nat.reduceSub, Nat.reduceMul, Nat.reduceBEq, Int.reduceToNat, Int.reduceLE, Int.reduceLT, Int.reducePow]; omega)
        case k9 => simp only [go_sem, kn6, aliveF, encF, fewF, decF, allF, same4F, encV_tup, decV_tup, unf_fdrow, cmrow_len, Try.ntmps6, reduceIte, reduceCtorEq, Nat.reduceAdd, Nat.reduceEqDiff, Nat.reduceLT, Nat.reduceLeDiff, Nat.reduceSub, Nat.reduceMul, Nat.reduceBEq, Int.reduceToNat, Int.reduceLE, Int.reduceLT, Int.reducePow]; rfl
        refine AWp.cond (b := ?b10) ?c10 ?t10 ?f10
        case c10 => simp only [go_sem, kn6, aliveF, encF, fewF, decF, allF, same4F, encV_tup, decV_tup, unf_fdrow, cmrow_len, Try.ntmps6, reduceIte, reduceCtorEq, Nat.reduceAdd, Nat.reduceEqDiff, Nat.reduceLT, Nat.reduceLeDiff, Nat.reduceSub, Nat.reduceMul, Nat.reduceBEq, Int.reduceToNat, Int.reduceLE, Int.reduceLT, Int.reducePow]; rfl
        case t10 =>
          intro hb2
          have hi : i < (allL (rowsB es)).length := by simp only [decide_eq_true_eq] at hb2; omega
          have hcm := cmrow_get (allL (rowsB es)) i
          rw [if_pos hi, cmD] at hcm
          have hr := o1 ((allL (rowsB es)).getD i (0, [])) (by rw [getD_lt hi]; exact List.getElem_mem _)
          obtain ⟨q1, q2, q3, q4⟩ := enR_ok2 hr
          have hF := (rightL_in hr).2.2.ok
          have hsu := outR_succ hi
          have hli := hol i
          have hN := enR_len ((allL (rowsB es)).getD i (0, [])).1 ((allL (rowsB es)).getD i (0, [])).2
          refine AWp.skip ?_
          refine AWp.seq ?_
          refine AWp.block ?_
          refine AWp.seq ?_
          refine AWp.reg (S1 := ?S11) (ob := ?o11) (S' := ?K11) tab_ok (knowL_ok kn6_ok) mixed [0, 4, 5, 6, 7, 8] ?r11 ?h11 ?k11 ?w11
          case r11 => simp only [go_sem, kn6, aliveF, encF, fewF, decF, allF, same4F, encV_tup, decV_tup, unf_fdrow, cmrow_len, Try.ntmps6, reduceIte, reduceCtorEq, Nat.reduceAdd, Nat.reduceEqDiff, Nat.reduceLT, Nat.reduceLeDiff, Nat.reduceSub, Nat.reduceMul, Nat.reduceBEq, Int.reduceToNat, Int.reduceLE, Int.reduceLT, Int.reducePow, hcm, q2, q3, q4]; rfl
          case h11 =>
            exact ⟨⟨by omega, by omega⟩, hF⟩
          case k11 => simp only [go_sem, kn6, aliveF, encF, fewF, decF, allF, same4F, encV_tup, decV_tup, unf_fdrow, cmrow_len, Try.ntmps6, reduceIte, reduceCtorEq, Nat.reduceAdd, Nat.reduceEqDiff, Nat.reduceLT, Nat.reduceLeDiff, Nat.reduceSub, Nat.reduceMul, Nat.reduceBEq, Int.reduceToNat, Int.reduceLE, Int.reduceLT, Int.reducePow]; rfl
          refine AWp.seq ?_
          refine AWp.seq ?_
          refine AWp.reg (S1 := ?S12) (ob := ?o12) (S' := ?K12) tab_ok (knowL_ok kn6_ok) mixed [0, 4, 5, 6, 7, 35] ?r12 ?h12 ?k12 ?w12
          case r12 => simp only [go_sem, kn6, aliveF, encF, fewF, decF, allF, same4F, encV_tup, decV_tup, unf_fdrow, cmrow_len, Try.ntmps6, reduceIte, reduceCtorEq, Nat.reduceAdd, Nat.reduceEqDiff, Nat.reduceLT, Nat.reduceLeDiff, Nat.reduceSub, Nat.reduceMul, Nat.reduceBEq, Int.reduceToNat, Int.reduceLE, Int.reduceLT, Int.reducePow]; rfl
          case h12 => first | exact True.intro | omega | (simp only [go_sem, kn6, aliveF, encF, fewF, decF, allF, same4F, encV_tup, decV_tup, unf_fdrow, cmrow_len, Try.ntmps6, reduceIte, reduceCtorEq, Nat.reduceAdd, Nat.reduceEqDiff, Nat.reduceLT, Nat.reduceLeDiff, Nat.reduceSub, Nat.reduceMul, Nat.reduceBEq, Int.reduceToNat, Int.reduceLE, Int.reduceLT, Int.reducePow]; done) | (simp only [go_sem, kn6, aliveF, encF, fewF, decF, allF, same4F, encV_tup, decV_tup, unf_fdrow, cmrow_len, Try.ntmps6, reduceIte, reduceCtorEq, Nat.reduceAdd, Nat.reduceEqDiff, Nat.reduceLT, Nat.reduceLeDiff, Nat.reduceSub, Nat.reduceMul, Nat.reduceBEq, Int.reduceToNat, Int.reduceLE, Int.reduceLT, Int.reducePow]; omega)
          case k12 => simp only [go_sem, kn6, aliveF, encF, fewF, decF, allF, same4F, encV_tup, decV_tup, unf_fdrow, cmrow_len, Try.ntmps6, reduceIte, reduceCtorEq, Nat.reduceAdd, Nat.reduceEqDiff, Nat.reduceLT, Nat.reduceLeDiff, Nat.reduceSub, Nat.reduceMul, Nat.reduceBEq, Int.reduceToNat, Int.reduceLE, Int.reduceLT, Int.reducePow]; rfl
          refine AWp.cond (b := ?b13) ?c13 ?t13 ?f13
          case c13 => simp only [go_sem, kn6, aliveF, encF, fewF, decF, allF, same4F, encV_tup, decV_tup, unf_fdrow, cmrow_len, Try.ntmps6, reduceIte, reduceCtorEq, Nat.reduceAdd, Nat.reduceEqDiff, Nat.reduceLT, Nat.reduceLeDiff, Nat.reduceSub, Nat.reduceMul, Nat.reduceBEq, Int.reduceToNat, Int.reduceLE, Int.reduceLT, Int.reducePow]; rfl
          case t13 =>
            intro hb3
            exfalso; simp at hb3
          case f13 =>
            intro hb3
            refine AWp.skip ?_
            refine AWp.reg (S1 := ?S14) (ob := ?o14) (S' := ?K14) tab_ok (knowL_ok kn6_ok) mixed [0, 4, 5, 6] ?r14 ?h14 ?k14 ?w14
            case r14 => simp only [go_sem, kn6, aliveF, encF, fewF, decF, allF, same4F, encV_tup, decV_tup, unf_fdrow, cmrow_len, Try.ntmps6, reduceIte, reduceCtorEq, Nat.reduceAdd, Nat.reduceEqDiff, Nat.reduceLT, Nat.reduceLeDiff, Nat.reduceSub, Nat.reduceMul, Nat.reduceBEq, Int.reduceToNat, Int.reduceLE, Int.reduceLT, Int.reducePow, q3, q4]; rfl
            case h14 => first | exact True.intro | omega | (simp only [go_sem, kn6, aliveF, encF, fewF, decF, allF, same4F, encV_tup, decV_tup, unf_fdrow, cmrow_len, Try.ntmps6, reduceIte, reduceCtorEq, Nat.reduceAdd, Nat.reduceEqDiff, Nat.reduceLT, Nat.reduceLeDiff, Nat.reduceSub, Nat.reduceMul, Nat.reduceBEq, Int.reduceToNat, Int.reduceLE, Int.reduceLT, Int.reducePow]; done) | (simp only [go_sem, kn6, aliveF, encF, fewF, decF, allF, same4F, encV_tup, decV_tup, unf_fdrow, cmrow_len, Try.ntmps6, reduceIte, reduceCtorEq, Nat.reduceAdd, Nat.reduceEqDiff, Nat.reduceLT, Nat.reduceLeDiff, Nat.reduceSub, Nat.reduceMul, Nat.reduceBEq, Int.reduceToNat, Int.reduceLE, Int.reduceLT, Int.reducePow]; omega)
            case k14 => simp only [go_sem, kn6, aliveF, encF, fewF, decF, allF, same4F, encV_tup, decV_tup, unf_fdrow, cmrow_len, Try.ntmps6, reduceIte, reduceCtorEq, Nat.reduceAdd, Nat.reduceEqDiff, Nat.reduceLT, Nat.reduceLeDiff, Nat.reduceSub, Nat.reduceMul, Nat.reduceBEq, Int.reduceToNat, Int.reduceLE, Int.reduceLT, Int.reducePow]; rfl
            refine AWp.reg (S1 := ?S15) (ob := ?o15) (S' := ?K15) tab_ok (knowL_ok kn6_ok) mixed [0, 4, 5, 6] ?r15 ?h15 ?k15 ?w15
            case r15 => simp only [go_sem, kn6, aliveF, encF, fewF, decF, allF, same4F, encV_tup, decV_tup, unf_fdrow, cmrow_len, Try.ntmps6, reduceIte, reduceCtorEq, Nat.reduceAdd, Nat.reduceEqDiff, Nat.reduceLT, Nat.reduceLeDiff, Nat.reduceSub, Nat.reduceMul, Nat.reduceBEq, Int.reduceToNat, Int.reduceLE, Int.reduceLT, Int.reducePow]; rfl
            case h15 => first | exact True.intro | omega | (simp only [go_sem, kn6, aliveF, encF, fewF, decF, allF, same4F, encV_tup, decV_tup, unf_fdrow, cmrow_len, Try.ntmps6, reduceIte, reduceCtorEq, Nat.reduceAdd, Nat.reduceEqDiff, Nat.reduceLT, Nat.reduceLeDiff, Nat.reduceSub, Nat.reduceMul, Nat.reduceBEq, Int.reduceToNat, Int.reduceLE, Int.reduceLT, Int.reducePow]; done) | (simp only [go_sem, kn6, aliveF, encF, fewF, decF, allF, same4F, encV_tup, decV_tup, unf_fdrow, cmrow_len, Try.ntmps6, reduceIte, reduceCtorEq, Nat.reduceAdd, Nat.reduceEqDiff, Nat.reduceLT, Nat.reduceLeDiff, Nat.reduceSub, Nat.reduceMul, Nat.reduceBEq, Int.reduceToNat, Int.reduceLE, Int.reduceLT, Int.reducePow]; omega)
            case k15 => simp only [go_sem, kn6, aliveF, encF, fewF, decF, allF, same4F, encV_tup, decV_tup, unf_fdrow, cmrow_len, Try.ntmps6, reduceIte, reduceCtorEq, Nat.reduceAdd, Nat.reduceEqDiff, Nat.reduceLT, Nat.reduceLeDiff, Nat.reduceSub, Nat.reduceMul, Nat.reduceBEq, Int.reduceToNat, Int.reduceLE, Int.reduceLT, Int.reducePow]; rfl
            refine ⟨(allL (rowsB es)).length - (i + 1), ⟨[(0, .one (.s (.d (.slice z 1 es)))), (4, .one (dv (.slice none 2 (cmrow (allL (rowsB es)))))), (5, .one (.s (.row 0 1 0 (outR ((allL (rowsB es)).take (i + 1))).length none))), (6, .one (dv (.int .i64 ((i + 1 : Nat) : Int))))], [(0, .row (outR ((allL (rowsB es)).take (i + 1))) 38)], 1⟩, by omega, ?_, i + 1, by omega, rfl, rfl⟩
            rw [hsu, ← q1]
            exact (Conv.keep [0, 4, 5, 6] [1] (by simp)).trans (Conv.rename (fun j => if j = 0 then 1 else j) (by simp; done) (by simp; done) (by simp [-List.getD_eq_getElem?_getD, St.keep, keepE, lookN, AVal.ren, AV.ren, Sc.ren, AVal.ids, AV.ids, Sc.ids]; done) (by simp [-List.getD_eq_getElem?_getD, St.keep, keepE, lookN, AObj.ren, AObj.ids, Sc.ids, Sc.ren]; done) (by simp; done))
        case f10 =>
          intro hb2
          have hi : i = (allL (rowsB es)).length := by simp only [decide_eq_false_iff_not] at hb2; omega
          subst hi
          have htk : (allL (rowsB es)).take (allL (rowsB es)).length = allL (rowsB es) := List.take_length
          have hro2 := rowsB_out (allL (rowsB es))
          have hle : (outR (allL (rowsB es))).length = (encAll (allL (rowsB es))).length := by rw [← hro2, rowsB_len]
          have hs1 : rowsB (List.take (outR (allL (rowsB es))).length es) = encAll (allL (rowsB es)) := by rw [rowsB_take, hle, ← o2]
          have hs2 : rowsB (List.drop (outR (allL (rowsB es))).length es) = (rowsB es).drop (encAll (allL (rowsB es))).length := by rw [rowsB_drop, hle]
          rw [htk]
          refine AWp.exit ?_
          refine thenA_exit ?_
          refine thenA_exit ?_
          refine inB_eq ?_
          refine AWp.seq ?_
          refine AWp.seq ?_
          refine AWp.conv (Conv.freezeAt 5 0 (e := 1) (ty := 38) rfl (by simp) rfl rfl) ?_
          refine AWp.reg (S1 := ?S16) (ob := ?o16) (S' := ?K16) tab_ok (knowL_ok kn6_ok) mixed [0, 5, 43] ?r16 ?h16 ?k16 ?w16
          case r16 => simp only [go_sem, kn6, aliveF, encF, fewF, decF, allF, same4F, encV_tup, decV_tup, unf_fdrow, cmrow_len, Try.ntmps6, reduceIte, reduceCtorEq, Nat.reduceAdd, Nat.reduceEqDiff, Nat.reduceLT, Nat.reduceLeDiff, Nat.reduceSub, Nat.reduceMul, Nat.reduceBEq, Int.reduceToNat, Int.reduceLE, Int.reduceLT, Int.reducePow]; rfl
          case h16 => first | exact True.intro | omega | (simp only [go_sem, kn6, aliveF, encF, fewF, decF, allF, same4F, encV_tup, decV_tup, unf_fdrow, cmrow_len, Try.ntmps6, reduceIte, reduceCtorEq, Nat.reduceAdd, Nat.reduceEqDiff, Nat.reduceLT, Nat.reduceLeDiff, Nat.reduceSub, Nat.reduceMul, Nat.reduceBEq, Int.reduceToNat, Int.reduceLE, Int.reduceLT, Int.reducePow]; done) | (simp only [go_sem, kn6, aliveF, encF, fewF, decF, allF, same4F, encV_tup, decV_tup, unf_fdrow, cmrow_len, Try.ntmps6, reduceIte, reduceCtorEq, Nat.reduceAdd, Nat.reduceEqDiff, Nat.reduceLT, Nat.reduceLeDiff, Nat.reduceSub, Nat.reduceMul, Nat.reduceBEq, Int.reduceToNat, Int.reduceLE, Int.reduceLT, Int.reducePow]; omega)
          case k16 => simp only [go_sem, kn6, aliveF, encF, fewF, decF, allF, same4F, encV_tup, decV_tup, unf_fdrow, cmrow_len, Try.ntmps6, reduceIte, reduceCtorEq, Nat.reduceAdd, Nat.reduceEqDiff, Nat.reduceLT, Nat.reduceLeDiff, Nat.reduceSub, Nat.reduceMul, Nat.reduceBEq, Int.reduceToNat, Int.reduceLE, Int.reduceLT, Int.reducePow]; rfl
          refine AWp.cond (b := ?b17) ?c17 ?t17 ?f17
          case c17 => simp only [go_sem, kn6, aliveF, encF, fewF, decF, allF, same4F, encV_tup, decV_tup, unf_fdrow, cmrow_len, Try.ntmps6, reduceIte, reduceCtorEq, Nat.reduceAdd, Nat.reduceEqDiff, Nat.reduceLT, Nat.reduceLeDiff, Nat.reduceSub, Nat.reduceMul, Nat.reduceBEq, Int.reduceToNat, Int.reduceLE, Int.reduceLT, Int.reducePow]; rfl
          case t17 =>
            intro hb4
            exfalso; simp only [decide_eq_true_eq] at hb4; omega
          case f17 =>
            intro hb4
            refine AWp.skip ?_
            refine AWp.seq ?_
            refine AWp.reg (S1 := ?S18) (ob := ?o18) (S' := ?K18) tab_ok (knowL_ok kn6_ok) mixed [0, 5, 9] ?r18 ?h18 ?k18 ?w18
            case r18 => simp only [go_sem, kn6, aliveF, encF, fewF, decF, allF, same4F, encV_tup, decV_tup, unf_fdrow, cmrow_len, Try.ntmps6, reduceIte, reduceCtorEq, Nat.reduceAdd, Nat.reduceEqDiff, Nat.reduceLT, Nat.reduceLeDiff, Nat.reduceSub, Nat.reduceMul, Nat.reduceBEq, Int.reduceToNat, Int.reduceLE, Int.reduceLT, Int.reducePow, hs1, hro2]; rfl
            case h18 =>
              exact ⟨⟨by omega, by omega, by omega⟩, .inr trivial, .inr trivial, outR_ok _, h2.take _, by omega⟩
            case k18 => simp only [go_sem, kn6, aliveF, encF, fewF, decF, allF, same4F, encV_tup, decV_tup, unf_fdrow, cmrow_len, Try.ntmps6, reduceIte, reduceCtorEq, Nat.reduceAdd, Nat.reduceEqDiff, Nat.reduceLT, Nat.reduceLeDiff, Nat.reduceSub, Nat.reduceMul, Nat.reduceBEq, Int.reduceToNat, Int.reduceLE, Int.reduceLT, Int.reducePow]; rfl
            refine AWp.seq ?_
            refine AWp.reg (S1 := ?S19) (ob := ?o19) (S' := ?K19) tab_ok (knowL_ok kn6_ok) mixed [9, 12] ?r19 ?h19 ?k19 ?w19
            case r19 => simp only [go_sem, kn6, aliveF, encF, fewF, decF, allF, same4F, encV_tup, decV_tup, unf_fdrow, cmrow_len, Try.ntmps6, reduceIte, reduceCtorEq, Nat.reduceAdd, Nat.reduceEqDiff, Nat.reduceLT, Nat.reduceLeDiff, Nat.reduceSub, Nat.reduceMul, Nat.reduceBEq, Int.reduceToNat, Int.reduceLE, Int.reduceLT, Int.reducePow, hs2]; rfl
            case h19 =>
              exact ⟨⟨by omega, by omega, by omega⟩, .inr trivial, hro.drop _⟩
            case k19 => simp only [go_sem, kn6, aliveF, encF, fewF, decF, allF, same4F, encV_tup, decV_tup, unf_fdrow, cmrow_len, Try.ntmps6, reduceIte, reduceCtorEq, Nat.reduceAdd, Nat.reduceEqDiff, Nat.reduceLT, Nat.reduceLeDiff, Nat.reduceSub, Nat.reduceMul, Nat.reduceBEq, Int.reduceToNat, Int.reduceLE, Int.reduceLT, Int.reducePow]; rfl
            refine AWp.seq ?_
            refine AWp.reg (S1 := ?S20) (ob := ?o20) (S' := ?K20) tab_ok (knowL_ok kn6_ok) mixed [2] ?r20 ?h20 ?k20 ?w20
            case r20 => simp only [go_sem, kn6, aliveF, encF, fewF, decF, allF, same4F, encV_tup, decV_tup, unf_fdrow, cmrow_len, Try.ntmps6, reduceIte, reduceCtorEq, Nat.reduceAdd, Nat.reduceEqDiff, Nat.reduceLT, Nat.reduceLeDiff, Nat.reduceSub, Nat.reduceMul, Nat.reduceBEq, Int.reduceToNat, Int.reduceLE, Int.reduceLT, Int.reducePow]; rfl
            case h20 => first | exact True.intro | omega | (simp only [go_sem, kn6, aliveF, encF, fewF, decF, allF, same4F, encV_tup, decV_tup, unf_fdrow, cmrow_len, Try.ntmps6, reduceIte, reduceCtorEq, Nat.reduceAdd, Nat.reduceEqDiff, Nat.reduceLT, Nat.reduceLeDiff, Nat.reduceSub, Nat.reduceMul, Nat.reduceBEq, Int.reduceToNat, Int.reduceLE, Int.reduceLT, Int.reducePow]; done) | (simp only [go_sem, kn6, aliveF, encF, fewF, decF, allF, same4F, encV_tup, decV_tup, unf_fdrow, cmrow_len, Try.ntmps6, reduceIte, reduceCtorEq, Nat.reduceAdd, Nat.reduceEqDiff, Nat.reduceLT, Nat.reduceLeDiff, Nat.reduceSub, Nat.reduceMul, Nat.reduceBEq, Int.reduceToNat, Int.reduceLE, Int.reduceLT, Int.reducePow]; omega)
            case k20 => simp only [go_sem, kn6, aliveF, encF, fewF, decF, allF, same4F, encV_tup, decV_tup, unf_fdrow, cmrow_len, Try.ntmps6, reduceIte, reduceCtorEq, Nat.reduceAdd, Nat.reduceEqDiff, Nat.reduceLT, Nat.reduceLeDiff, Nat.reduceSub, Nat.reduceMul, Nat.reduceBEq, Int.reduceToNat, Int.reduceLE, Int.reduceLT, Int.reducePow]; rfl
            refine AWp.ret ?_
            refine ends_p (vs := ?vs2) (ob := ?ro2) (vs' := ?ws2) (ks := ?ks2) (ob2 := ?rp2) tab_ok (by simp) ?er2 ?eo2 ?ef2 ?eg2 ?en2 ?ek2 ?ev2
            case er2 => simp only [go_sem, kn6, aliveF, encF, fewF, decF, allF, same4F, encV_tup, decV_tup, unf_fdrow, cmrow_len, Try.ntmps6, reduceIte, reduceCtorEq, Nat.reduceAdd, Nat.reduceEqDiff, Nat.reduceLT, Nat.reduceLeDiff, Nat.reduceSub, Nat.reduceMul, Nat.reduceBEq, Int.reduceToNat, Int.reduceLE, Int.reduceLT, Int.reducePow, Try.results6]; rfl
            case eo2 => first | exact True.intro | simp only [go_sem, kn6, aliveF, encF, fewF, decF, allF, same4F, encV_tup, decV_tup, unf_fdrow, cmrow_len, Try.ntmps6, reduceIte, reduceCtorEq, Nat.reduceAdd, Nat.reduceEqDiff, Nat.reduceLT, Nat.reduceLeDiff, Nat.reduceSub, Nat.reduceMul, Nat.reduceBEq, Int.reduceToNat, Int.reduceLE, Int.reduceLT, Int.reducePow]
            case ef2 => simp only [go_sem, kn6, aliveF, encF, fewF, decF, allF, same4F, encV_tup, decV_tup, unf_fdrow, cmrow_len, Try.ntmps6, reduceIte, reduceCtorEq, Nat.reduceAdd, Nat.reduceEqDiff, Nat.reduceLT, Nat.reduceLeDiff, Nat.reduceSub, Nat.reduceMul, Nat.reduceBEq, Int.reduceToNat, Int.reduceLE, Int.reduceLT, Int.reducePow]; rfl
            case eg2 => first | exact True.intro | simp only [go_sem, kn6, aliveF, encF, fewF, decF, allF, same4F, encV_tup, decV_tup, unf_fdrow, cmrow_len, Try.ntmps6, reduceIte, reduceCtorEq, Nat.reduceAdd, Nat.reduceEqDiff, Nat.reduceLT, Nat.reduceLeDiff, Nat.reduceSub, Nat.reduceMul, Nat.reduceBEq, Int.reduceToNat, Int.reduceLE, Int.reduceLT, Int.reducePow]
            case en2 => simp only [go_sem, kn6, aliveF, encF, fewF, decF, allF, same4F, encV_tup, decV_tup, unf_fdrow, cmrow_len, Try.ntmps6, reduceIte, reduceCtorEq, Nat.reduceAdd, Nat.reduceEqDiff, Nat.reduceLT, Nat.reduceLeDiff, Nat.reduceSub, Nat.reduceMul, Nat.reduceBEq, Int.reduceToNat, Int.reduceLE, Int.reduceLT, Int.reducePow]
            case ek2 => simp only [go_sem, kn6, aliveF, encF, fewF, decF, allF, same4F, encV_tup, decV_tup, unf_fdrow, cmrow_len, Try.ntmps6, reduceIte, reduceCtorEq, Nat.reduceAdd, Nat.reduceEqDiff, Nat.reduceLT, Nat.reduceLeDiff, Nat.reduceSub, Nat.reduceMul, Nat.reduceBEq, Int.reduceToNat, Int.reduceLE, Int.reduceLT, Int.reducePow]
            case ev2 =>
              rw [decide_eq_false o4]; rfl
  · cases hq

end Go.Proofs.Hg
