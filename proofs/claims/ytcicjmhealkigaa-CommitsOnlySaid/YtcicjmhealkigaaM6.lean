import Derived.Test.YtcicjmhealkigaaM5
set_option linter.unusedSimpArgs false
set_option linter.unusedVariables false
set_option maxHeartbeats 4000000
namespace Go.Proofs.Hg
open Go.RowKit
set_option maxRecDepth 100000
abbrev RS := Bool × List UInt8
def nxt (n : Int) (p : RS) : RS := (takeOk p.1 n p.2, restL p.1 n p.2)
def got (n : Int) (p : RS) : List UInt8 := takeL p.1 n p.2
def g1 (p : RS) : Int := ((got 1 p).getD 0 0).toNat
def pPath (p : RS) : List UInt8 := got (g1 p) (nxt 1 p)
def p2 (p : RS) : RS := nxt (g1 p) (nxt 1 p)
def pVer (p : RS) : Int := numI (got 8 (p2 p))
def p3 (p : RS) : RS := nxt 8 (p2 p)
def pSz (p : RS) : Int := numI (got 4 (p3 p))
def p4 (p : RS) : RS := nxt 4 (p3 p)
def pCon (p : RS) : List UInt8 := got (pSz p) (p4 p)
def p5 (p : RS) : RS := nxt (pSz p) (p4 p)
def pFile (p : RS) : FileL := (pPath p, pVer p, pCon p)
def filesP : Nat → RS → List FileL → RS × List FileL
  | 0, p, fs => (p, fs)
  | n + 1, p, fs => if p.1 = true ∧ 0 < p.2.length then filesP n (p5 p) (fs ++ [pFile p]) else (p, fs)
def meas (p : RS) : Nat := if p.1 then p.2.length else 0
theorem nxt_len (n : Int) (p : RS) : (nxt n p).2.length ≤ p.2.length := by
  simp only [nxt, restL]
  split
  · simp
  · exact Nat.le_refl _
theorem nxt_off {n : Int} {p : RS} (h : p.1 = false) : (nxt n p).1 = false := by simp [nxt, takeOk, h]
theorem p5_less {p : RS} (h : p.1 = true ∧ 0 < p.2.length) : meas (p5 p) < meas p := by
  have h1 : (nxt 1 p).2.length + 1 = p.2.length ∧ (nxt 1 p).1 = true := by
    have ht : takeOk p.1 1 p.2 = true := by simp only [takeOk, h.1, Bool.true_and, decide_eq_true_eq]; omega
    simp only [nxt, restL, ht, if_true, List.length_drop]
    exact ⟨by have := h.2; show p.2.length - 1 + 1 = _; omega, trivial⟩
  have h5 : (p5 p).2.length ≤ (nxt 1 p).2.length := Nat.le_trans (nxt_len _ _) (Nat.le_trans (nxt_len _ _) (Nat.le_trans (nxt_len _ _) (nxt_len _ _)))
  unfold meas
  rw [if_pos h.1]
  split <;> omega
theorem filesP_more : ∀ (n : Nat) (p : RS) (fs : List FileL), meas p ≤ n → filesP n p fs = filesP (meas p) p fs
  | 0, p, fs, h => by rw [Nat.le_zero.1 h]
  | n + 1, p, fs, h => by
    by_cases hc : p.1 = true ∧ 0 < p.2.length
    · obtain ⟨m, hm⟩ : ∃ m, meas p = m + 1 := ⟨meas p - 1, by have := p5_less hc; omega⟩
      have hl := p5_less hc
      rw [hm]
      simp only [filesP, if_pos hc]
      rw [filesP_more n _ _ (by omega)]
      by_cases hmn : m ≤ n
      · by_cases he : m = n
        · rw [he, filesP_more n _ _ (by omega)]
        · have hlt : m < n := by omega
          exact (filesP_more m _ _ (by omega)).symm
      · omega
    · have e : ∀ k, filesP k p fs = (p, fs) := fun k => by
        cases k with
        | zero => rfl
        | succ k => simp only [filesP, if_neg hc]
      rw [e, e]
theorem takeL_ge (r : Bool) (s : List UInt8) : 1 ≤ (takeL r 1 s).length := by
  unfold takeL takeOk
  split
  · rename_i hk
    simp only [Bool.and_eq_true, decide_eq_true_eq] at hk
    simp only [List.length_take]
    omega
  · simp
theorem takeL_le (r : Bool) (n : Nat) (s : List UInt8) (h1 : 1 ≤ n := by omega) : (takeL r n s).length ≤ n := by
  unfold takeL
  split
  · simp only [List.length_take]; omega
  · simpa using h1
theorem num4 {s : List UInt8} (h : s.length ≤ 4) : 0 ≤ numI s ∧ numI s ≤ 4294967295 := by
  have h1 := numU_lt s
  have h2 : 256 ^ s.length ≤ 256 ^ 4 := Nat.pow_le_pow_right (by omega) h
  have e : (256 : Nat) ^ 4 = 4294967296 := by decide
  have h3 : numI s = (numU s : Int) := IntWalk.i64_in _ ⟨by omega, by omega⟩
  rw [h3]
  omega
def filesEnd (s : List UInt8) : RS × List FileL := filesP s.length (true, s) []
def progFilesF : List AV → Option (AVal × Prop)
  | [.s (.d (.slice z e es))] => some (.tup [dv (.slice none 3 (fdrow (filesEnd (unb es)).2)), dv (.bool (filesEnd (unb es)).1.1)], e = 1 ∧ es = brow (unb es) ∧ es.length ≤ 1000000)
  | _ => none
def kn30 : List (Nat × Cont) := [(28, pureK numF), (39, takeK)]
theorem kn30_ok : ∀ p ∈ kn30, ContOk Try.prog p.1 p.2 := by
  intro p hp
  simp only [kn30, List.mem_cons, List.not_mem_nil, or_false] at hp
  rcases hp with rfl | rfl
  · exact numF_ok
  · exact takeK_ok
theorem progFilesF_ok : ContOk Try.prog 30 (pureK progFilesF) := by
  refine pure_ok (nargs := 1) Try.func30 rfl (by kernel_rfl) (Nat.le_of_ble_eq_true (by kernel_rfl)) ?_
  intro args q hq hob
  unfold progFilesF at hq
  split at hq
  · rename_i z e es
    injection hq with hq
    subst hq
    obtain ⟨h1, h2, h3⟩ : e = 1 ∧ es = brow (unb es) ∧ es.length ≤ 1000000 := hob
    generalize unb es = s at *
    subst h1 h2
    rw [brow_length] at h3
    refine ⟨rfl, by simp [AV.ids, Sc.ids], by simp [AVal.ids, AV.ids, Sc.ids], by simp, ?_⟩
    refine AWp.seq ?_
    refine AWp.reg (S1 := ?S1) (ob := ?o1) (S' := ?K1) tab_ok (knowL_ok kn30_ok) mixed [1] ?r1 ?h1 ?k1 ?w1
    case r1 => simp only [go_sem, kn30, numF, takeK, Try.ntmps30, reduceIte, reduceCtorEq, Nat.reduceAdd, Nat.reduceEqDiff, Nat.reduceLT, Nat.reduceLeDiff, Nat.reduceSub, Nat.reduceMul, Nat.reduceBEq, Int.reduceToNat, Int.reduceLE, Int.reduceLT, Int.reducePow]; rfl
    case h1 => first | exact True.intro | omega | (simp only [go_sem, kn30, numF, takeK, Try.ntmps30, reduceIte, reduceCtorEq, Nat.reduceAdd, Nat.reduceEqDiff, Nat.reduceLT, Nat.reduceLeDiff, Nat.reduceSub, Nat.reduceMul, Nat.reduceBEq, Int.reduceToNat, Int.reduceLE, Int.reduceLT, Int.reducePow]; done) | (simp only [go_sem, kn30, numF, takeK, Try.ntmps30, reduceIte, reduceCtorEq, Nat.reduceAdd, Nat.reduceEqDiff, Nat.reduceLT, Nat.reduceLeDiff, Nat.reduceSub, Nat.reduceMul, Nat.reduceBEq, Int.reduceToNat, Int.reduceLE, Int.reduceLT, Int.reducePow]; omega)
    case k1 => simp only [go_sem, kn30, numF, takeK, Try.ntmps30, reduceIte, reduceCtorEq, Nat.reduceAdd, Nat.reduceEqDiff, Nat.reduceLT, Nat.reduceLeDiff, Nat.reduceSub, Nat.reduceMul, Nat.reduceBEq, Int.reduceToNat, Int.reduceLE, Int.reduceLT, Int.reducePow]; rfl
    refine AWp.seq ?_
    refine AWp.reg (S1 := ?S2) (ob := ?o2) (S' := ?K2) tab_ok (knowL_ok kn30_ok) mixed [1, 4] ?r2 ?h2 ?k2 ?w2
    case r2 => simp only [go_sem, kn30, numF, takeK, Try.ntmps30, reduceIte, reduceCtorEq, Nat.reduceAdd, Nat.reduceEqDiff, Nat.reduceLT, Nat.reduceLeDiff, Nat.reduceSub, Nat.reduceMul, Nat.reduceBEq, Int.reduceToNat, Int.reduceLE, Int.reduceLT, Int.reducePow]; rfl
    case h2 => first | exact True.intro | omega | (simp only [go_sem, kn30, numF, takeK, Try.ntmps30, reduceIte, reduceCtorEq, Nat.reduceAdd, Nat.reduceEqDiff, Nat.reduceLT, Nat.reduceLeDiff, Nat.reduceSub, Nat.reduceMul, Nat.reduceBEq, Int.reduceToNat, Int.reduceLE, Int.reduceLT, Int.reducePow]; done) | (simp only [go_sem, kn30, numF, takeK, Try.ntmps30, reduceIte, reduceCtorEq, Nat.reduceAdd, Nat.reduceEqDiff, Nat.reduceLT, Nat.reduceLeDiff, Nat.reduceSub, Nat.reduceMul, Nat.reduceBEq, Int.reduceToNat, Int.reduceLE, Int.reduceLT, Int.reducePow]; omega)
    case k2 => simp only [go_sem, kn30, numF, takeK, Try.ntmps30, reduceIte, reduceCtorEq, Nat.reduceAdd, Nat.reduceEqDiff, Nat.reduceLT, Nat.reduceLeDiff, Nat.reduceSub, Nat.reduceMul, Nat.reduceBEq, Int.reduceToNat, Int.reduceLE, Int.reduceLT, Int.reducePow]; rfl
    refine AWp.seq ?_
    refine AWp.reg (S1 := ?S3) (ob := ?o3) (S' := ?K3) tab_ok (knowL_ok kn30_ok) mixed [1, 4, 5] ?r3 ?h3 ?k3 ?w3
    case r3 => simp only [go_sem, kn30, numF, takeK, Try.ntmps30, reduceIte, reduceCtorEq, Nat.reduceAdd, Nat.reduceEqDiff, Nat.reduceLT, Nat.reduceLeDiff, Nat.reduceSub, Nat.reduceMul, Nat.reduceBEq, Int.reduceToNat, Int.reduceLE, Int.reduceLT, Int.reducePow]; rfl
    case h3 => first | exact True.intro | omega | (simp only [go_sem, kn30, numF, takeK, Try.ntmps30, reduceIte, reduceCtorEq, Nat.reduceAdd, Nat.reduceEqDiff, Nat.reduceLT, Nat.reduceLeDiff, Nat.reduceSub, Nat.reduceMul, Nat.reduceBEq, Int.reduceToNat, Int.reduceLE, Int.reduceLT, Int.reducePow]; done) | (simp only [go_sem, kn30, numF, takeK, Try.ntmps30, reduceIte, reduceCtorEq, Nat.reduceAdd, Nat.reduceEqDiff, Nat.reduceLT, Nat.reduceLeDiff, Nat.reduceSub, Nat.reduceMul, Nat.reduceBEq, Int.reduceToNat, Int.reduceLE, Int.reduceLT, Int.reducePow]; omega)
    case k3 => simp only [go_sem, kn30, numF, takeK, Try.ntmps30, reduceIte, reduceCtorEq, Nat.reduceAdd, Nat.reduceEqDiff, Nat.reduceLT, Nat.reduceLeDiff, Nat.reduceSub, Nat.reduceMul, Nat.reduceBEq, Int.reduceToNat, Int.reduceLE, Int.reduceLT, Int.reducePow]; rfl
    refine AWp.seq ?_
    refine AWp.reg (S1 := ?S4) (ob := ?o4) (S' := ?K4) tab_ok (knowL_ok kn30_ok) mixed [1, 4, 5, 6] ?r4 ?h4 ?k4 ?w4
    case r4 => simp only [go_sem, kn30, numF, takeK, Try.ntmps30, reduceIte, reduceCtorEq, Nat.reduceAdd, Nat.reduceEqDiff, Nat.reduceLT, Nat.reduceLeDiff, Nat.reduceSub, Nat.reduceMul, Nat.reduceBEq, Int.reduceToNat, Int.reduceLE, Int.reduceLT, Int.reducePow]; rfl
    case h4 => first | exact True.intro | omega | (simp only [go_sem, kn30, numF, takeK, Try.ntmps30, reduceIte, reduceCtorEq, Nat.reduceAdd, Nat.reduceEqDiff, Nat.reduceLT, Nat.reduceLeDiff, Nat.reduceSub, Nat.reduceMul, Nat.reduceBEq, Int.reduceToNat, Int.reduceLE, Int.reduceLT, Int.reducePow]; done) | (simp only [go_sem, kn30, numF, takeK, Try.ntmps30, reduceIte, reduceCtorEq, Nat.reduceAdd, Nat.reduceEqDiff, Nat.reduceLT, Nat.reduceLeDiff, Nat.reduceSub, Nat.reduceMul, Nat.reduceBEq, Int.reduceToNat, Int.reduceLE, Int.reduceLT, Int.reducePow]; omega)
    case k4 => simp only [go_sem, kn30, numF, takeK, Try.ntmps30, reduceIte, reduceCtorEq, Nat.reduceAdd, Nat.reduceEqDiff, Nat.reduceLT, Nat.reduceLeDiff, Nat.reduceSub, Nat.reduceMul, Nat.reduceBEq, Int.reduceToNat, Int.reduceLE, Int.reduceLT, Int.reducePow]; rfl
    refine AWp.seq ?_
    refine AWp.block ?_
    refine AWp.conv (Conv.nilT 6 (e := 3) (ety := 56) rfl rfl) ?_
    refine AWp.conv (Conv.keep [1, 4, 5, 6] [2, 1, 0] (by simp [St.nilT])) ?_
    refine AWp.loop (fun k S => ∃ (p : RS) (fs : List FileL), k = meas p ∧ fs.length + meas p ≤ s.length ∧ filesP (meas p) p fs = filesEnd s ∧ S = ⟨[(1, .one (.s (.ptr 0 0))), (4, .one (.s (.ptr 1 0))), (5, .one (.s (.func 39 [(1, 0), (0, 0)]))), (6, .one (.s (.row 2 3 0 fs.length none)))], [(2, .row (fdrow fs) 56), (1, .cells [.d (.bool p.1)] 4), (0, .cells [.d (.slice z 1 (brow p.2))] 38)], 3⟩) s.length ?i1 ?n1
    case i1 =>
      exact ⟨(true, s), [], rfl, by simp [meas], rfl, rfl⟩
    case n1 =>
      rintro k S ⟨p, fs, rfl, hlen, hE, rfl⟩
      refine AWp.seq ?_
      refine AWp.seq ?_
      refine AWp.reg (S1 := ?S5) (ob := ?o5) (S' := ?K5) tab_ok (knowL_ok kn30_ok) mixed [1, 4, 5, 6, 14] ?r5 ?h5 ?k5 ?w5
      case r5 => simp only [go_sem, kn30, numF, takeK, Try.ntmps30, reduceIte, reduceCtorEq, Nat.reduceAdd, Nat.reduceEqDiff, Nat.reduceLT, Nat.reduceLeDiff, Nat.reduceSub, Nat.reduceMul, Nat.reduceBEq, Int.reduceToNat, Int.reduceLE, Int.reduceLT, Int.reducePow]; rfl
      case h5 => first | exact True.intro | omega | (simp only [go_sem, kn30, numF, takeK, Try.ntmps30, reduceIte, reduceCtorEq, Nat.reduceAdd, Nat.reduceEqDiff, Nat.reduceLT, Nat.reduceLeDiff, Nat.reduceSub, Nat.reduceMul, Nat.reduceBEq, Int.reduceToNat, Int.reduceLE, Int.reduceLT, Int.reducePow]; done) | (simp only [go_sem, kn30, numF, takeK, Try.ntmps30, reduceIte, reduceCtorEq, Nat.reduceAdd, Nat.reduceEqDiff, Nat.reduceLT, Nat.reduceLeDiff, Nat.reduceSub, Nat.reduceMul, Nat.reduceBEq, Int.reduceToNat, Int.reduceLE, Int.reduceLT, Int.reducePow]; omega)
      case k5 => simp only [go_sem, kn30, numF, takeK, Try.ntmps30, reduceIte, reduceCtorEq, Nat.reduceAdd, Nat.reduceEqDiff, Nat.reduceLT, Nat.reduceLeDiff, Nat.reduceSub, Nat.reduceMul, Nat.reduceBEq, Int.reduceToNat, Int.reduceLE, Int.reduceLT, Int.reducePow]; rfl
      refine AWp.cond (b := ?b6) ?c6 ?t6 ?f6
      case c6 => simp only [go_sem, kn30, numF, takeK, Try.ntmps30, reduceIte, reduceCtorEq, Nat.reduceAdd, Nat.reduceEqDiff, Nat.reduceLT, Nat.reduceLeDiff, Nat.reduceSub, Nat.reduceMul, Nat.reduceBEq, Int.reduceToNat, Int.reduceLE, Int.reduceLT, Int.reducePow]; rfl
      case t6 =>
        intro hb1
        have hc : p.1 = true ∧ 0 < p.2.length := by simp at hb1; exact ⟨hb1.1, by omega⟩
        have hl1 := takeL_ge p.1 p.2
        have hl8 := takeL_le (p2 p).1 8 (p2 p).2
        have hl4 := takeL_le (p3 p).1 4 (p3 p).2
        have hsz := num4 (s := got 4 (p3 p)) (by simpa [got] using hl4)
        refine AWp.skip ?_
        refine AWp.block ?_
        refine AWp.seq ?_
        refine AWp.reg (S1 := ?S7) (ob := ?o7) (S' := ?K7) tab_ok (knowL_ok kn30_ok) mixed [1, 4, 5, 6, 7] ?r7 ?h7 ?k7 ?w7
        case r7 => simp only [go_sem, kn30, numF, takeK, Try.ntmps30, reduceIte, reduceCtorEq, Nat.reduceAdd, Nat.reduceEqDiff, Nat.reduceLT, Nat.reduceLeDiff, Nat.reduceSub, Nat.reduceMul, Nat.reduceBEq, Int.reduceToNat, Int.reduceLE, Int.reduceLT, Int.reducePow]; rfl
        case h7 => first | exact True.intro | omega | (simp only [go_sem, kn30, numF, takeK, Try.ntmps30, reduceIte, reduceCtorEq, Nat.reduceAdd, Nat.reduceEqDiff, Nat.reduceLT, Nat.reduceLeDiff, Nat.reduceSub, Nat.reduceMul, Nat.reduceBEq, Int.reduceToNat, Int.reduceLE, Int.reduceLT, Int.reducePow]; done) | (simp only [go_sem, kn30, numF, takeK, Try.ntmps30, reduceIte, reduceCtorEq, Nat.reduceAdd, Nat.reduceEqDiff, Nat.reduceLT, Nat.reduceLeDiff, Nat.reduceSub, Nat.reduceMul, Nat.reduceBEq, Int.reduceToNat, Int.reduceLE, Int.reduceLT, Int.reducePow]; omega)
        case k7 => simp only [go_sem, kn30, numF, takeK, Try.ntmps30, reduceIte, reduceCtorEq, Nat.reduceAdd, Nat.reduceEqDiff, Nat.reduceLT, Nat.reduceLeDiff, Nat.reduceSub, Nat.reduceMul, Nat.reduceBEq, Int.reduceToNat, Int.reduceLE, Int.reduceLT, Int.reducePow]; rfl
        refine AWp.seq ?_
        refine AWp.reg (S1 := ?S8) (ob := ?o8) (S' := ?K8) tab_ok (knowL_ok kn30_ok) mixed [1, 4, 5, 6, 7] ?r8 ?h8 ?k8 ?w8
        case r8 => simp only [go_sem, kn30, numF, takeK, Try.ntmps30, reduceIte, reduceCtorEq, Nat.reduceAdd, Nat.reduceEqDiff, Nat.reduceLT, Nat.reduceLeDiff, Nat.reduceSub, Nat.reduceMul, Nat.reduceBEq, Int.reduceToNat, Int.reduceLE, Int.reduceLT, Int.reducePow]; rfl
        case h8 => first | exact True.intro | omega | (simp only [go_sem, kn30, numF, takeK, Try.ntmps30, reduceIte, reduceCtorEq, Nat.reduceAdd, Nat.reduceEqDiff, Nat.reduceLT, Nat.reduceLeDiff, Nat.reduceSub, Nat.reduceMul, Nat.reduceBEq, Int.reduceToNat, Int.reduceLE, Int.reduceLT, Int.reducePow]; done) | (simp only [go_sem, kn30, numF, takeK, Try.ntmps30, reduceIte, reduceCtorEq, Nat.reduceAdd, Nat.reduceEqDiff, Nat.reduceLT, Nat.reduceLeDiff, Nat.reduceSub, Nat.reduceMul, Nat.reduceBEq, Int.reduceToNat, Int.reduceLE, Int.reduceLT, Int.reducePow]; omega)
        case k8 => simp only [go_sem, kn30, numF, takeK, Try.ntmps30, reduceIte, reduceCtorEq, Nat.reduceAdd, Nat.reduceEqDiff, Nat.reduceLT, Nat.reduceLeDiff, Nat.reduceSub, Nat.reduceMul, Nat.reduceBEq, Int.reduceToNat, Int.reduceLE, Int.reduceLT, Int.reducePow]; rfl
        refine AWp.seq ?_
        refine AWp.reg (S1 := ?S9) (ob := ?o9) (S' := ?K9) tab_ok (knowL_ok kn30_ok) mixed [1, 4, 5, 6, 7] ?r9 ?h9 ?k9 ?w9
        case r9 => simp only [go_sem, kn30, numF, takeK, Try.ntmps30, reduceIte, reduceCtorEq, Nat.reduceAdd, Nat.reduceEqDiff, Nat.reduceLT, Nat.reduceLeDiff, Nat.reduceSub, Nat.reduceMul, Nat.reduceBEq, Int.reduceToNat, Int.reduceLE, Int.reduceLT, Int.reducePow]; rfl
        case h9 =>
          first | exact takeL_le _ 8 _ (by omega) | (simp only [go_sem, kn30, numF, takeK, Try.ntmps30, reduceIte, reduceCtorEq, Nat.reduceAdd, Nat.reduceEqDiff, Nat.reduceLT, Nat.reduceLeDiff, Nat.reduceSub, Nat.reduceMul, Nat.reduceBEq, Int.reduceToNat, Int.reduceLE, Int.reduceLT, Int.reducePow]; exact takeL_le _ 8 _ (by omega))
        case k9 => simp only [go_sem, kn30, numF, takeK, Try.ntmps30, reduceIte, reduceCtorEq, Nat.reduceAdd, Nat.reduceEqDiff, Nat.reduceLT, Nat.reduceLeDiff, Nat.reduceSub, Nat.reduceMul, Nat.reduceBEq, Int.reduceToNat, Int.reduceLE, Int.reduceLT, Int.reducePow]; rfl
        refine AWp.seq ?_
        refine AWp.reg (S1 := ?S10) (ob := ?o10) (S' := ?K10) tab_ok (knowL_ok kn30_ok) mixed [1, 4, 5, 6, 7] ?r10 ?h10 ?k10 ?w10
        case r10 => simp only [go_sem, kn30, numF, takeK, Try.ntmps30, reduceIte, reduceCtorEq, Nat.reduceAdd, Nat.reduceEqDiff, Nat.reduceLT, Nat.reduceLeDiff, Nat.reduceSub, Nat.reduceMul, Nat.reduceBEq, Int.reduceToNat, Int.reduceLE, Int.reduceLT, Int.reducePow]; rfl
        case h10 =>
          exact ⟨Nat.le_trans (takeL_le _ 4 _ (by omega)) (by omega), (num4 (takeL_le _ 4 _ (by omega))).1⟩
        case k10 => simp only [go_sem, kn30, numF, takeK, Try.ntmps30, reduceIte, reduceCtorEq, Nat.reduceAdd, Nat.reduceEqDiff, Nat.reduceLT, Nat.reduceLeDiff, Nat.reduceSub, Nat.reduceMul, Nat.reduceBEq, Int.reduceToNat, Int.reduceLE, Int.reduceLT, Int.reducePow]; rfl
        refine AWp.reg (S1 := ?S11) (ob := ?o11) (S' := ?K11) tab_ok (knowL_ok kn30_ok) mixed [1, 4, 5, 6] ?r11 ?h11 ?k11 ?w11
        case r11 => simp only [go_sem, kn30, numF, takeK, Try.ntmps30, reduceIte, reduceCtorEq, Nat.reduceAdd, Nat.reduceEqDiff, Nat.reduceLT, Nat.reduceLeDiff, Nat.reduceSub, Nat.reduceMul, Nat.reduceBEq, Int.reduceToNat, Int.reduceLE, Int.reduceLT, Int.reducePow]; rfl
        case h11 =>
          rw [fdrow_len]
          omega
        case k11 => simp only [go_sem, kn30, numF, takeK, Try.ntmps30, reduceIte, reduceCtorEq, Nat.reduceAdd, Nat.reduceEqDiff, Nat.reduceLT, Nat.reduceLeDiff, Nat.reduceSub, Nat.reduceMul, Nat.reduceBEq, Int.reduceToNat, Int.reduceLE, Int.reduceLT, Int.reducePow]; rfl
        have hless := p5_less hc
        obtain ⟨m, hm⟩ : ∃ m, meas p = m + 1 := ⟨meas p - 1, by omega⟩
        refine ⟨meas (p5 p), ⟨[(1, .one (.s (.ptr 0 0))), (4, .one (.s (.ptr 1 0))), (5, .one (.s (.func 39 [(1, 0), (0, 0)]))), (6, .one (.s (.row 2 3 0 (fs ++ [pFile p]).length none)))], [(2, .row (fdrow (fs ++ [pFile p])) 56), (1, .cells [.d (.bool (p5 p).1)] 4), (0, .cells [.d (.slice z 1 (brow (p5 p).2))] 38)], 3⟩, hless, ?_, p5 p, fs ++ [pFile p], rfl, by rw [List.length_append]; simp only [List.length_cons, List.length_nil]; omega, ?_, rfl⟩
        · exact (Conv.keep [1, 4, 5, 6] [5, 1, 0] (by simp)).trans (Conv.rename (fun j => if j = 2 then 5 else j) (by simp; done) (by simp; done) (by simp [St.keep, keepE, lookN, AVal.ren, AV.ren, Sc.ren, AVal.ids, AV.ids, Sc.ids, fdrow_len]; done) (by simp [St.keep, keepE, lookN, AObj.ren, AObj.ids, Sc.ids, Sc.ren, fdrow, fileD, pFile, pPath, pVer, pCon, p5, pSz, p4, p3, p2, g1, nxt, got, numI]; done) (by simp; done))
        · rw [← hE, hm, ← filesP_more m (p5 p) (fs ++ [pFile p]) (by omega)]
          simp only [filesP, if_pos hc]
      case f6 =>
        intro hb1
        have hc : ¬ (p.1 = true ∧ 0 < p.2.length) := by
          simp only [Bool.and_eq_false_iff, decide_eq_false_iff_not] at hb1
          rintro ⟨h, h2⟩
          rcases hb1 with h3 | h3
          · rw [h] at h3; cases h3
          · omega
        refine AWp.exit ?_
        refine thenA_exit ?_
        refine thenA_exit ?_
        refine inB_eq ?_
        refine AWp.seq ?_
        refine AWp.drw (S1 := ?S12) (ob := ?o12) (lts := ?t12) (S' := ?K12) tab_ok (knowL_ok kn30_ok) mixed [2, 3] ?r12 ?d12 ?h12 ?k12 ?w12
        case r12 => simp only [go_sem, kn30, numF, takeK, Try.ntmps30, reduceIte, reduceCtorEq, Nat.reduceAdd, Nat.reduceEqDiff, Nat.reduceLT, Nat.reduceLeDiff, Nat.reduceSub, Nat.reduceMul, Nat.reduceBEq, Int.reduceToNat, Int.reduceLE, Int.reduceLT, Int.reducePow]; rfl
        case d12 => first | kernel_rfl | rfl
        case h12 => first | exact True.intro | omega | (simp only [go_sem, kn30, numF, takeK, Try.ntmps30, reduceIte, reduceCtorEq, Nat.reduceAdd, Nat.reduceEqDiff, Nat.reduceLT, Nat.reduceLeDiff, Nat.reduceSub, Nat.reduceMul, Nat.reduceBEq, Int.reduceToNat, Int.reduceLE, Int.reduceLT, Int.reducePow]; done) | (simp only [go_sem, kn30, numF, takeK, Try.ntmps30, reduceIte, reduceCtorEq, Nat.reduceAdd, Nat.reduceEqDiff, Nat.reduceLT, Nat.reduceLeDiff, Nat.reduceSub, Nat.reduceMul, Nat.reduceBEq, Int.reduceToNat, Int.reduceLE, Int.reduceLT, Int.reducePow]; omega)
        case k12 => simp only [go_sem, kn30, numF, takeK, Try.ntmps30, reduceIte, reduceCtorEq, Nat.reduceAdd, Nat.reduceEqDiff, Nat.reduceLT, Nat.reduceLeDiff, Nat.reduceSub, Nat.reduceMul, Nat.reduceBEq, Int.reduceToNat, Int.reduceLE, Int.reduceLT, Int.reducePow]; rfl
        refine AWp.ret ?_
        refine ends_p (vs := ?vs1) (ob := ?ro1) (vs' := ?ws1) (ks := ?ks1) (ob2 := ?rp1) tab_ok (by simp) ?er1 ?eo1 ?ef1 ?eg1 ?en1 ?ek1 ?ev1
        case er1 => simp only [go_sem, kn30, numF, takeK, Try.ntmps30, reduceIte, reduceCtorEq, Nat.reduceAdd, Nat.reduceEqDiff, Nat.reduceLT, Nat.reduceLeDiff, Nat.reduceSub, Nat.reduceMul, Nat.reduceBEq, Int.reduceToNat, Int.reduceLE, Int.reduceLT, Int.reducePow, Try.results30]; rfl
        case eo1 => first | exact True.intro | simp only [go_sem, kn30, numF, takeK, Try.ntmps30, reduceIte, reduceCtorEq, Nat.reduceAdd, Nat.reduceEqDiff, Nat.reduceLT, Nat.reduceLeDiff, Nat.reduceSub, Nat.reduceMul, Nat.reduceBEq, Int.reduceToNat, Int.reduceLE, Int.reduceLT, Int.reducePow]
        case ef1 => simp only [go_sem, kn30, numF, takeK, Try.ntmps30, reduceIte, reduceCtorEq, Nat.reduceAdd, Nat.reduceEqDiff, Nat.reduceLT, Nat.reduceLeDiff, Nat.reduceSub, Nat.reduceMul, Nat.reduceBEq, Int.reduceToNat, Int.reduceLE, Int.reduceLT, Int.reducePow]; rfl
        case eg1 => simp [fdrow_len]
        case en1 => simp only [go_sem, kn30, numF, takeK, Try.ntmps30, reduceIte, reduceCtorEq, Nat.reduceAdd, Nat.reduceEqDiff, Nat.reduceLT, Nat.reduceLeDiff, Nat.reduceSub, Nat.reduceMul, Nat.reduceBEq, Int.reduceToNat, Int.reduceLE, Int.reduceLT, Int.reducePow]
        case ek1 => simp only [go_sem, kn30, numF, takeK, Try.ntmps30, reduceIte, reduceCtorEq, Nat.reduceAdd, Nat.reduceEqDiff, Nat.reduceLT, Nat.reduceLeDiff, Nat.reduceSub, Nat.reduceMul, Nat.reduceBEq, Int.reduceToNat, Int.reduceLE, Int.reduceLT, Int.reducePow]
        case ev1 =>
          have hE2 : filesEnd s = (p, fs) := by
            rw [← hE]
            cases meas p with
            | zero => rfl
            | succ m => simp only [filesP, if_neg hc]
          rw [hE2]; rfl
  · cases hq

end Go.Proofs.Hg

set_option linter.unusedSimpArgs false
set_option linter.unusedVariables false
set_option maxHeartbeats 4000000
namespace Go.Proofs.Hg
open Go.RowKit
set_option maxRecDepth 100000
def rfN (t : List UInt8) : Nat := (t.getD 0 0).toNat
def rfBad1 (t : List UInt8) : Bool := decide (32 < rfN t) || decide (t.length < 13 + rfN t)
def rfSz (t : List UInt8) : Int := numI ((t.drop (9 + rfN t)).take 4)
def rfBad2 (t : List UInt8) : Bool := decide ((t.length : Int) < 13 + rfN t + rfSz t)
def rfFile (t : List UInt8) : FileL := ((t.drop 1).take (rfN t), numI ((t.drop (1 + rfN t)).take 8), (t.drop (13 + rfN t)).take (rfSz t).toNat)
def refF : Nat → List UInt8 → List FileL → Option (List FileL)
  | 0, t, fs => some fs
  | k + 1, t, fs => if t.length = 0 then some fs else if rfBad1 t || rfBad2 t then none else refF k (t.drop (13 + rfN t + (rfSz t).toNat)) (fs ++ [rfFile t])
theorem refF_more : ∀ (n : Nat) (t : List UInt8) (fs : List FileL), t.length ≤ n → refF n t fs = refF t.length t fs
  | 0, t, fs, h => by rw [Nat.le_zero.1 h]
  | n + 1, t, fs, h => by
    by_cases h0 : t.length = 0
    · rw [h0]; simp only [refF, if_pos h0]
    · obtain ⟨m, hm⟩ : ∃ m, t.length = m + 1 := ⟨t.length - 1, by omega⟩
      rw [hm]
      simp only [refF, if_neg h0]
      split
      · rfl
      · have hd : (t.drop (13 + rfN t + (rfSz t).toNat)).length ≤ m := by rw [List.length_drop]; omega
        rw [refF_more n _ _ (by omega)]
        by_cases he : m = n
        · rw [he, refF_more n _ _ (by omega)]
        · exact (refF_more m _ _ hd).symm
theorem rf_n (s : List UInt8) (a : Nat) : rfN (s.drop a) = (s.getD a 0).toNat := by
  simp [rfN, List.getD_eq_getElem?_getD, List.getElem?_drop]
theorem rfSz_rng (t : List UInt8) : 0 ≤ rfSz t ∧ rfSz t ≤ 4294967295 := num4 (by simp; omega)
theorem rf_sz (s : List UInt8) (a : Nat) : numI (List.take (((a : Int) + 13 + ((s.getD a 0).toNat : Int)).toNat - ((a : Int) + 13 + ((s.getD a 0).toNat : Int) - 4).toNat) (List.drop ((a : Int) + 13 + ((s.getD a 0).toNat : Int) - 4).toNat s)) = rfSz (s.drop a) := by
  unfold rfSz
  rw [rf_n, List.drop_drop]
  have e1 : ((a : Int) + 13 + ((s.getD a 0).toNat : Int) - 4).toNat = a + (9 + (s.getD a 0).toNat) := by omega
  have e2 : ((a : Int) + 13 + ((s.getD a 0).toNat : Int)).toNat - (a + (9 + (s.getD a 0).toNat)) = 4 := by omega
  rw [e1, e2]
theorem rf_path (s : List UInt8) (a : Nat) : List.take (((a : Int) + 1 + ((s.getD a 0).toNat : Int)).toNat - ((a : Int) + 1).toNat) (List.drop ((a : Int) + 1).toNat s) = (rfFile (s.drop a)).1 := by
  unfold rfFile
  rw [rf_n, List.drop_drop]
  have e1 : ((a : Int) + 1).toNat = a + 1 := by omega
  have e2 : ((a : Int) + 1 + ((s.getD a 0).toNat : Int)).toNat - (a + 1) = (s.getD a 0).toNat := by omega
  rw [e1, e2]
theorem rf_ver (s : List UInt8) (a : Nat) : numI (List.take (((a : Int) + 9 + ((s.getD a 0).toNat : Int)).toNat - ((a : Int) + 1 + ((s.getD a 0).toNat : Int)).toNat) (List.drop ((a : Int) + 1 + ((s.getD a 0).toNat : Int)).toNat s)) = (rfFile (s.drop a)).2.1 := by
  show _ = numI (List.take 8 (List.drop (1 + rfN (s.drop a)) (s.drop a)))
  rw [rf_n, List.drop_drop]
  have e1 : ((a : Int) + 1 + ((s.getD a 0).toNat : Int)).toNat = a + (1 + (s.getD a 0).toNat) := by omega
  have e2 : ((a : Int) + 9 + ((s.getD a 0).toNat : Int)).toNat - (a + (1 + (s.getD a 0).toNat)) = 8 := by omega
  rw [e1, e2]
theorem rf_con (s : List UInt8) (a : Nat) : List.take (((a : Int) + 13 + ((s.getD a 0).toNat : Int) + rfSz (s.drop a)).toNat - ((a : Int) + 13 + ((s.getD a 0).toNat : Int)).toNat) (List.drop ((a : Int) + 13 + ((s.getD a 0).toNat : Int)).toNat s) = (rfFile (s.drop a)).2.2 := by
  have h := rfSz_rng (s.drop a)
  unfold rfFile
  simp only
  rw [rf_n, List.drop_drop]
  generalize rfSz (s.drop a) = q at *
  have e1 : ((a : Int) + 13 + ((s.getD a 0).toNat : Int)).toNat = a + (13 + (s.getD a 0).toNat) := by omega
  have e2 : ((a : Int) + 13 + ((s.getD a 0).toNat : Int) + q).toNat - (a + (13 + (s.getD a 0).toNat)) = q.toNat := by omega
  rw [e1, e2]
theorem rf_step {s : List UInt8} {a : Nat} {fs : List FileL} (hi : a < s.length) : refF (s.length - a) (s.drop a) fs = if rfBad1 (s.drop a) || rfBad2 (s.drop a) then none else refF (s.length - (a + (13 + rfN (s.drop a) + (rfSz (s.drop a)).toNat))) (s.drop (a + (13 + rfN (s.drop a) + (rfSz (s.drop a)).toNat))) (fs ++ [rfFile (s.drop a)]) := by
  obtain ⟨m, hm⟩ : ∃ m, s.length - a = m + 1 := ⟨s.length - a - 1, by omega⟩
  rw [hm, refF, if_neg (by simp; omega)]
  split
  · rfl
  · rw [List.drop_drop, refF_more m _ _ (by simp; omega), List.length_drop]
def rfEnd (s : List UInt8) : Option (List FileL) := refF s.length s []
def rfV (s : List UInt8) : AVal := match rfEnd s with
  | some l => .tup [dv (.slice none 3 (fdrow l)), dv (.bool true)]
  | none => .tup [dv (.slice none 3 (fdrow [])), dv (.bool false)]
theorem rfV_ids (s : List UInt8) : (rfV s).ids = [] ∧ ∀ b x, rfV s ≠ .opt b x := by
  unfold rfV
  split <;> simp [AVal.ids, AV.ids, Sc.ids]
def rFilesF : List AV → Option (AVal × Prop)
  | [.s (.d (.slice z e es))] => some (rfV (unb es), e = 1 ∧ es = brow (unb es) ∧ es.length ≤ 1000000)
  | _ => none
def kn33 : List (Nat × Cont) := [(31, pureK rNumF)]
theorem kn33_ok : ∀ p ∈ kn33, ContOk Try.prog p.1 p.2 := by
  intro p hp
  simp only [kn33, List.mem_cons, List.not_mem_nil, or_false] at hp
  rcases hp with rfl
  · exact rNumF_ok
theorem rFilesF_ok : ContOk Try.prog 33 (pureK rFilesF) := by
  refine pure_ok (nargs := 1) Try.func33 rfl (by kernel_rfl) (Nat.le_of_ble_eq_true (by kernel_rfl)) ?_
  intro args q hq hob
  unfold rFilesF at hq
  split at hq
  · rename_i z e es
    injection hq with hq
    subst hq
    obtain ⟨h1, h2, h3⟩ : e = 1 ∧ es = brow (unb es) ∧ es.length ≤ 1000000 := hob
    generalize unb es = s at *
    subst h1 h2
    rw [brow_length] at h3
    refine ⟨rfl, by simp [AV.ids, Sc.ids], (rfV_ids _).1, (rfV_ids _).2, ?_⟩
    refine AWp.seq ?_
    refine AWp.reg (S1 := ?S1) (ob := ?o1) (S' := ?K1) tab_ok (knowL_ok kn33_ok) mixed [0] ?r1 ?h1 ?k1 ?w1
    case r1 => simp only [go_sem, kn33, rNumF, rf_sz, rf_path, rf_ver, rf_con, Try.ntmps33, reduceIte, reduceCtorEq, Nat.reduceAdd, Nat.reduceEqDiff, Nat.reduceLT, Nat.reduceLeDiff, Nat.reduceSub, Nat.reduceMul, Nat.reduceBEq, Int.reduceToNat, Int.reduceLE, Int.reduceLT, Int.reducePow]; rfl
    case h1 => first | exact True.intro | omega | (simp only [go_sem, kn33, rNumF, rf_sz, rf_path, rf_ver, rf_con, Try.ntmps33, reduceIte, reduceCtorEq, Nat.reduceAdd, Nat.reduceEqDiff, Nat.reduceLT, Nat.reduceLeDiff, Nat.reduceSub, Nat.reduceMul, Nat.reduceBEq, Int.reduceToNat, Int.reduceLE, Int.reduceLT, Int.reducePow]; done) | (simp only [go_sem, kn33, rNumF, rf_sz, rf_path, rf_ver, rf_con, Try.ntmps33, reduceIte, reduceCtorEq, Nat.reduceAdd, Nat.reduceEqDiff, Nat.reduceLT, Nat.reduceLeDiff, Nat.reduceSub, Nat.reduceMul, Nat.reduceBEq, Int.reduceToNat, Int.reduceLE, Int.reduceLT, Int.reducePow]; omega)
    case k1 => simp only [go_sem, kn33, rNumF, rf_sz, rf_path, rf_ver, rf_con, Try.ntmps33, reduceIte, reduceCtorEq, Nat.reduceAdd, Nat.reduceEqDiff, Nat.reduceLT, Nat.reduceLeDiff, Nat.reduceSub, Nat.reduceMul, Nat.reduceBEq, Int.reduceToNat, Int.reduceLE, Int.reduceLT, Int.reducePow]; rfl
    refine AWp.seq ?_
    refine AWp.reg (S1 := ?S2) (ob := ?o2) (S' := ?K2) tab_ok (knowL_ok kn33_ok) mixed [0, 4] ?r2 ?h2 ?k2 ?w2
    case r2 => simp only [go_sem, kn33, rNumF, rf_sz, rf_path, rf_ver, rf_con, Try.ntmps33, reduceIte, reduceCtorEq, Nat.reduceAdd, Nat.reduceEqDiff, Nat.reduceLT, Nat.reduceLeDiff, Nat.reduceSub, Nat.reduceMul, Nat.reduceBEq, Int.reduceToNat, Int.reduceLE, Int.reduceLT, Int.reducePow]; rfl
    case h2 => first | exact True.intro | omega | (simp only [go_sem, kn33, rNumF, rf_sz, rf_path, rf_ver, rf_con, Try.ntmps33, reduceIte, reduceCtorEq, Nat.reduceAdd, Nat.reduceEqDiff, Nat.reduceLT, Nat.reduceLeDiff, Nat.reduceSub, Nat.reduceMul, Nat.reduceBEq, Int.reduceToNat, Int.reduceLE, Int.reduceLT, Int.reducePow]; done) | (simp only [go_sem, kn33, rNumF, rf_sz, rf_path, rf_ver, rf_con, Try.ntmps33, reduceIte, reduceCtorEq, Nat.reduceAdd, Nat.reduceEqDiff, Nat.reduceLT, Nat.reduceLeDiff, Nat.reduceSub, Nat.reduceMul, Nat.reduceBEq, Int.reduceToNat, Int.reduceLE, Int.reduceLT, Int.reducePow]; omega)
    case k2 => simp only [go_sem, kn33, rNumF, rf_sz, rf_path, rf_ver, rf_con, Try.ntmps33, reduceIte, reduceCtorEq, Nat.reduceAdd, Nat.reduceEqDiff, Nat.reduceLT, Nat.reduceLeDiff, Nat.reduceSub, Nat.reduceMul, Nat.reduceBEq, Int.reduceToNat, Int.reduceLE, Int.reduceLT, Int.reducePow]; rfl
    refine AWp.seq ?_
    refine AWp.reg (S1 := ?S3) (ob := ?o3) (S' := ?K3) tab_ok (knowL_ok kn33_ok) mixed [0, 4, 5] ?r3 ?h3 ?k3 ?w3
    case r3 => simp only [go_sem, kn33, rNumF, rf_sz, rf_path, rf_ver, rf_con, Try.ntmps33, reduceIte, reduceCtorEq, Nat.reduceAdd, Nat.reduceEqDiff, Nat.reduceLT, Nat.reduceLeDiff, Nat.reduceSub, Nat.reduceMul, Nat.reduceBEq, Int.reduceToNat, Int.reduceLE, Int.reduceLT, Int.reducePow]; rfl
    case h3 => first | exact True.intro | omega | (simp only [go_sem, kn33, rNumF, rf_sz, rf_path, rf_ver, rf_con, Try.ntmps33, reduceIte, reduceCtorEq, Nat.reduceAdd, Nat.reduceEqDiff, Nat.reduceLT, Nat.reduceLeDiff, Nat.reduceSub, Nat.reduceMul, Nat.reduceBEq, Int.reduceToNat, Int.reduceLE, Int.reduceLT, Int.reducePow]; done) | (simp only [go_sem, kn33, rNumF, rf_sz, rf_path, rf_ver, rf_con, Try.ntmps33, reduceIte, reduceCtorEq, Nat.reduceAdd, Nat.reduceEqDiff, Nat.reduceLT, Nat.reduceLeDiff, Nat.reduceSub, Nat.reduceMul, Nat.reduceBEq, Int.reduceToNat, Int.reduceLE, Int.reduceLT, Int.reducePow]; omega)
    case k3 => simp only [go_sem, kn33, rNumF, rf_sz, rf_path, rf_ver, rf_con, Try.ntmps33, reduceIte, reduceCtorEq, Nat.reduceAdd, Nat.reduceEqDiff, Nat.reduceLT, Nat.reduceLeDiff, Nat.reduceSub, Nat.reduceMul, Nat.reduceBEq, Int.reduceToNat, Int.reduceLE, Int.reduceLT, Int.reducePow]; rfl
    refine AWp.seq ?_
    refine AWp.block ?_
    refine AWp.conv (Conv.nilT 4 (e := 3) (ety := 56) rfl rfl) ?_
    refine AWp.conv (Conv.keep [0, 4, 5] [0] (by simp [St.nilT])) ?_
    refine AWp.loop (fun k S => ∃ (a : Nat) (fs : List FileL), a ≤ s.length ∧ k = s.length - a ∧ fs.length ≤ a ∧ refF (s.length - a) (s.drop a) fs = rfEnd s ∧ S = ⟨[(0, .one (.s (.d (.slice z 1 (brow s))))), (4, .one (.s (.row 0 3 0 fs.length none))), (5, .one (dv (.int .i64 ((a : Nat) : Int))))], [(0, .row (fdrow fs) 56)], 1⟩) s.length ?i1 ?n1
    case i1 =>
      exact ⟨0, [], by omega, rfl, by simp, rfl, rfl⟩
    case n1 =>
      rintro k S ⟨a, fs, ha, rfl, hlen, hE, rfl⟩
      refine AWp.seq ?_
      refine AWp.seq ?_
      refine AWp.reg (S1 := ?S4) (ob := ?o4) (S' := ?K4) tab_ok (knowL_ok kn33_ok) mixed [0, 4, 5, 12] ?r4 ?h4 ?k4 ?w4
      case r4 => simp only [go_sem, kn33, rNumF, rf_sz, rf_path, rf_ver, rf_con, Try.ntmps33, reduceIte, reduceCtorEq, Nat.reduceAdd, Nat.reduceEqDiff, Nat.reduceLT, Nat.reduceLeDiff, Nat.reduceSub, Nat.reduceMul, Nat.reduceBEq, Int.reduceToNat, Int.reduceLE, Int.reduceLT, Int.reducePow]; rfl
      case h4 => first | exact True.intro | omega | (simp only [go_sem, kn33, rNumF, rf_sz, rf_path, rf_ver, rf_con, Try.ntmps33, reduceIte, reduceCtorEq, Nat.reduceAdd, Nat.reduceEqDiff, Nat.reduceLT, Nat.reduceLeDiff, Nat.reduceSub, Nat.reduceMul, Nat.reduceBEq, Int.reduceToNat, Int.reduceLE, Int.reduceLT, Int.reducePow]; done) | (simp only [go_sem, kn33, rNumF, rf_sz, rf_path, rf_ver, rf_con, Try.ntmps33, reduceIte, reduceCtorEq, Nat.reduceAdd, Nat.reduceEqDiff, Nat.reduceLT, Nat.reduceLeDiff, Nat.reduceSub, Nat.reduceMul, Nat.reduceBEq, Int.reduceToNat, Int.reduceLE, Int.reduceLT, Int.reducePow]; omega)
      case k4 => simp only [go_sem, kn33, rNumF, rf_sz, rf_path, rf_ver, rf_con, Try.ntmps33, reduceIte, reduceCtorEq, Nat.reduceAdd, Nat.reduceEqDiff, Nat.reduceLT, Nat.reduceLeDiff, Nat.reduceSub, Nat.reduceMul, Nat.reduceBEq, Int.reduceToNat, Int.reduceLE, Int.reduceLT, Int.reducePow]; rfl
      refine AWp.cond (b := ?b5) ?c5 ?t5 ?f5
      case c5 => simp only [go_sem, kn33, rNumF, rf_sz, rf_path, rf_ver, rf_con, Try.ntmps33, reduceIte, reduceCtorEq, Nat.reduceAdd, Nat.reduceEqDiff, Nat.reduceLT, Nat.reduceLeDiff, Nat.reduceSub, Nat.reduceMul, Nat.reduceBEq, Int.reduceToNat, Int.reduceLE, Int.reduceLT, Int.reducePow]; rfl
      case t5 =>
        intro hb1
        have hi : a < s.length := by simp at hb1; omega
        have h256 := (s.getD a 0).toNat_lt
        have hn := rf_n s a
        have hr := rfSz_rng (s.drop a)
        have hst := rf_step (fs := fs) hi
        rw [hE] at hst
        have hdl : (s.drop a).length = s.length - a := List.length_drop ..
        refine AWp.skip ?_
        refine AWp.block ?_
        refine AWp.seq ?_
        refine AWp.reg (S1 := ?S6) (ob := ?o6) (S' := ?K6) tab_ok (knowL_ok kn33_ok) mixed [0, 4, 5, 6] ?r6 ?h6 ?k6 ?w6
        case r6 => simp only [go_sem, kn33, rNumF, rf_sz, rf_path, rf_ver, rf_con, Try.ntmps33, reduceIte, reduceCtorEq, Nat.reduceAdd, Nat.reduceEqDiff, Nat.reduceLT, Nat.reduceLeDiff, Nat.reduceSub, Nat.reduceMul, Nat.reduceBEq, Int.reduceToNat, Int.reduceLE, Int.reduceLT, Int.reducePow]; rfl
        case h6 => first | exact True.intro | omega | (simp only [go_sem, kn33, rNumF, rf_sz, rf_path, rf_ver, rf_con, Try.ntmps33, reduceIte, reduceCtorEq, Nat.reduceAdd, Nat.reduceEqDiff, Nat.reduceLT, Nat.reduceLeDiff, Nat.reduceSub, Nat.reduceMul, Nat.reduceBEq, Int.reduceToNat, Int.reduceLE, Int.reduceLT, Int.reducePow]; done) | (simp only [go_sem, kn33, rNumF, rf_sz, rf_path, rf_ver, rf_con, Try.ntmps33, reduceIte, reduceCtorEq, Nat.reduceAdd, Nat.reduceEqDiff, Nat.reduceLT, Nat.reduceLeDiff, Nat.reduceSub, Nat.reduceMul, Nat.reduceBEq, Int.reduceToNat, Int.reduceLE, Int.reduceLT, Int.reducePow]; omega)
        case k6 => simp only [go_sem, kn33, rNumF, rf_sz, rf_path, rf_ver, rf_con, Try.ntmps33, reduceIte, reduceCtorEq, Nat.reduceAdd, Nat.reduceEqDiff, Nat.reduceLT, Nat.reduceLeDiff, Nat.reduceSub, Nat.reduceMul, Nat.reduceBEq, Int.reduceToNat, Int.reduceLE, Int.reduceLT, Int.reducePow]; rfl
        refine AWp.seq ?_
        refine AWp.seq ?_
        refine AWp.reg (S1 := ?S7) (ob := ?o7) (S' := ?K7) tab_ok (knowL_ok kn33_ok) mixed [0, 4, 5, 6, 29] ?r7 ?h7 ?k7 ?w7
        case r7 => simp only [go_sem, kn33, rNumF, rf_sz, rf_path, rf_ver, rf_con, Try.ntmps33, reduceIte, reduceCtorEq, Nat.reduceAdd, Nat.reduceEqDiff, Nat.reduceLT, Nat.reduceLeDiff, Nat.reduceSub, Nat.reduceMul, Nat.reduceBEq, Int.reduceToNat, Int.reduceLE, Int.reduceLT, Int.reducePow]; rfl
        case h7 => first | exact True.intro | omega | (simp only [go_sem, kn33, rNumF, rf_sz, rf_path, rf_ver, rf_con, Try.ntmps33, reduceIte, reduceCtorEq, Nat.reduceAdd, Nat.reduceEqDiff, Nat.reduceLT, Nat.reduceLeDiff, Nat.reduceSub, Nat.reduceMul, Nat.reduceBEq, Int.reduceToNat, Int.reduceLE, Int.reduceLT, Int.reducePow]; done) | (simp only [go_sem, kn33, rNumF, rf_sz, rf_path, rf_ver, rf_con, Try.ntmps33, reduceIte, reduceCtorEq, Nat.reduceAdd, Nat.reduceEqDiff, Nat.reduceLT, Nat.reduceLeDiff, Nat.reduceSub, Nat.reduceMul, Nat.reduceBEq, Int.reduceToNat, Int.reduceLE, Int.reduceLT, Int.reducePow]; omega)
        case k7 => simp only [go_sem, kn33, rNumF, rf_sz, rf_path, rf_ver, rf_con, Try.ntmps33, reduceIte, reduceCtorEq, Nat.reduceAdd, Nat.reduceEqDiff, Nat.reduceLT, Nat.reduceLeDiff, Nat.reduceSub, Nat.reduceMul, Nat.reduceBEq, Int.reduceToNat, Int.reduceLE, Int.reduceLT, Int.reducePow]; rfl
        refine AWp.cond (b := ?b8) ?c8 ?t8 ?f8
        case c8 => simp only [go_sem, kn33, rNumF, rf_sz, rf_path, rf_ver, rf_con, Try.ntmps33, reduceIte, reduceCtorEq, Nat.reduceAdd, Nat.reduceEqDiff, Nat.reduceLT, Nat.reduceLeDiff, Nat.reduceSub, Nat.reduceMul, Nat.reduceBEq, Int.reduceToNat, Int.reduceLE, Int.reduceLT, Int.reducePow]; rfl
        case t8 =>
          intro hb2
          have hbad : rfBad1 (s.drop a) = true := by simp only [rfBad1, hn, hdl, Bool.or_eq_true, decide_eq_true_eq] at hb2 ⊢; omega
          refine AWp.seq ?_
          refine AWp.reg (S1 := ?S9) (ob := ?o9) (S' := ?K9) tab_ok (knowL_ok kn33_ok) mixed [2, 3] ?r9 ?h9 ?k9 ?w9
          case r9 => simp only [go_sem, kn33, rNumF, rf_sz, rf_path, rf_ver, rf_con, Try.ntmps33, reduceIte, reduceCtorEq, Nat.reduceAdd, Nat.reduceEqDiff, Nat.reduceLT, Nat.reduceLeDiff, Nat.reduceSub, Nat.reduceMul, Nat.reduceBEq, Int.reduceToNat, Int.reduceLE, Int.reduceLT, Int.reducePow]; rfl
          case h9 => first | exact True.intro | omega | (simp only [go_sem, kn33, rNumF, rf_sz, rf_path, rf_ver, rf_con, Try.ntmps33, reduceIte, reduceCtorEq, Nat.reduceAdd, Nat.reduceEqDiff, Nat.reduceLT, Nat.reduceLeDiff, Nat.reduceSub, Nat.reduceMul, Nat.reduceBEq, Int.reduceToNat, Int.reduceLE, Int.reduceLT, Int.reducePow]; done) | (simp only [go_sem, kn33, rNumF, rf_sz, rf_path, rf_ver, rf_con, Try.ntmps33, reduceIte, reduceCtorEq, Nat.reduceAdd, Nat.reduceEqDiff, Nat.reduceLT, Nat.reduceLeDiff, Nat.reduceSub, Nat.reduceMul, Nat.reduceBEq, Int.reduceToNat, Int.reduceLE, Int.reduceLT, Int.reducePow]; omega)
          case k9 => simp only [go_sem, kn33, rNumF, rf_sz, rf_path, rf_ver, rf_con, Try.ntmps33, reduceIte, reduceCtorEq, Nat.reduceAdd, Nat.reduceEqDiff, Nat.reduceLT, Nat.reduceLeDiff, Nat.reduceSub, Nat.reduceMul, Nat.reduceBEq, Int.reduceToNat, Int.reduceLE, Int.reduceLT, Int.reducePow]; rfl
          refine AWp.conv (Conv.nilT 2 (e := 3) (ety := 56) rfl rfl) ?_
          refine AWp.ret ?_
          refine ends_p (vs := ?vs1) (ob := ?ro1) (vs' := ?ws1) (ks := ?ks1) (ob2 := ?rp1) tab_ok (by simp) ?er1 ?eo1 ?ef1 ?eg1 ?en1 ?ek1 ?ev1
          case er1 => simp only [go_sem, kn33, rNumF, rf_sz, rf_path, rf_ver, rf_con, Try.ntmps33, reduceIte, reduceCtorEq, Nat.reduceAdd, Nat.reduceEqDiff, Nat.reduceLT, Nat.reduceLeDiff, Nat.reduceSub, Nat.reduceMul, Nat.reduceBEq, Int.reduceToNat, Int.reduceLE, Int.reduceLT, Int.reducePow, Try.results33]; rfl
          case eo1 => first | exact True.intro | simp only [go_sem, kn33, rNumF, rf_sz, rf_path, rf_ver, rf_con, Try.ntmps33, reduceIte, reduceCtorEq, Nat.reduceAdd, Nat.reduceEqDiff, Nat.reduceLT, Nat.reduceLeDiff, Nat.reduceSub, Nat.reduceMul, Nat.reduceBEq, Int.reduceToNat, Int.reduceLE, Int.reduceLT, Int.reducePow]
          case ef1 => simp only [go_sem, kn33, rNumF, rf_sz, rf_path, rf_ver, rf_con, Try.ntmps33, reduceIte, reduceCtorEq, Nat.reduceAdd, Nat.reduceEqDiff, Nat.reduceLT, Nat.reduceLeDiff, Nat.reduceSub, Nat.reduceMul, Nat.reduceBEq, Int.reduceToNat, Int.reduceLE, Int.reduceLT, Int.reducePow]; rfl
          case eg1 => simp
          case en1 => simp only [go_sem, kn33, rNumF, rf_sz, rf_path, rf_ver, rf_con, Try.ntmps33, reduceIte, reduceCtorEq, Nat.reduceAdd, Nat.reduceEqDiff, Nat.reduceLT, Nat.reduceLeDiff, Nat.reduceSub, Nat.reduceMul, Nat.reduceBEq, Int.reduceToNat, Int.reduceLE, Int.reduceLT, Int.reducePow]
          case ek1 => simp only [go_sem, kn33, rNumF, rf_sz, rf_path, rf_ver, rf_con, Try.ntmps33, reduceIte, reduceCtorEq, Nat.reduceAdd, Nat.reduceEqDiff, Nat.reduceLT, Nat.reduceLeDiff, Nat.reduceSub, Nat.reduceMul, Nat.reduceBEq, Int.reduceToNat, Int.reduceLE, Int.reduceLT, Int.reducePow]
          case ev1 =>
            have h0 : rfEnd s = none := by rw [hst, hbad]; rfl
            rw [rfV, h0]; rfl
        case f8 =>
          intro hb2
          have hbad : rfBad1 (s.drop a) = false := by simp only [rfBad1, hn, hdl, Bool.or_eq_false_iff, decide_eq_false_iff_not] at hb2 ⊢; omega
          simp only [Bool.or_eq_false_iff, decide_eq_false_iff_not] at hb2
          refine AWp.skip ?_
          refine AWp.seq ?_
          refine AWp.drw (S1 := ?S10) (ob := ?o10) (lts := ?t10) (S' := ?K10) tab_ok (knowL_ok kn33_ok) mixed [0, 4, 5, 6, 7] ?r10 ?d10 ?h10 ?k10 ?w10
          case r10 => simp only [go_sem, kn33, rNumF, rf_sz, rf_path, rf_ver, rf_con, Try.ntmps33, reduceIte, reduceCtorEq, Nat.reduceAdd, Nat.reduceEqDiff, Nat.reduceLT, Nat.reduceLeDiff, Nat.reduceSub, Nat.reduceMul, Nat.reduceBEq, Int.reduceToNat, Int.reduceLE, Int.reduceLT, Int.reducePow]; rfl
          case d10 => first | kernel_rfl | rfl
          case h10 =>
            have e9 : ((a : Int) + 9 + ((s.getD a 0).toNat : Int)).toNat - ((a : Int) + 1 + ((s.getD a 0).toNat : Int)).toNat = 8 := by omega
            have e10 : (List.take (((a : Int) + 9 + ((s.getD a 0).toNat : Int)).toNat - ((a : Int) + 1 + ((s.getD a 0).toNat : Int)).toNat) (List.drop ((a : Int) + 1 + ((s.getD a 0).toNat : Int)).toNat s)).length ≤ 8 := by rw [e9, List.length_take]; omega
            omega
          case k10 => simp only [go_sem, kn33, rNumF, rf_sz, rf_path, rf_ver, rf_con, Try.ntmps33, reduceIte, reduceCtorEq, Nat.reduceAdd, Nat.reduceEqDiff, Nat.reduceLT, Nat.reduceLeDiff, Nat.reduceSub, Nat.reduceMul, Nat.reduceBEq, Int.reduceToNat, Int.reduceLE, Int.reduceLT, Int.reducePow]; rfl
          refine AWp.seq ?_
          refine AWp.reg (S1 := ?S11) (ob := ?o11) (S' := ?K11) tab_ok (knowL_ok kn33_ok) mixed [0, 4, 5, 7] ?r11 ?h11 ?k11 ?w11
          case r11 => simp only [go_sem, kn33, rNumF, rf_sz, rf_path, rf_ver, rf_con, Try.ntmps33, reduceIte, reduceCtorEq, Nat.reduceAdd, Nat.reduceEqDiff, Nat.reduceLT, Nat.reduceLeDiff, Nat.reduceSub, Nat.reduceMul, Nat.reduceBEq, Int.reduceToNat, Int.reduceLE, Int.reduceLT, Int.reducePow]; rfl
          case h11 => first | exact True.intro | omega | (simp only [go_sem, kn33, rNumF, rf_sz, rf_path, rf_ver, rf_con, Try.ntmps33, reduceIte, reduceCtorEq, Nat.reduceAdd, Nat.reduceEqDiff, Nat.reduceLT, Nat.reduceLeDiff, Nat.reduceSub, Nat.reduceMul, Nat.reduceBEq, Int.reduceToNat, Int.reduceLE, Int.reduceLT, Int.reducePow]; done) | (simp only [go_sem, kn33, rNumF, rf_sz, rf_path, rf_ver, rf_con, Try.ntmps33, reduceIte, reduceCtorEq, Nat.reduceAdd, Nat.reduceEqDiff, Nat.reduceLT, Nat.reduceLeDiff, Nat.reduceSub, Nat.reduceMul, Nat.reduceBEq, Int.reduceToNat, Int.reduceLE, Int.reduceLT, Int.reducePow]; omega)
          case k11 => simp only [go_sem, kn33, rNumF, rf_sz, rf_path, rf_ver, rf_con, Try.ntmps33, reduceIte, reduceCtorEq, Nat.reduceAdd, Nat.reduceEqDiff, Nat.reduceLT, Nat.reduceLeDiff, Nat.reduceSub, Nat.reduceMul, Nat.reduceBEq, Int.reduceToNat, Int.reduceLE, Int.reduceLT, Int.reducePow]; rfl
          refine AWp.seq ?_
          refine AWp.reg (S1 := ?S12) (ob := ?o12) (S' := ?K12) tab_ok (knowL_ok kn33_ok) mixed [0, 4, 5, 7, 8] ?r12 ?h12 ?k12 ?w12
          case r12 => simp only [go_sem, kn33, rNumF, rf_sz, rf_path, rf_ver, rf_con, Try.ntmps33, reduceIte, reduceCtorEq, Nat.reduceAdd, Nat.reduceEqDiff, Nat.reduceLT, Nat.reduceLeDiff, Nat.reduceSub, Nat.reduceMul, Nat.reduceBEq, Int.reduceToNat, Int.reduceLE, Int.reduceLT, Int.reducePow]; rfl
          case h12 =>
            have e9 : ((a : Int) + 13 + ((s.getD a 0).toNat : Int)).toNat - ((a : Int) + 13 + ((s.getD a 0).toNat : Int) - 4).toNat = 4 := by omega
            have e10 : (List.take (((a : Int) + 13 + ((s.getD a 0).toNat : Int)).toNat - ((a : Int) + 13 + ((s.getD a 0).toNat : Int) - 4).toNat) (List.drop ((a : Int) + 13 + ((s.getD a 0).toNat : Int) - 4).toNat s)).length ≤ 8 := by rw [e9, List.length_take]; omega
            omega
          case k12 => simp only [go_sem, kn33, rNumF, rf_sz, rf_path, rf_ver, rf_con, Try.ntmps33, reduceIte, reduceCtorEq, Nat.reduceAdd, Nat.reduceEqDiff, Nat.reduceLT, Nat.reduceLeDiff, Nat.reduceSub, Nat.reduceMul, Nat.reduceBEq, Int.reduceToNat, Int.reduceLE, Int.reduceLT, Int.reducePow]; rfl
          refine AWp.seq ?_
          refine AWp.seq ?_
          refine AWp.reg (S1 := ?S13) (ob := ?o13) (S' := ?K13) tab_ok (knowL_ok kn33_ok) mixed [0, 4, 5, 7, 8, 66] ?r13 ?h13 ?k13 ?w13
          case r13 => simp only [go_sem, kn33, rNumF, rf_sz, rf_path, rf_ver, rf_con, Try.ntmps33, reduceIte, reduceCtorEq, Nat.reduceAdd, Nat.reduceEqDiff, Nat.reduceLT, Nat.reduceLeDiff, Nat.reduceSub, Nat.reduceMul, Nat.reduceBEq, Int.reduceToNat, Int.reduceLE, Int.reduceLT, Int.reducePow]; rfl
          case h13 => first | exact True.intro | omega | (simp only [go_sem, kn33, rNumF, rf_sz, rf_path, rf_ver, rf_con, Try.ntmps33, reduceIte, reduceCtorEq, Nat.reduceAdd, Nat.reduceEqDiff, Nat.reduceLT, Nat.reduceLeDiff, Nat.reduceSub, Nat.reduceMul, Nat.reduceBEq, Int.reduceToNat, Int.reduceLE, Int.reduceLT, Int.reducePow]; done) | (simp only [go_sem, kn33, rNumF, rf_sz, rf_path, rf_ver, rf_con, Try.ntmps33, reduceIte, reduceCtorEq, Nat.reduceAdd, Nat.reduceEqDiff, Nat.reduceLT, Nat.reduceLeDiff, Nat.reduceSub, Nat.reduceMul, Nat.reduceBEq, Int.reduceToNat, Int.reduceLE, Int.reduceLT, Int.reducePow]; omega)
          case k13 => simp only [go_sem, kn33, rNumF, rf_sz, rf_path, rf_ver, rf_con, Try.ntmps33, reduceIte, reduceCtorEq, Nat.reduceAdd, Nat.reduceEqDiff, Nat.reduceLT, Nat.reduceLeDiff, Nat.reduceSub, Nat.reduceMul, Nat.reduceBEq, Int.reduceToNat, Int.reduceLE, Int.reduceLT, Int.reducePow]; rfl
          refine AWp.cond (b := ?b14) ?c14 ?t14 ?f14
          case c14 => simp only [go_sem, kn33, rNumF, rf_sz, rf_path, rf_ver, rf_con, Try.ntmps33, reduceIte, reduceCtorEq, Nat.reduceAdd, Nat.reduceEqDiff, Nat.reduceLT, Nat.reduceLeDiff, Nat.reduceSub, Nat.reduceMul, Nat.reduceBEq, Int.reduceToNat, Int.reduceLE, Int.reduceLT, Int.reducePow]; rfl
          case t14 =>
            intro hb3
            have hbad2 : rfBad2 (s.drop a) = true := by simp only [rfBad2, hn, hdl, decide_eq_true_eq] at hb3 ⊢; omega
            refine AWp.seq ?_
            refine AWp.reg (S1 := ?S15) (ob := ?o15) (S' := ?K15) tab_ok (knowL_ok kn33_ok) mixed [2, 3] ?r15 ?h15 ?k15 ?w15
            case r15 => simp only [go_sem, kn33, rNumF, rf_sz, rf_path, rf_ver, rf_con, Try.ntmps33, reduceIte, reduceCtorEq, Nat.reduceAdd, Nat.reduceEqDiff, Nat.reduceLT, Nat.reduceLeDiff, Nat.reduceSub, Nat.reduceMul, Nat.reduceBEq, Int.reduceToNat, Int.reduceLE, Int.reduceLT, Int.reducePow]; rfl
            case h15 => first | exact True.intro | omega | (simp only [go_sem, kn33, rNumF, rf_sz, rf_path, rf_ver, rf_con, Try.ntmps33, reduceIte, reduceCtorEq, Nat.reduceAdd, Nat.reduceEqDiff, Nat.reduceLT, Nat.reduceLeDiff, Nat.reduceSub, Nat.reduceMul, Nat.reduceBEq, Int.reduceToNat, Int.reduceLE, Int.reduceLT, Int.reducePow]; done) | (simp only [go_sem, kn33, rNumF, rf_sz, rf_path, rf_ver, rf_con, Try.ntmps33, reduceIte, reduceCtorEq, Nat.reduceAdd, Nat.reduceEqDiff, Nat.reduceLT, Nat.reduceLeDiff, Nat.reduceSub, Nat.reduceMul, Nat.reduceBEq, Int.reduceToNat, Int.reduceLE, Int.reduceLT, Int.reducePow]; omega)
            case k15 => simp only [go_sem, kn33, rNumF, rf_sz, rf_path, rf_ver, rf_con, Try.ntmps33, reduceIte, reduceCtorEq, Nat.reduceAdd, Nat.reduceEqDiff, Nat.reduceLT, Nat.reduceLeDiff, Nat.reduceSub, Nat.reduceMul, Nat.reduceBEq, Int.reduceToNat, Int.reduceLE, Int.reduceLT, Int.reducePow]; rfl
            refine AWp.conv (Conv.nilT 2 (e := 3) (ety := 56) rfl rfl) ?_
            refine AWp.ret ?_
            refine ends_p (vs := ?vs2) (ob := ?ro2) (vs' := ?ws2) (ks := ?ks2) (ob2 := ?rp2) tab_ok (by simp) ?er2 ?eo2 ?ef2 ?eg2 ?en2 ?ek2 ?ev2
            case er2 => simp only [go_sem, kn33, rNumF, rf_sz, rf_path, rf_ver, rf_con, Try.ntmps33, reduceIte, reduceCtorEq, Nat.reduceAdd, Nat.reduceEqDiff, Nat.reduceLT, Nat.reduceLeDiff, Nat.reduceSub, Nat.reduceMul, Nat.reduceBEq, Int.reduceToNat, Int.reduceLE, Int.reduceLT, Int.reducePow, Try.results33]; rfl
            case eo2 => first | exact True.intro | simp only [go_sem, kn33, rNumF, rf_sz, rf_path, rf_ver, rf_con, Try.ntmps33, reduceIte, reduceCtorEq, Nat.reduceAdd, Nat.reduceEqDiff, Nat.reduceLT, Nat.reduceLeDiff, Nat.reduceSub, Nat.reduceMul, Nat.reduceBEq, Int.reduceToNat, Int.reduceLE, Int.reduceLT, Int.reducePow]
            case ef2 => simp only [go_sem, kn33, rNumF, rf_sz, rf_path, rf_ver, rf_con, Try.ntmps33, reduceIte, reduceCtorEq, Nat.reduceAdd, Nat.reduceEqDiff, Nat.reduceLT, Nat.reduceLeDiff, Nat.reduceSub, Nat.reduceMul, Nat.reduceBEq, Int.reduceToNat, Int.reduceLE, Int.reduceLT, Int.reducePow]; rfl
            case eg2 => simp
            case en2 => simp only [go_sem, kn33, rNumF, rf_sz, rf_path, rf_ver, rf_con, Try.ntmps33, reduceIte, reduceCtorEq, Nat.reduceAdd, Nat.reduceEqDiff, Nat.reduceLT, Nat.reduceLeDiff, Nat.reduceSub, Nat.reduceMul, Nat.reduceBEq, Int.reduceToNat, Int.reduceLE, Int.reduceLT, Int.reducePow]
            case ek2 => simp only [go_sem, kn33, rNumF, rf_sz, rf_path, rf_ver, rf_con, Try.ntmps33, reduceIte, reduceCtorEq, Nat.reduceAdd, Nat.reduceEqDiff, Nat.reduceLT, Nat.reduceLeDiff, Nat.reduceSub, Nat.reduceMul, Nat.reduceBEq, Int.reduceToNat, Int.reduceLE, Int.reduceLT, Int.reducePow]
            case ev2 =>
              have h0 : rfEnd s = none := by rw [hst, hbad, hbad2]; rfl
              rw [rfV, h0]; rfl
          case f14 =>
            intro hb3
            have hbad2 : rfBad2 (s.drop a) = false := by simp only [rfBad2, hn, hdl, decide_eq_false_iff_not] at hb3 ⊢; omega
            simp only [decide_eq_false_iff_not] at hb3
            rw [hbad, hbad2] at hst
            refine AWp.skip ?_
            refine AWp.seq ?_
            refine AWp.reg (S1 := ?S16) (ob := ?o16) (S' := ?K16) tab_ok (knowL_ok kn33_ok) mixed [0, 4, 5, 7, 8] ?r16 ?h16 ?k16 ?w16
            case r16 => simp only [go_sem, kn33, rNumF, rf_sz, rf_path, rf_ver, rf_con, Try.ntmps33, reduceIte, reduceCtorEq, Nat.reduceAdd, Nat.reduceEqDiff, Nat.reduceLT, Nat.reduceLeDiff, Nat.reduceSub, Nat.reduceMul, Nat.reduceBEq, Int.reduceToNat, Int.reduceLE, Int.reduceLT, Int.reducePow]; rfl
            case h16 => first | exact True.intro | omega | (simp only [go_sem, kn33, rNumF, rf_sz, rf_path, rf_ver, rf_con, Try.ntmps33, reduceIte, reduceCtorEq, Nat.reduceAdd, Nat.reduceEqDiff, Nat.reduceLT, Nat.reduceLeDiff, Nat.reduceSub, Nat.reduceMul, Nat.reduceBEq, Int.reduceToNat, Int.reduceLE, Int.reduceLT, Int.reducePow]; done) | (simp only [go_sem, kn33, rNumF, rf_sz, rf_path, rf_ver, rf_con, Try.ntmps33, reduceIte, reduceCtorEq, Nat.reduceAdd, Nat.reduceEqDiff, Nat.reduceLT, Nat.reduceLeDiff, Nat.reduceSub, Nat.reduceMul, Nat.reduceBEq, Int.reduceToNat, Int.reduceLE, Int.reduceLT, Int.reducePow]; omega)
            case k16 => simp only [go_sem, kn33, rNumF, rf_sz, rf_path, rf_ver, rf_con, Try.ntmps33, reduceIte, reduceCtorEq, Nat.reduceAdd, Nat.reduceEqDiff, Nat.reduceLT, Nat.reduceLeDiff, Nat.reduceSub, Nat.reduceMul, Nat.reduceBEq, Int.reduceToNat, Int.reduceLE, Int.reduceLT, Int.reducePow]; rfl
            refine AWp.seq ?_
            refine AWp.reg (S1 := ?S17) (ob := ?o17) (S' := ?K17) tab_ok (knowL_ok kn33_ok) mixed [0, 4, 5, 7] ?r17 ?h17 ?k17 ?w17
            case r17 => simp only [go_sem, kn33, rNumF, rf_sz, rf_path, rf_ver, rf_con, Try.ntmps33, reduceIte, reduceCtorEq, Nat.reduceAdd, Nat.reduceEqDiff, Nat.reduceLT, Nat.reduceLeDiff, Nat.reduceSub, Nat.reduceMul, Nat.reduceBEq, Int.reduceToNat, Int.reduceLE, Int.reduceLT, Int.reducePow]; rfl
            case h17 => first | exact True.intro | omega | (simp only [go_sem, kn33, rNumF, rf_sz, rf_path, rf_ver, rf_con, Try.ntmps33, reduceIte, reduceCtorEq, Nat.reduceAdd, Nat.reduceEqDiff, Nat.reduceLT, Nat.reduceLeDiff, Nat.reduceSub, Nat.reduceMul, Nat.reduceBEq, Int.reduceToNat, Int.reduceLE, Int.reduceLT, Int.reducePow]; done) | (simp only [go_sem, kn33, rNumF, rf_sz, rf_path, rf_ver, rf_con, Try.ntmps33, reduceIte, reduceCtorEq, Nat.reduceAdd, Nat.reduceEqDiff, Nat.reduceLT, Nat.reduceLeDiff, Nat.reduceSub, Nat.reduceMul, Nat.reduceBEq, Int.reduceToNat, Int.reduceLE, Int.reduceLT, Int.reducePow]; omega)
            case k17 => simp only [go_sem, kn33, rNumF, rf_sz, rf_path, rf_ver, rf_con, Try.ntmps33, reduceIte, reduceCtorEq, Nat.reduceAdd, Nat.reduceEqDiff, Nat.reduceLT, Nat.reduceLeDiff, Nat.reduceSub, Nat.reduceMul, Nat.reduceBEq, Int.reduceToNat, Int.reduceLE, Int.reduceLT, Int.reducePow]; rfl
            refine AWp.reg (S1 := ?S18) (ob := ?o18) (S' := ?K18) tab_ok (knowL_ok kn33_ok) mixed [0, 4, 5] ?r18 ?h18 ?k18 ?w18
            case r18 => simp only [go_sem, kn33, rNumF, rf_sz, rf_path, rf_ver, rf_con, Try.ntmps33, reduceIte, reduceCtorEq, Nat.reduceAdd, Nat.reduceEqDiff, Nat.reduceLT, Nat.reduceLeDiff, Nat.reduceSub, Nat.reduceMul, Nat.reduceBEq, Int.reduceToNat, Int.reduceLE, Int.reduceLT, Int.reducePow]; rfl
            case h18 =>
              rw [fdrow_len]
              omega
            case k18 => simp only [go_sem, kn33, rNumF, rf_sz, rf_path, rf_ver, rf_con, Try.ntmps33, reduceIte, reduceCtorEq, Nat.reduceAdd, Nat.reduceEqDiff, Nat.reduceLT, Nat.reduceLeDiff, Nat.reduceSub, Nat.reduceMul, Nat.reduceBEq, Int.reduceToNat, Int.reduceLE, Int.reduceLT, Int.reducePow]; rfl
            refine ⟨s.length - (a + (13 + rfN (s.drop a) + (rfSz (s.drop a)).toNat)), ⟨[(0, .one (.s (.d (.slice z 1 (brow s))))), (4, .one (.s (.row 0 3 0 (fs ++ [rfFile (s.drop a)]).length none))), (5, .one (dv (.int .i64 (((a + (13 + rfN (s.drop a) + (rfSz (s.drop a)).toNat)) : Nat) : Int))))], [(0, .row (fdrow (fs ++ [rfFile (s.drop a)])) 56)], 1⟩, by omega, ?_, _, _, by omega, rfl, by rw [List.length_append]; simp only [List.length_cons, List.length_nil]; omega, hst.symm, rfl⟩
            have e5 : ((a + (13 + rfN (s.drop a) + (rfSz (s.drop a)).toNat) : Nat) : Int) = (a : Int) + 13 + ((s.getD a 0).toNat : Int) + rfSz (s.drop a) := by omega
            rw [e5]
            exact (Conv.keep [0, 4, 5] [3] (by simp)).trans (Conv.rename (fun j => if j = 0 then 3 else j) (by simp; done) (by simp; done) (by simp [-List.getD_eq_getElem?_getD, St.keep, keepE, lookN, AVal.ren, AV.ren, Sc.ren, AVal.ids, AV.ids, Sc.ids, fdrow_len]; done) (by simp [-List.getD_eq_getElem?_getD, St.keep, keepE, lookN, AObj.ren, AObj.ids, Sc.ids, Sc.ren, fdrow, fileD]; done) (by simp; done))
      case f5 =>
        intro hb1
        have hi : a = s.length := by simp at hb1; omega
        subst hi
        refine AWp.exit ?_
        refine thenA_exit ?_
        refine thenA_exit ?_
        refine inB_eq ?_
        refine AWp.seq ?_
        refine AWp.reg (S1 := ?S19) (ob := ?o19) (S' := ?K19) tab_ok (knowL_ok kn33_ok) mixed [2, 3] ?r19 ?h19 ?k19 ?w19
        case r19 => simp only [go_sem, kn33, rNumF, rf_sz, rf_path, rf_ver, rf_con, Try.ntmps33, reduceIte, reduceCtorEq, Nat.reduceAdd, Nat.reduceEqDiff, Nat.reduceLT, Nat.reduceLeDiff, Nat.reduceSub, Nat.reduceMul, Nat.reduceBEq, Int.reduceToNat, Int.reduceLE, Int.reduceLT, Int.reducePow]; rfl
        case h19 => first | exact True.intro | omega | (simp only [go_sem, kn33, rNumF, rf_sz, rf_path, rf_ver, rf_con, Try.ntmps33, reduceIte, reduceCtorEq, Nat.reduceAdd, Nat.reduceEqDiff, Nat.reduceLT, Nat.reduceLeDiff, Nat.reduceSub, Nat.reduceMul, Nat.reduceBEq, Int.reduceToNat, Int.reduceLE, Int.reduceLT, Int.reducePow]; done) | (simp only [go_sem, kn33, rNumF, rf_sz, rf_path, rf_ver, rf_con, Try.ntmps33, reduceIte, reduceCtorEq, Nat.reduceAdd, Nat.reduceEqDiff, Nat.reduceLT, Nat.reduceLeDiff, Nat.reduceSub, Nat.reduceMul, Nat.reduceBEq, Int.reduceToNat, Int.reduceLE, Int.reduceLT, Int.reducePow]; omega)
        case k19 => simp only [go_sem, kn33, rNumF, rf_sz, rf_path, rf_ver, rf_con, Try.ntmps33, reduceIte, reduceCtorEq, Nat.reduceAdd, Nat.reduceEqDiff, Nat.reduceLT, Nat.reduceLeDiff, Nat.reduceSub, Nat.reduceMul, Nat.reduceBEq, Int.reduceToNat, Int.reduceLE, Int.reduceLT, Int.reducePow]; rfl
        refine AWp.ret ?_
        refine ends_p (vs := ?vs3) (ob := ?ro3) (vs' := ?ws3) (ks := ?ks3) (ob2 := ?rp3) tab_ok (by simp) ?er3 ?eo3 ?ef3 ?eg3 ?en3 ?ek3 ?ev3
        case er3 => simp only [go_sem, kn33, rNumF, rf_sz, rf_path, rf_ver, rf_con, Try.ntmps33, reduceIte, reduceCtorEq, Nat.reduceAdd, Nat.reduceEqDiff, Nat.reduceLT, Nat.reduceLeDiff, Nat.reduceSub, Nat.reduceMul, Nat.reduceBEq, Int.reduceToNat, Int.reduceLE, Int.reduceLT, Int.reducePow, Try.results33]; rfl
        case eo3 => first | exact True.intro | simp only [go_sem, kn33, rNumF, rf_sz, rf_path, rf_ver, rf_con, Try.ntmps33, reduceIte, reduceCtorEq, Nat.reduceAdd, Nat.reduceEqDiff, Nat.reduceLT, Nat.reduceLeDiff, Nat.reduceSub, Nat.reduceMul, Nat.reduceBEq, Int.reduceToNat, Int.reduceLE, Int.reduceLT, Int.reducePow]
        case ef3 => simp only [go_sem, kn33, rNumF, rf_sz, rf_path, rf_ver, rf_con, Try.ntmps33, reduceIte, reduceCtorEq, Nat.reduceAdd, Nat.reduceEqDiff, Nat.reduceLT, Nat.reduceLeDiff, Nat.reduceSub, Nat.reduceMul, Nat.reduceBEq, Int.reduceToNat, Int.reduceLE, Int.reduceLT, Int.reducePow]; rfl
        case eg3 => simp [fdrow_len]
        case en3 => simp only [go_sem, kn33, rNumF, rf_sz, rf_path, rf_ver, rf_con, Try.ntmps33, reduceIte, reduceCtorEq, Nat.reduceAdd, Nat.reduceEqDiff, Nat.reduceLT, Nat.reduceLeDiff, Nat.reduceSub, Nat.reduceMul, Nat.reduceBEq, Int.reduceToNat, Int.reduceLE, Int.reduceLT, Int.reducePow]
        case ek3 => simp only [go_sem, kn33, rNumF, rf_sz, rf_path, rf_ver, rf_con, Try.ntmps33, reduceIte, reduceCtorEq, Nat.reduceAdd, Nat.reduceEqDiff, Nat.reduceLT, Nat.reduceLeDiff, Nat.reduceSub, Nat.reduceMul, Nat.reduceBEq, Int.reduceToNat, Int.reduceLE, Int.reduceLT, Int.reducePow]
        case ev3 =>
          rw [Nat.sub_self] at hE
          rw [rfV, ← hE]; rfl
  · cases hq

end Go.Proofs.Hg

set_option linter.unusedSimpArgs false
set_option linter.unusedVariables false
set_option maxHeartbeats 4000000
namespace Go.Proofs.Hg
open Go.RowKit
set_option maxRecDepth 100000
def eqbF : List AV → Option (AVal × Prop)
  | [.s (.d (.slice z e es)), .s (.d (.slice z2 e2 fs))] => some (.one (dv (.bool (decide (unb es = unb fs)))), e = 1 ∧ e2 = 1 ∧ es = brow (unb es) ∧ fs = brow (unb fs))
  | _ => none
theorem eqbF_ok : ContOk Try.prog 38 (pureK eqbF) := by
  refine pure_ok (nargs := 2) Try.func38 rfl (by kernel_rfl) (Nat.le_of_ble_eq_true (by kernel_rfl)) ?_
  intro args q hq hob
  unfold eqbF at hq
  split at hq
  · rename_i z e es z2 e2 fs
    injection hq with hq
    subst hq
    obtain ⟨h1, h2, h3, h4⟩ : e = 1 ∧ e2 = 1 ∧ es = brow (unb es) ∧ fs = brow (unb fs) := hob
    generalize unb es = s at *
    generalize unb fs = t at *
    subst h1 h2 h3 h4
    refine ⟨rfl, by simp [AV.ids, Sc.ids], by simp [AVal.ids, AV.ids, Sc.ids], by simp, ?_⟩
    refine AWp.seq ?_
    refine AWp.reg (S1 := ?S1) (ob := ?o1) (S' := ?K1) tab_ok (noKnow _) mixed [0, 1] ?r1 ?h1 ?k1 ?w1
    case r1 => simp only [go_sem, Try.ntmps38, reduceIte, reduceCtorEq, Nat.reduceAdd, Nat.reduceEqDiff, Nat.reduceLT, Nat.reduceLeDiff, Nat.reduceSub, Nat.reduceMul, Nat.reduceBEq, Int.reduceToNat, Int.reduceLE, Int.reduceLT, Int.reducePow]; rfl
    case h1 => first | exact True.intro | omega | (simp only [go_sem, Try.ntmps38, reduceIte, reduceCtorEq, Nat.reduceAdd, Nat.reduceEqDiff, Nat.reduceLT, Nat.reduceLeDiff, Nat.reduceSub, Nat.reduceMul, Nat.reduceBEq, Int.reduceToNat, Int.reduceLE, Int.reduceLT, Int.reducePow]; done) | (simp only [go_sem, Try.ntmps38, reduceIte, reduceCtorEq, Nat.reduceAdd, Nat.reduceEqDiff, Nat.reduceLT, Nat.reduceLeDiff, Nat.reduceSub, Nat.reduceMul, Nat.reduceBEq, Int.reduceToNat, Int.reduceLE, Int.reduceLT, Int.reducePow]; omega)
    case k1 => simp only [go_sem, Try.ntmps38, reduceIte, reduceCtorEq, Nat.reduceAdd, Nat.reduceEqDiff, Nat.reduceLT, Nat.reduceLeDiff, Nat.reduceSub, Nat.reduceMul, Nat.reduceBEq, Int.reduceToNat, Int.reduceLE, Int.reduceLT, Int.reducePow]; rfl
    refine AWp.seq ?_
    refine AWp.reg (S1 := ?S2) (ob := ?o2) (S' := ?K2) tab_ok (noKnow _) mixed [4] ?r2 ?h2 ?k2 ?w2
    case r2 => simp only [go_sem, Try.ntmps38, reduceIte, reduceCtorEq, Nat.reduceAdd, Nat.reduceEqDiff, Nat.reduceLT, Nat.reduceLeDiff, Nat.reduceSub, Nat.reduceMul, Nat.reduceBEq, Int.reduceToNat, Int.reduceLE, Int.reduceLT, Int.reducePow]; rfl
    case h2 => first | exact True.intro | omega | (simp only [go_sem, Try.ntmps38, reduceIte, reduceCtorEq, Nat.reduceAdd, Nat.reduceEqDiff, Nat.reduceLT, Nat.reduceLeDiff, Nat.reduceSub, Nat.reduceMul, Nat.reduceBEq, Int.reduceToNat, Int.reduceLE, Int.reduceLT, Int.reducePow]; done) | (simp only [go_sem, Try.ntmps38, reduceIte, reduceCtorEq, Nat.reduceAdd, Nat.reduceEqDiff, Nat.reduceLT, Nat.reduceLeDiff, Nat.reduceSub, Nat.reduceMul, Nat.reduceBEq, Int.reduceToNat, Int.reduceLE, Int.reduceLT, Int.reducePow]; omega)
    case k2 => simp only [go_sem, Try.ntmps38, reduceIte, reduceCtorEq, Nat.reduceAdd, Nat.reduceEqDiff, Nat.reduceLT, Nat.reduceLeDiff, Nat.reduceSub, Nat.reduceMul, Nat.reduceBEq, Int.reduceToNat, Int.reduceLE, Int.reduceLT, Int.reducePow]; rfl
    refine AWp.ret ?_
    refine ends_p (vs := ?vs1) (ob := ?ro1) (vs' := ?ws1) (ks := ?ks1) (ob2 := ?rp1) tab_ok (by simp) ?er1 ?eo1 ?ef1 ?eg1 ?en1 ?ek1 ?ev1
    case er1 => simp only [go_sem, Try.ntmps38, reduceIte, reduceCtorEq, Nat.reduceAdd, Nat.reduceEqDiff, Nat.reduceLT, Nat.reduceLeDiff, Nat.reduceSub, Nat.reduceMul, Nat.reduceBEq, Int.reduceToNat, Int.reduceLE, Int.reduceLT, Int.reducePow, Try.results38]; rfl
    case eo1 => first | exact True.intro | simp only [go_sem, Try.ntmps38, reduceIte, reduceCtorEq, Nat.reduceAdd, Nat.reduceEqDiff, Nat.reduceLT, Nat.reduceLeDiff, Nat.reduceSub, Nat.reduceMul, Nat.reduceBEq, Int.reduceToNat, Int.reduceLE, Int.reduceLT, Int.reducePow]
    case ef1 => simp only [go_sem, Try.ntmps38, reduceIte, reduceCtorEq, Nat.reduceAdd, Nat.reduceEqDiff, Nat.reduceLT, Nat.reduceLeDiff, Nat.reduceSub, Nat.reduceMul, Nat.reduceBEq, Int.reduceToNat, Int.reduceLE, Int.reduceLT, Int.reducePow]; rfl
    case eg1 => first | exact True.intro | simp only [go_sem, Try.ntmps38, reduceIte, reduceCtorEq, Nat.reduceAdd, Nat.reduceEqDiff, Nat.reduceLT, Nat.reduceLeDiff, Nat.reduceSub, Nat.reduceMul, Nat.reduceBEq, Int.reduceToNat, Int.reduceLE, Int.reduceLT, Int.reducePow]
    case en1 => simp only [go_sem, Try.ntmps38, reduceIte, reduceCtorEq, Nat.reduceAdd, Nat.reduceEqDiff, Nat.reduceLT, Nat.reduceLeDiff, Nat.reduceSub, Nat.reduceMul, Nat.reduceBEq, Int.reduceToNat, Int.reduceLE, Int.reduceLT, Int.reducePow]
    case ek1 => simp only [go_sem, Try.ntmps38, reduceIte, reduceCtorEq, Nat.reduceAdd, Nat.reduceEqDiff, Nat.reduceLT, Nat.reduceLeDiff, Nat.reduceSub, Nat.reduceMul, Nat.reduceBEq, Int.reduceToNat, Int.reduceLE, Int.reduceLT, Int.reducePow]
    case ev1 =>
      first | rfl | simp only [go_sem, Try.ntmps38, reduceIte, reduceCtorEq, Nat.reduceAdd, Nat.reduceEqDiff, Nat.reduceLT, Nat.reduceLeDiff, Nat.reduceSub, Nat.reduceMul, Nat.reduceBEq, Int.reduceToNat, Int.reduceLE, Int.reduceLT, Int.reducePow]
  · cases hq

def hdB (f r : List UInt8) (i n : Int) : Bool := decide ((r.length : Int) < 12) || !decide (r.take 8 = f.take 8) || !decide ((numU ((r.drop 8).take 2) : Int) = i) || !decide ((numU ((r.drop 10).take 2) : Int) = n)
def szB (r : List UInt8) (i n : Int) : Bool := decide ((r.length : Int) - 12 = 4000) || (decide (i = n - 1) && decide ((r.length : Int) - 12 ≤ 4000) && (decide (0 < (r.length : Int) - 12) || decide (n = 1)))
def fitsF : List AV → Option (AVal × Prop)
  | [.s (.d (.slice z e es)), .s (.d (.slice z2 e2 fs)), .s (.d (.int .i64 i)), .s (.d (.int .i64 n))] => some (.one (dv (.bool (!hdB (unb es) (unb fs) i n && szB (unb fs) i n))), e = 1 ∧ e2 = 1 ∧ es = brow (unb es) ∧ fs = brow (unb fs) ∧ 12 ≤ es.length ∧ 0 ≤ i ∧ i ≤ 65535 ∧ 0 ≤ n ∧ n ≤ 65535 ∧ fs.length ≤ 1000000)
  | _ => none
def kn29 : List (Nat × Cont) := [(28, pureK numF), (38, pureK eqbF)]
theorem kn29_ok : ∀ p ∈ kn29, ContOk Try.prog p.1 p.2 := by
  intro p hp
  simp only [kn29, List.mem_cons, List.not_mem_nil, or_false] at hp
  rcases hp with rfl | rfl
  · exact numF_ok
  · exact eqbF_ok
theorem fitsF_ok : ContOk Try.prog 29 (pureK fitsF) := by
  refine pure_ok (nargs := 4) Try.func29 rfl (by kernel_rfl) (Nat.le_of_ble_eq_true (by kernel_rfl)) ?_
  intro args q hq hob
  unfold fitsF at hq
  split at hq
  · rename_i z e es z2 e2 fs i n
    injection hq with hq
    subst hq
    obtain ⟨h1, h2, h3, h4, h5, h6, h7, h8, h9, h10⟩ : e = 1 ∧ e2 = 1 ∧ es = brow (unb es) ∧ fs = brow (unb fs) ∧ 12 ≤ es.length ∧ 0 ≤ i ∧ i ≤ 65535 ∧ 0 ≤ n ∧ n ≤ 65535 ∧ fs.length ≤ 1000000 := hob
    generalize unb es = s at *
    generalize unb fs = t at *
    subst h1 h2 h3 h4
    rw [brow_length] at h5 h10
    have hwi := wrapU h6 (by omega)
    have hwn := wrapU h8 (by omega)
    refine ⟨rfl, by simp [AV.ids, Sc.ids], by simp [AVal.ids, AV.ids, Sc.ids], by simp, ?_⟩
    refine AWp.seq ?_
    refine AWp.reg (S1 := ?S1) (ob := ?o1) (S' := ?K1) tab_ok (knowL_ok kn29_ok) mixed [0, 1, 2, 3] ?r1 ?h1 ?k1 ?w1
    case r1 => simp only [go_sem, kn29, numF, eqbF, Try.ntmps29, reduceIte, reduceCtorEq, Nat.reduceAdd, Nat.reduceEqDiff, Nat.reduceLT, Nat.reduceLeDiff, Nat.reduceSub, Nat.reduceMul, Nat.reduceBEq, Int.reduceToNat, Int.reduceLE, Int.reduceLT, Int.reducePow]; rfl
    case h1 => first | exact True.intro | omega | (simp only [go_sem, kn29, numF, eqbF, Try.ntmps29, reduceIte, reduceCtorEq, Nat.reduceAdd, Nat.reduceEqDiff, Nat.reduceLT, Nat.reduceLeDiff, Nat.reduceSub, Nat.reduceMul, Nat.reduceBEq, Int.reduceToNat, Int.reduceLE, Int.reduceLT, Int.reducePow]; done) | (simp only [go_sem, kn29, numF, eqbF, Try.ntmps29, reduceIte, reduceCtorEq, Nat.reduceAdd, Nat.reduceEqDiff, Nat.reduceLT, Nat.reduceLeDiff, Nat.reduceSub, Nat.reduceMul, Nat.reduceBEq, Int.reduceToNat, Int.reduceLE, Int.reduceLT, Int.reducePow]; omega)
    case k1 => simp only [go_sem, kn29, numF, eqbF, Try.ntmps29, reduceIte, reduceCtorEq, Nat.reduceAdd, Nat.reduceEqDiff, Nat.reduceLT, Nat.reduceLeDiff, Nat.reduceSub, Nat.reduceMul, Nat.reduceBEq, Int.reduceToNat, Int.reduceLE, Int.reduceLT, Int.reducePow]; rfl
    refine AWp.seq ?_
    refine AWp.seq ?_
    refine AWp.drw (S1 := ?S2) (ob := ?o2) (lts := ?t2) (S' := ?K2) tab_ok (knowL_ok kn29_ok) mixed [1, 2, 3, 36] ?r2 ?d2 ?h2 ?k2 ?w2
    case r2 => simp only [go_sem, kn29, numF, eqbF, Try.ntmps29, reduceIte, reduceCtorEq, Nat.reduceAdd, Nat.reduceEqDiff, Nat.reduceLT, Nat.reduceLeDiff, Nat.reduceSub, Nat.reduceMul, Nat.reduceBEq, Int.reduceToNat, Int.reduceLE, Int.reduceLT, Int.reducePow, hwi, hwn]; rfl
    case d2 => first | kernel_rfl | rfl
    case h2 =>
      refine ⟨fun h => ?_, fun _ => by omega, fun h => ?_, fun _ => by rw [List.length_take]; omega, fun h => ?_, fun _ => by rw [List.length_take]; omega⟩
      all_goals
        simp only [Bool.or_eq_false_iff, decide_eq_false_iff_not] at h
        omega
    case k2 => simp only [go_sem, kn29, numF, eqbF, Try.ntmps29, reduceIte, reduceCtorEq, Nat.reduceAdd, Nat.reduceEqDiff, Nat.reduceLT, Nat.reduceLeDiff, Nat.reduceSub, Nat.reduceMul, Nat.reduceBEq, Int.reduceToNat, Int.reduceLE, Int.reduceLT, Int.reducePow]; rfl
    refine AWp.cond (b := ?b3) ?c3 ?t3 ?f3
    case c3 => simp only [go_sem, kn29, numF, eqbF, Try.ntmps29, reduceIte, reduceCtorEq, Nat.reduceAdd, Nat.reduceEqDiff, Nat.reduceLT, Nat.reduceLeDiff, Nat.reduceSub, Nat.reduceMul, Nat.reduceBEq, Int.reduceToNat, Int.reduceLE, Int.reduceLT, Int.reducePow]; rfl
    case t3 =>
      intro hb1
      refine AWp.seq ?_
      refine AWp.reg (S1 := ?S4) (ob := ?o4) (S' := ?K4) tab_ok (knowL_ok kn29_ok) mixed [8] ?r4 ?h4 ?k4 ?w4
      case r4 => simp only [go_sem, kn29, numF, eqbF, Try.ntmps29, reduceIte, reduceCtorEq, Nat.reduceAdd, Nat.reduceEqDiff, Nat.reduceLT, Nat.reduceLeDiff, Nat.reduceSub, Nat.reduceMul, Nat.reduceBEq, Int.reduceToNat, Int.reduceLE, Int.reduceLT, Int.reducePow]; rfl
      case h4 => first | exact True.intro | omega | (simp only [go_sem, kn29, numF, eqbF, Try.ntmps29, reduceIte, reduceCtorEq, Nat.reduceAdd, Nat.reduceEqDiff, Nat.reduceLT, Nat.reduceLeDiff, Nat.reduceSub, Nat.reduceMul, Nat.reduceBEq, Int.reduceToNat, Int.reduceLE, Int.reduceLT, Int.reducePow]; done) | (simp only [go_sem, kn29, numF, eqbF, Try.ntmps29, reduceIte, reduceCtorEq, Nat.reduceAdd, Nat.reduceEqDiff, Nat.reduceLT, Nat.reduceLeDiff, Nat.reduceSub, Nat.reduceMul, Nat.reduceBEq, Int.reduceToNat, Int.reduceLE, Int.reduceLT, Int.reducePow]; omega)
      case k4 => simp only [go_sem, kn29, numF, eqbF, Try.ntmps29, reduceIte, reduceCtorEq, Nat.reduceAdd, Nat.reduceEqDiff, Nat.reduceLT, Nat.reduceLeDiff, Nat.reduceSub, Nat.reduceMul, Nat.reduceBEq, Int.reduceToNat, Int.reduceLE, Int.reduceLT, Int.reducePow]; rfl
      refine AWp.ret ?_
      refine ends_p (vs := ?vs1) (ob := ?ro1) (vs' := ?ws1) (ks := ?ks1) (ob2 := ?rp1) tab_ok (by simp) ?er1 ?eo1 ?ef1 ?eg1 ?en1 ?ek1 ?ev1
      case er1 => simp only [go_sem, kn29, numF, eqbF, Try.ntmps29, reduceIte, reduceCtorEq, Nat.reduceAdd, Nat.reduceEqDiff, Nat.reduceLT, Nat.reduceLeDiff, Nat.reduceSub, Nat.reduceMul, Nat.reduceBEq, Int.reduceToNat, Int.reduceLE, Int.reduceLT, Int.reducePow, Try.results29]; rfl
      case eo1 => first | exact True.intro | simp only [go_sem, kn29, numF, eqbF, Try.ntmps29, reduceIte, reduceCtorEq, Nat.reduceAdd, Nat.reduceEqDiff, Nat.reduceLT, Nat.reduceLeDiff, Nat.reduceSub, Nat.reduceMul, Nat.reduceBEq, Int.reduceToNat, Int.reduceLE, Int.reduceLT, Int.reducePow]
      case ef1 => simp only [go_sem, kn29, numF, eqbF, Try.ntmps29, reduceIte, reduceCtorEq, Nat.reduceAdd, Nat.reduceEqDiff, Nat.reduceLT, Nat.reduceLeDiff, Nat.reduceSub, Nat.reduceMul, Nat.reduceBEq, Int.reduceToNat, Int.reduceLE, Int.reduceLT, Int.reducePow]; rfl
      case eg1 => first | exact True.intro | simp only [go_sem, kn29, numF, eqbF, Try.ntmps29, reduceIte, reduceCtorEq, Nat.reduceAdd, Nat.reduceEqDiff, Nat.reduceLT, Nat.reduceLeDiff, Nat.reduceSub, Nat.reduceMul, Nat.reduceBEq, Int.reduceToNat, Int.reduceLE, Int.reduceLT, Int.reducePow]
      case en1 => simp only [go_sem, kn29, numF, eqbF, Try.ntmps29, reduceIte, reduceCtorEq, Nat.reduceAdd, Nat.reduceEqDiff, Nat.reduceLT, Nat.reduceLeDiff, Nat.reduceSub, Nat.reduceMul, Nat.reduceBEq, Int.reduceToNat, Int.reduceLE, Int.reduceLT, Int.reducePow]
      case ek1 => simp only [go_sem, kn29, numF, eqbF, Try.ntmps29, reduceIte, reduceCtorEq, Nat.reduceAdd, Nat.reduceEqDiff, Nat.reduceLT, Nat.reduceLeDiff, Nat.reduceSub, Nat.reduceMul, Nat.reduceBEq, Int.reduceToNat, Int.reduceLE, Int.reduceLT, Int.reducePow]
      case ev1 =>
        have h0 : hdB s t i n = true := hb1
        rw [h0]; rfl
    case f3 =>
      intro hb1
      refine AWp.skip ?_
      refine AWp.seq ?_
      refine AWp.reg (S1 := ?S5) (ob := ?o5) (S' := ?K5) tab_ok (knowL_ok kn29_ok) mixed [2, 3, 9] ?r5 ?h5 ?k5 ?w5
      case r5 => simp only [go_sem, kn29, numF, eqbF, Try.ntmps29, reduceIte, reduceCtorEq, Nat.reduceAdd, Nat.reduceEqDiff, Nat.reduceLT, Nat.reduceLeDiff, Nat.reduceSub, Nat.reduceMul, Nat.reduceBEq, Int.reduceToNat, Int.reduceLE, Int.reduceLT, Int.reducePow]; rfl
      case h5 => first | exact True.intro | omega | (simp only [go_sem, kn29, numF, eqbF, Try.ntmps29, reduceIte, reduceCtorEq, Nat.reduceAdd, Nat.reduceEqDiff, Nat.reduceLT, Nat.reduceLeDiff, Nat.reduceSub, Nat.reduceMul, Nat.reduceBEq, Int.reduceToNat, Int.reduceLE, Int.reduceLT, Int.reducePow]; done) | (simp only [go_sem, kn29, numF, eqbF, Try.ntmps29, reduceIte, reduceCtorEq, Nat.reduceAdd, Nat.reduceEqDiff, Nat.reduceLT, Nat.reduceLeDiff, Nat.reduceSub, Nat.reduceMul, Nat.reduceBEq, Int.reduceToNat, Int.reduceLE, Int.reduceLT, Int.reducePow]; omega)
      case k5 => simp only [go_sem, kn29, numF, eqbF, Try.ntmps29, reduceIte, reduceCtorEq, Nat.reduceAdd, Nat.reduceEqDiff, Nat.reduceLT, Nat.reduceLeDiff, Nat.reduceSub, Nat.reduceMul, Nat.reduceBEq, Int.reduceToNat, Int.reduceLE, Int.reduceLT, Int.reducePow]; rfl
      refine AWp.seq ?_
      refine AWp.reg (S1 := ?S6) (ob := ?o6) (S' := ?K6) tab_ok (knowL_ok kn29_ok) mixed [8] ?r6 ?h6 ?k6 ?w6
      case r6 => simp only [go_sem, kn29, numF, eqbF, Try.ntmps29, reduceIte, reduceCtorEq, Nat.reduceAdd, Nat.reduceEqDiff, Nat.reduceLT, Nat.reduceLeDiff, Nat.reduceSub, Nat.reduceMul, Nat.reduceBEq, Int.reduceToNat, Int.reduceLE, Int.reduceLT, Int.reducePow]; rfl
      case h6 =>
        refine ⟨fun _ => ⟨by omega, by omega⟩, ?_⟩
        generalize decide ((t.length : Int) - 12 = 4000) = b1
        generalize decide (i = n - 1) = b2
        generalize decide ((t.length : Int) - 12 ≤ 4000) = b3
        generalize decide (0 < (t.length : Int) - 12) = b4
        cases b1 <;> cases b2 <;> cases b3 <;> cases b4 <;> simp
      case k6 => simp only [go_sem, kn29, numF, eqbF, Try.ntmps29, reduceIte, reduceCtorEq, Nat.reduceAdd, Nat.reduceEqDiff, Nat.reduceLT, Nat.reduceLeDiff, Nat.reduceSub, Nat.reduceMul, Nat.reduceBEq, Int.reduceToNat, Int.reduceLE, Int.reduceLT, Int.reducePow]; rfl
      refine AWp.ret ?_
      refine ends_p (vs := ?vs2) (ob := ?ro2) (vs' := ?ws2) (ks := ?ks2) (ob2 := ?rp2) tab_ok (by simp) ?er2 ?eo2 ?ef2 ?eg2 ?en2 ?ek2 ?ev2
      case er2 => simp only [go_sem, kn29, numF, eqbF, Try.ntmps29, reduceIte, reduceCtorEq, Nat.reduceAdd, Nat.reduceEqDiff, Nat.reduceLT, Nat.reduceLeDiff, Nat.reduceSub, Nat.reduceMul, Nat.reduceBEq, Int.reduceToNat, Int.reduceLE, Int.reduceLT, Int.reducePow, Try.results29]; rfl
      case eo2 => first | exact True.intro | simp only [go_sem, kn29, numF, eqbF, Try.ntmps29, reduceIte, reduceCtorEq, Nat.reduceAdd, Nat.reduceEqDiff, Nat.reduceLT, Nat.reduceLeDiff, Nat.reduceSub, Nat.reduceMul, Nat.reduceBEq, Int.reduceToNat, Int.reduceLE, Int.reduceLT, Int.reducePow]
      case ef2 => simp only [go_sem, kn29, numF, eqbF, Try.ntmps29, reduceIte, reduceCtorEq, Nat.reduceAdd, Nat.reduceEqDiff, Nat.reduceLT, Nat.reduceLeDiff, Nat.reduceSub, Nat.reduceMul, Nat.reduceBEq, Int.reduceToNat, Int.reduceLE, Int.reduceLT, Int.reducePow]; rfl
      case eg2 => first | exact True.intro | simp only [go_sem, kn29, numF, eqbF, Try.ntmps29, reduceIte, reduceCtorEq, Nat.reduceAdd, Nat.reduceEqDiff, Nat.reduceLT, Nat.reduceLeDiff, Nat.reduceSub, Nat.reduceMul, Nat.reduceBEq, Int.reduceToNat, Int.reduceLE, Int.reduceLT, Int.reducePow]
      case en2 => simp only [go_sem, kn29, numF, eqbF, Try.ntmps29, reduceIte, reduceCtorEq, Nat.reduceAdd, Nat.reduceEqDiff, Nat.reduceLT, Nat.reduceLeDiff, Nat.reduceSub, Nat.reduceMul, Nat.reduceBEq, Int.reduceToNat, Int.reduceLE, Int.reduceLT, Int.reducePow]
      case ek2 => simp only [go_sem, kn29, numF, eqbF, Try.ntmps29, reduceIte, reduceCtorEq, Nat.reduceAdd, Nat.reduceEqDiff, Nat.reduceLT, Nat.reduceLeDiff, Nat.reduceSub, Nat.reduceMul, Nat.reduceBEq, Int.reduceToNat, Int.reduceLE, Int.reduceLT, Int.reducePow]
      case ev2 =>
        have h0 : hdB s t i n = false := hb1
        rw [h0]; rfl
  · cases hq

end Go.Proofs.Hg

set_option linter.unusedSimpArgs false
set_option linter.unusedVariables false
set_option maxHeartbeats 4000000
namespace Go.Proofs.Hg
open Go.RowKit
set_option maxRecDepth 100000
def rbB (r : List UInt8) (i n : Int) : Bool := decide ((r.length : Int) < 12) || !decide ((r.length : Int) = 4012) && !(decide (i = n - 1) && decide ((r.length : Int) ≤ 4012) && (decide (n = 1) || decide (12 < (r.length : Int))))
def rhB (f r : List UInt8) (i n : Int) : Bool := decide (r.take 8 = f.take 8) && decide (numI ((r.drop 8).take 2) = i) && decide (numI ((r.drop 10).take 2) = n) && decide (0 ≤ numI (r.take 8)) && decide (numI (r.take 8) ≤ 1099511627776) && decide (0 < n)
def headF : List AV → Option (AVal × Prop)
  | [.s (.d (.slice z e es)), .s (.d (.int .i64 i)), .s (.d (.int .i64 n))] => some (.one (dv (.bool (!rbB ((rowsB es).getD i.toNat []) i n && rhB ((rowsB es).getD 0 []) ((rowsB es).getD i.toNat []) i n))), e = 1 ∧ RowsOk es ∧ 0 < es.length ∧ 12 ≤ ((rowsB es).getD 0 []).length ∧ 0 ≤ i ∧ i < es.length ∧ 0 ≤ n ∧ n ≤ 65535 ∧ ∀ r ∈ es, (rowB1 r).length ≤ 1000000)
  | _ => none
def kn32 : List (Nat × Cont) := [(31, pureK rNumF)]
theorem kn32_ok : ∀ p ∈ kn32, ContOk Try.prog p.1 p.2 := by
  intro p hp
  simp only [kn32, List.mem_cons, List.not_mem_nil, or_false] at hp
  rcases hp with rfl
  · exact rNumF_ok
theorem headF_ok : ContOk Try.prog 32 (pureK headF) := by
  refine pure_ok (nargs := 3) Try.func32 rfl (by kernel_rfl) (Nat.le_of_ble_eq_true (by kernel_rfl)) ?_
  intro args q hq hob
  unfold headF at hq
  split at hq
  · rename_i z e es i n
    injection hq with hq
    subst hq
    obtain ⟨h1, h2, h3, h4, h5, h6, h7, h8, h9⟩ : e = 1 ∧ RowsOk es ∧ 0 < es.length ∧ 12 ≤ ((rowsB es).getD 0 []).length ∧ 0 ≤ i ∧ i < es.length ∧ 0 ≤ n ∧ n ≤ 65535 ∧ ∀ r ∈ es, (rowB1 r).length ≤ 1000000 := hob
    subst h1
    obtain ⟨i, rfl⟩ : ∃ k : Nat, i = k := ⟨i.toNat, by omega⟩
    rw [Int.toNat_natCast]
    have hi : i < es.length := by omega
    have hrow := h2.get hi [.slice (some true) 1 []]
    have hrow0 := h2.get h3 [.slice (some true) 1 []]
    generalize (rowsB es).getD i [] = r at *
    generalize hf : (rowsB es).getD 0 [] = f at *
    refine ⟨rfl, by simp [AV.ids, Sc.ids], by simp [AVal.ids, AV.ids, Sc.ids], by simp, ?_⟩
    refine AWp.seq ?_
    refine AWp.reg (S1 := ?S1) (ob := ?o1) (S' := ?K1) tab_ok (knowL_ok kn32_ok) mixed [0, 1, 2] ?r1 ?h1 ?k1 ?w1
    case r1 => simp only [go_sem, kn32, rNumF, Try.ntmps32, reduceIte, reduceCtorEq, Nat.reduceAdd, Nat.reduceEqDiff, Nat.reduceLT, Nat.reduceLeDiff, Nat.reduceSub, Nat.reduceMul, Nat.reduceBEq, Int.reduceToNat, Int.reduceLE, Int.reduceLT, Int.reducePow]; rfl
    case h1 => first | exact True.intro | omega | (simp only [go_sem, kn32, rNumF, Try.ntmps32, reduceIte, reduceCtorEq, Nat.reduceAdd, Nat.reduceEqDiff, Nat.reduceLT, Nat.reduceLeDiff, Nat.reduceSub, Nat.reduceMul, Nat.reduceBEq, Int.reduceToNat, Int.reduceLE, Int.reduceLT, Int.reducePow]; done) | (simp only [go_sem, kn32, rNumF, Try.ntmps32, reduceIte, reduceCtorEq, Nat.reduceAdd, Nat.reduceEqDiff, Nat.reduceLT, Nat.reduceLeDiff, Nat.reduceSub, Nat.reduceMul, Nat.reduceBEq, Int.reduceToNat, Int.reduceLE, Int.reduceLT, Int.reducePow]; omega)
    case k1 => simp only [go_sem, kn32, rNumF, Try.ntmps32, reduceIte, reduceCtorEq, Nat.reduceAdd, Nat.reduceEqDiff, Nat.reduceLT, Nat.reduceLeDiff, Nat.reduceSub, Nat.reduceMul, Nat.reduceBEq, Int.reduceToNat, Int.reduceLE, Int.reduceLT, Int.reducePow]; rfl
    refine AWp.seq ?_
    refine AWp.reg (S1 := ?S2) (ob := ?o2) (S' := ?K2) tab_ok (knowL_ok kn32_ok) mixed [0, 1, 2, 7] ?r2 ?h2 ?k2 ?w2
    case r2 => simp only [go_sem, kn32, rNumF, Try.ntmps32, reduceIte, reduceCtorEq, Nat.reduceAdd, Nat.reduceEqDiff, Nat.reduceLT, Nat.reduceLeDiff, Nat.reduceSub, Nat.reduceMul, Nat.reduceBEq, Int.reduceToNat, Int.reduceLE, Int.reduceLT, Int.reducePow, hrow, hrow0]; rfl
    case h2 => first | exact True.intro | omega | (simp only [go_sem, kn32, rNumF, Try.ntmps32, reduceIte, reduceCtorEq, Nat.reduceAdd, Nat.reduceEqDiff, Nat.reduceLT, Nat.reduceLeDiff, Nat.reduceSub, Nat.reduceMul, Nat.reduceBEq, Int.reduceToNat, Int.reduceLE, Int.reduceLT, Int.reducePow]; done) | (simp only [go_sem, kn32, rNumF, Try.ntmps32, reduceIte, reduceCtorEq, Nat.reduceAdd, Nat.reduceEqDiff, Nat.reduceLT, Nat.reduceLeDiff, Nat.reduceSub, Nat.reduceMul, Nat.reduceBEq, Int.reduceToNat, Int.reduceLE, Int.reduceLT, Int.reducePow]; omega)
    case k2 => simp only [go_sem, kn32, rNumF, Try.ntmps32, reduceIte, reduceCtorEq, Nat.reduceAdd, Nat.reduceEqDiff, Nat.reduceLT, Nat.reduceLeDiff, Nat.reduceSub, Nat.reduceMul, Nat.reduceBEq, Int.reduceToNat, Int.reduceLE, Int.reduceLT, Int.reducePow]; rfl
    refine AWp.seq ?_
    refine AWp.reg (S1 := ?S3) (ob := ?o3) (S' := ?K3) tab_ok (knowL_ok kn32_ok) mixed [0, 1, 2, 7, 8] ?r3 ?h3 ?k3 ?w3
    case r3 => simp only [go_sem, kn32, rNumF, Try.ntmps32, reduceIte, reduceCtorEq, Nat.reduceAdd, Nat.reduceEqDiff, Nat.reduceLT, Nat.reduceLeDiff, Nat.reduceSub, Nat.reduceMul, Nat.reduceBEq, Int.reduceToNat, Int.reduceLE, Int.reduceLT, Int.reducePow]; rfl
    case h3 => first | exact True.intro | omega | (simp only [go_sem, kn32, rNumF, Try.ntmps32, reduceIte, reduceCtorEq, Nat.reduceAdd, Nat.reduceEqDiff, Nat.reduceLT, Nat.reduceLeDiff, Nat.reduceSub, Nat.reduceMul, Nat.reduceBEq, Int.reduceToNat, Int.reduceLE, Int.reduceLT, Int.reducePow]; done) | (simp only [go_sem, kn32, rNumF, Try.ntmps32, reduceIte, reduceCtorEq, Nat.reduceAdd, Nat.reduceEqDiff, Nat.reduceLT, Nat.reduceLeDiff, Nat.reduceSub, Nat.reduceMul, Nat.reduceBEq, Int.reduceToNat, Int.reduceLE, Int.reduceLT, Int.reducePow]; omega)
    case k3 => simp only [go_sem, kn32, rNumF, Try.ntmps32, reduceIte, reduceCtorEq, Nat.reduceAdd, Nat.reduceEqDiff, Nat.reduceLT, Nat.reduceLeDiff, Nat.reduceSub, Nat.reduceMul, Nat.reduceBEq, Int.reduceToNat, Int.reduceLE, Int.reduceLT, Int.reducePow]; rfl
    refine AWp.seq ?_
    refine AWp.reg (S1 := ?S4) (ob := ?o4) (S' := ?K4) tab_ok (knowL_ok kn32_ok) mixed [0, 1, 2, 7, 8, 9] ?r4 ?h4 ?k4 ?w4
    case r4 => simp only [go_sem, kn32, rNumF, Try.ntmps32, reduceIte, reduceCtorEq, Nat.reduceAdd, Nat.reduceEqDiff, Nat.reduceLT, Nat.reduceLeDiff, Nat.reduceSub, Nat.reduceMul, Nat.reduceBEq, Int.reduceToNat, Int.reduceLE, Int.reduceLT, Int.reducePow]; rfl
    case h4 =>
      refine ⟨⟨by omega, by omega⟩, ?_⟩
      generalize (decide ((i : Int) = n - 1) && decide ((r.length : Int) ≤ 4012)) = b1
      generalize decide (n = 1) = b2
      cases b1 <;> cases b2 <;> simp
    case k4 => simp only [go_sem, kn32, rNumF, Try.ntmps32, reduceIte, reduceCtorEq, Nat.reduceAdd, Nat.reduceEqDiff, Nat.reduceLT, Nat.reduceLeDiff, Nat.reduceSub, Nat.reduceMul, Nat.reduceBEq, Int.reduceToNat, Int.reduceLE, Int.reduceLT, Int.reducePow]; rfl
    refine AWp.seq ?_
    refine AWp.seq ?_
    refine AWp.reg (S1 := ?S5) (ob := ?o5) (S' := ?K5) tab_ok (knowL_ok kn32_ok) mixed [0, 1, 2, 7, 45] ?r5 ?h5 ?k5 ?w5
    case r5 => simp only [go_sem, kn32, rNumF, Try.ntmps32, reduceIte, reduceCtorEq, Nat.reduceAdd, Nat.reduceEqDiff, Nat.reduceLT, Nat.reduceLeDiff, Nat.reduceSub, Nat.reduceMul, Nat.reduceBEq, Int.reduceToNat, Int.reduceLE, Int.reduceLT, Int.reducePow]; rfl
    case h5 =>
      generalize decide ((r.length : Int) < 12) = b1
      generalize decide ((r.length : Int) = 4012) = b2
      cases b1 <;> cases b2 <;> simp
    case k5 => simp only [go_sem, kn32, rNumF, Try.ntmps32, reduceIte, reduceCtorEq, Nat.reduceAdd, Nat.reduceEqDiff, Nat.reduceLT, Nat.reduceLeDiff, Nat.reduceSub, Nat.reduceMul, Nat.reduceBEq, Int.reduceToNat, Int.reduceLE, Int.reduceLT, Int.reducePow]; rfl
    refine AWp.cond (b := ?b6) ?c6 ?t6 ?f6
    case c6 => simp only [go_sem, kn32, rNumF, Try.ntmps32, reduceIte, reduceCtorEq, Nat.reduceAdd, Nat.reduceEqDiff, Nat.reduceLT, Nat.reduceLeDiff, Nat.reduceSub, Nat.reduceMul, Nat.reduceBEq, Int.reduceToNat, Int.reduceLE, Int.reduceLT, Int.reducePow]; rfl
    case t6 =>
      intro hb1
      have hb : rbB r i n = true := hb1
      refine AWp.seq ?_
      refine AWp.reg (S1 := ?S7) (ob := ?o7) (S' := ?K7) tab_ok (knowL_ok kn32_ok) mixed [6] ?r7 ?h7 ?k7 ?w7
      case r7 => simp only [go_sem, kn32, rNumF, Try.ntmps32, reduceIte, reduceCtorEq, Nat.reduceAdd, Nat.reduceEqDiff, Nat.reduceLT, Nat.reduceLeDiff, Nat.reduceSub, Nat.reduceMul, Nat.reduceBEq, Int.reduceToNat, Int.reduceLE, Int.reduceLT, Int.reducePow]; rfl
      case h7 => first | exact True.intro | omega | (simp only [go_sem, kn32, rNumF, Try.ntmps32, reduceIte, reduceCtorEq, Nat.reduceAdd, Nat.reduceEqDiff, Nat.reduceLT, Nat.reduceLeDiff, Nat.reduceSub, Nat.reduceMul, Nat.reduceBEq, Int.reduceToNat, Int.reduceLE, Int.reduceLT, Int.reducePow]; done) | (simp only [go_sem, kn32, rNumF, Try.ntmps32, reduceIte, reduceCtorEq, Nat.reduceAdd, Nat.reduceEqDiff, Nat.reduceLT, Nat.reduceLeDiff, Nat.reduceSub, Nat.reduceMul, Nat.reduceBEq, Int.reduceToNat, Int.reduceLE, Int.reduceLT, Int.reducePow]; omega)
      case k7 => simp only [go_sem, kn32, rNumF, Try.ntmps32, reduceIte, reduceCtorEq, Nat.reduceAdd, Nat.reduceEqDiff, Nat.reduceLT, Nat.reduceLeDiff, Nat.reduceSub, Nat.reduceMul, Nat.reduceBEq, Int.reduceToNat, Int.reduceLE, Int.reduceLT, Int.reducePow]; rfl
      refine AWp.ret ?_
      refine ends_p (vs := ?vs1) (ob := ?ro1) (vs' := ?ws1) (ks := ?ks1) (ob2 := ?rp1) tab_ok (by simp) ?er1 ?eo1 ?ef1 ?eg1 ?en1 ?ek1 ?ev1
      case er1 => simp only [go_sem, kn32, rNumF, Try.ntmps32, reduceIte, reduceCtorEq, Nat.reduceAdd, Nat.reduceEqDiff, Nat.reduceLT, Nat.reduceLeDiff, Nat.reduceSub, Nat.reduceMul, Nat.reduceBEq, Int.reduceToNat, Int.reduceLE, Int.reduceLT, Int.reducePow, Try.results32]; rfl
      case eo1 => first | exact True.intro | simp only [go_sem, kn32, rNumF, Try.ntmps32, reduceIte, reduceCtorEq, Nat.reduceAdd, Nat.reduceEqDiff, Nat.reduceLT, Nat.reduceLeDiff, Nat.reduceSub, Nat.reduceMul, Nat.reduceBEq, Int.reduceToNat, Int.reduceLE, Int.reduceLT, Int.reducePow]
      case ef1 => simp only [go_sem, kn32, rNumF, Try.ntmps32, reduceIte, reduceCtorEq, Nat.reduceAdd, Nat.reduceEqDiff, Nat.reduceLT, Nat.reduceLeDiff, Nat.reduceSub, Nat.reduceMul, Nat.reduceBEq, Int.reduceToNat, Int.reduceLE, Int.reduceLT, Int.reducePow]; rfl
      case eg1 => first | exact True.intro | simp only [go_sem, kn32, rNumF, Try.ntmps32, reduceIte, reduceCtorEq, Nat.reduceAdd, Nat.reduceEqDiff, Nat.reduceLT, Nat.reduceLeDiff, Nat.reduceSub, Nat.reduceMul, Nat.reduceBEq, Int.reduceToNat, Int.reduceLE, Int.reduceLT, Int.reducePow]
      case en1 => simp only [go_sem, kn32, rNumF, Try.ntmps32, reduceIte, reduceCtorEq, Nat.reduceAdd, Nat.reduceEqDiff, Nat.reduceLT, Nat.reduceLeDiff, Nat.reduceSub, Nat.reduceMul, Nat.reduceBEq, Int.reduceToNat, Int.reduceLE, Int.reduceLT, Int.reducePow]
      case ek1 => simp only [go_sem, kn32, rNumF, Try.ntmps32, reduceIte, reduceCtorEq, Nat.reduceAdd, Nat.reduceEqDiff, Nat.reduceLT, Nat.reduceLeDiff, Nat.reduceSub, Nat.reduceMul, Nat.reduceBEq, Int.reduceToNat, Int.reduceLE, Int.reduceLT, Int.reducePow]
      case ev1 =>
        rw [hb]; rfl
    case f6 =>
      intro hb1
      have hb : rbB r i n = false := hb1
      have hr12 : 12 ≤ (r.length : Int) := by simp only [Bool.or_eq_false_iff, decide_eq_false_iff_not] at hb1; omega
      refine AWp.skip ?_
      refine AWp.seq ?_
      refine AWp.drw (S1 := ?S8) (ob := ?o8) (lts := ?t8) (S' := ?K8) tab_ok (knowL_ok kn32_ok) mixed [6] ?r8 ?d8 ?h8 ?k8 ?w8
      case r8 => simp only [go_sem, kn32, rNumF, Try.ntmps32, reduceIte, reduceCtorEq, Nat.reduceAdd, Nat.reduceEqDiff, Nat.reduceLT, Nat.reduceLeDiff, Nat.reduceSub, Nat.reduceMul, Nat.reduceBEq, Int.reduceToNat, Int.reduceLE, Int.reduceLT, Int.reducePow, hrow, hrow0]; rfl
      case d8 => first | kernel_rfl | rfl
      case h8 =>
        refine ⟨⟨by omega, by omega⟩, by omega, ⟨by omega, by omega⟩, fun _ => ⟨by omega, by omega⟩, fun _ => by rw [List.length_take]; omega, fun _ => ⟨by omega, by omega⟩, fun _ => by rw [List.length_take]; omega, fun _ => ⟨by omega, by omega⟩, fun _ => by rw [List.length_take]; omega, fun _ => ⟨by omega, by omega⟩, fun _ => by rw [List.length_take]; omega⟩
      case k8 => simp only [go_sem, kn32, rNumF, Try.ntmps32, reduceIte, reduceCtorEq, Nat.reduceAdd, Nat.reduceEqDiff, Nat.reduceLT, Nat.reduceLeDiff, Nat.reduceSub, Nat.reduceMul, Nat.reduceBEq, Int.reduceToNat, Int.reduceLE, Int.reduceLT, Int.reducePow]; rfl
      refine AWp.ret ?_
      refine ends_p (vs := ?vs2) (ob := ?ro2) (vs' := ?ws2) (ks := ?ks2) (ob2 := ?rp2) tab_ok (by simp) ?er2 ?eo2 ?ef2 ?eg2 ?en2 ?ek2 ?ev2
      case er2 => simp only [go_sem, kn32, rNumF, Try.ntmps32, reduceIte, reduceCtorEq, Nat.reduceAdd, Nat.reduceEqDiff, Nat.reduceLT, Nat.reduceLeDiff, Nat.reduceSub, Nat.reduceMul, Nat.reduceBEq, Int.reduceToNat, Int.reduceLE, Int.reduceLT, Int.reducePow, Try.results32]; rfl
      case eo2 => first | exact True.intro | simp only [go_sem, kn32, rNumF, Try.ntmps32, reduceIte, reduceCtorEq, Nat.reduceAdd, Nat.reduceEqDiff, Nat.reduceLT, Nat.reduceLeDiff, Nat.reduceSub, Nat.reduceMul, Nat.reduceBEq, Int.reduceToNat, Int.reduceLE, Int.reduceLT, Int.reducePow]
      case ef2 => simp only [go_sem, kn32, rNumF, Try.ntmps32, reduceIte, reduceCtorEq, Nat.reduceAdd, Nat.reduceEqDiff, Nat.reduceLT, Nat.reduceLeDiff, Nat.reduceSub, Nat.reduceMul, Nat.reduceBEq, Int.reduceToNat, Int.reduceLE, Int.reduceLT, Int.reducePow]; rfl
      case eg2 => first | exact True.intro | simp only [go_sem, kn32, rNumF, Try.ntmps32, reduceIte, reduceCtorEq, Nat.reduceAdd, Nat.reduceEqDiff, Nat.reduceLT, Nat.reduceLeDiff, Nat.reduceSub, Nat.reduceMul, Nat.reduceBEq, Int.reduceToNat, Int.reduceLE, Int.reduceLT, Int.reducePow]
      case en2 => simp only [go_sem, kn32, rNumF, Try.ntmps32, reduceIte, reduceCtorEq, Nat.reduceAdd, Nat.reduceEqDiff, Nat.reduceLT, Nat.reduceLeDiff, Nat.reduceSub, Nat.reduceMul, Nat.reduceBEq, Int.reduceToNat, Int.reduceLE, Int.reduceLT, Int.reducePow]
      case ek2 => simp only [go_sem, kn32, rNumF, Try.ntmps32, reduceIte, reduceCtorEq, Nat.reduceAdd, Nat.reduceEqDiff, Nat.reduceLT, Nat.reduceLeDiff, Nat.reduceSub, Nat.reduceMul, Nat.reduceBEq, Int.reduceToNat, Int.reduceLE, Int.reduceLT, Int.reducePow]
      case ev2 =>
        rw [hb]; rfl
  · cases hq

end Go.Proofs.Hg

set_option linter.unusedSimpArgs false
set_option linter.unusedVariables false
set_option maxHeartbeats 4000000
namespace Go.Proofs.Hg
open Go.RowKit
set_option maxRecDepth 100000
def RecsOk (es : List (List D)) : Prop := RowsOk es ∧ es.length ≤ 200 ∧ ∀ r ∈ es, (rowB1 r).length ≤ 5000
def dF (L : List (List UInt8)) : List UInt8 := L.getD 0 []
def dN (L : List (List UInt8)) : Int := numI (((dF L).drop 10).take 2)
def dM (L : List (List UInt8)) : Int := numI ((dF L).take 8)
def dFit (L : List (List UInt8)) (i : Nat) : Bool := !hdB (dF L) (L.getD i []) i (dN L) && szB (L.getD i []) i (dN L)
def dBody (L : List (List UInt8)) (i : Nat) : List UInt8 := (L.take i).flatMap (List.drop 12)
def dHead (L : List (List UInt8)) : Bool := decide (dN L = 0) || (decide (dM L < 0) || decide (1099511627776 < dM L))
def dCnt (L : List (List UInt8)) : Nat := min (dN L).toNat L.length
theorem takeL_max (r : Bool) (n : Int) (s : List UInt8) : (takeL r n s).length ≤ s.length + 1 := by
  unfold takeL
  split
  · simp only [List.length_take]; omega
  · simp
theorem filesP_ok : ∀ (n : Nat) (p : RS) (fs : List FileL) (B : Nat), (∀ f ∈ fs, f.1.length ≤ B + 1) → p.2.length ≤ B → fs.length + n ≤ B → (filesP n p fs).2.length ≤ B ∧ ∀ f ∈ (filesP n p fs).2, f.1.length ≤ B + 1
  | 0, p, fs, B, h1, h2, h3 => ⟨h3, h1⟩
  | n + 1, p, fs, B, h1, h2, h3 => by
    unfold filesP
    split
    · refine filesP_ok n _ _ B ?_ ?_ (by simp only [List.length_append, List.length_cons, List.length_nil]; omega)
      · intro f hf
        rcases List.mem_append.1 hf with hf | hf
        · exact h1 f hf
        · simp only [List.mem_singleton] at hf
          subst hf
          have := takeL_max (nxt 1 p).1 (g1 p) (nxt 1 p).2
          have h4 := nxt_len 1 p
          show (takeL (nxt 1 p).1 (g1 p) (nxt 1 p).2).length ≤ B + 1
          omega
      · exact Nat.le_trans (nxt_len _ _) (Nat.le_trans (nxt_len _ _) (Nat.le_trans (nxt_len _ _) (Nat.le_trans (nxt_len _ _) (Nat.le_trans (nxt_len _ _) h2))))
    · exact ⟨by show fs.length ≤ B; omega, h1⟩
theorem filesEnd_ok {s : List UInt8} (h : s.length ≤ 999999) : FilesOk (filesEnd s).2 := by
  have := filesP_ok s.length (true, s) [] 999999 (by simp) h (by simpa using h)
  exact ⟨Nat.le_trans this.1 (by omega), this.2⟩
def dEnd (L : List (List UInt8)) : RS × List FileL := filesEnd (dBody L (dCnt L))
def dErr (L : List (List UInt8)) : Int :=
  if L.length = 0 then 42 else if (dF L).length < 12 then 201 else if dHead L then 201 else
  if (List.range (dCnt L)).all (dFit L) then (if (L.length : Int) < dN L then 42 else if (dEnd L).1.1 && rightL (dM L) (dEnd L).2 then 0 else 201) else 201
theorem dN_eq (L : List (List UInt8)) : IntKind.i64.wrap (numU (List.take 2 (List.drop 10 (dF L))) : Int) = dN L := rfl
theorem dM_eq (L : List (List UInt8)) : IntKind.i64.wrap (numU (List.take 8 (dF L)) : Int) = dM L := rfl
theorem num2 {s : List UInt8} (h : s.length ≤ 2) : 0 ≤ numI s ∧ numI s ≤ 65535 := by
  have h1 := numU_lt s
  have h2 : 256 ^ s.length ≤ 256 ^ 2 := Nat.pow_le_pow_right (by omega) h
  have e : (256 : Nat) ^ 2 = 65536 := by decide
  have h3 : numI s = (numU s : Int) := IntWalk.i64_in _ ⟨by omega, by omega⟩
  rw [h3]
  omega
theorem dN_rng (L : List (List UInt8)) : 0 ≤ dN L ∧ dN L ≤ 65535 := num2 (by simp; omega)
theorem dBody_succ {L : List (List UInt8)} {i : Nat} (h : i < L.length) : dBody L (i + 1) = dBody L i ++ (L.getD i []).drop 12 := by
  rw [dBody, take_one (by omega) [], List.flatMap_append]
  simp [dBody]
theorem dBody_len {L : List (List UInt8)} (h : ∀ r ∈ L, r.length ≤ 5000) : ∀ i, (dBody L i).length ≤ 4988 * i
  | 0 => by simp [dBody]
  | i + 1 => by
    by_cases hi : i < L.length
    · have h1 := dBody_len h i
      have h2 := h (L.getD i []) (by rw [getD_lt hi]; exact List.getElem_mem _)
      rw [dBody_succ hi, List.length_append, List.length_drop]
      omega
    · have h1 := dBody_len h i
      rw [dBody, List.take_of_length_le (by omega)] at h1 ⊢
      omega
theorem rows_len {es : List (List D)} (h : ∀ r ∈ es, (rowB1 r).length ≤ 5000) : ∀ r ∈ rowsB es, r.length ≤ 5000 := by
  intro r hr
  obtain ⟨x, hx, rfl⟩ := List.mem_map.1 hr
  exact h x hx
theorem getD_takeL {α : Type} {l : List α} {i c : Nat} (h : i < c) (z : α) : (l.take c).getD i z = l.getD i z := by
  simp [List.getD_eq_getElem?_getD, List.getElem?_take, h]
def decV (L : List (List UInt8)) : AVal := if dErr L = 0 then .tup [.agg [.d (.int .i64 (dM L)), .d (.slice none 3 (fdrow (dEnd L).2))], dv (.int .i64 (dN L)), dv (.int .i64 0)]
  else .tup [.agg [.d (.int .i64 0), .d (.slice (some true) 3 [])], dv (.int .i64 0), dv (.int .i64 (dErr L))]
theorem decV_ids (L : List (List UInt8)) : (decV L).ids = [] ∧ ∀ b x, decV L ≠ .opt b x := by
  unfold decV
  split <;> simp [AVal.ids, AV.ids, Sc.ids]
def decF : List AV → Option (AVal × Prop)
  | [.s (.d (.slice z e es))] => some (decV (rowsB es), (es = [] ∨ e = 1) ∧ RecsOk es)
  | _ => none
def kn14 : List (Nat × Cont) := [(20, pureK rightF), (28, pureK numF), (29, pureK fitsF), (30, viewK progFilesF)]
theorem kn14_ok : ∀ p ∈ kn14, ContOk Try.prog p.1 p.2 := by
  intro p hp
  simp only [kn14, List.mem_cons, List.not_mem_nil, or_false] at hp
  rcases hp with rfl | rfl | rfl | rfl
  · exact rightF_ok
  · exact numF_ok
  · exact fitsF_ok
  · exact viewK_ok progFilesF_ok
theorem decF_ok : ContOk Try.prog 14 (pureK decF) := by
  refine pure_ok (nargs := 1) Try.func14 rfl (by kernel_rfl) (Nat.le_of_ble_eq_true (by kernel_rfl)) ?_
  intro args q hq hob
  unfold decF at hq
  split at hq
  · rename_i z e es
    injection hq with hq
    subst hq
    obtain ⟨h1, h2, h3, h4⟩ : (es = [] ∨ e = 1) ∧ RecsOk es := hob
    have hrl := rowsB_len es
    have h5 := rows_len h4
    refine ⟨rfl, by simp [AV.ids, Sc.ids], (decV_ids _).1, (decV_ids _).2, ?_⟩
    refine AWp.seq ?_
    refine AWp.reg (S1 := ?S1) (ob := ?o1) (S' := ?K1) tab_ok (knowL_ok kn14_ok) mixed [0, 2] ?r1 ?h1 ?k1 ?w1
    case r1 => simp only [go_sem, kn14, rightF, numF, fitsF, progFilesF, unf_fdrow, Try.ntmps14, reduceIte, reduceCtorEq, Nat.reduceAdd, Nat.reduceEqDiff, Nat.reduceLT, Nat.reduceLeDiff, Nat.reduceSub, Nat.reduceMul, Nat.reduceBEq, Int.reduceToNat, Int.reduceLE, Int.reduceLT, Int.reducePow]; rfl
    case h1 => first | exact True.intro | omega | (simp only [go_sem, kn14, rightF, numF, fitsF, progFilesF, unf_fdrow, Try.ntmps14, reduceIte, reduceCtorEq, Nat.reduceAdd, Nat.reduceEqDiff, Nat.reduceLT, Nat.reduceLeDiff, Nat.reduceSub, Nat.reduceMul, Nat.reduceBEq, Int.reduceToNat, Int.reduceLE, Int.reduceLT, Int.reducePow]; done) | (simp only [go_sem, kn14, rightF, numF, fitsF, progFilesF, unf_fdrow, Try.ntmps14, reduceIte, reduceCtorEq, Nat.reduceAdd, Nat.reduceEqDiff, Nat.reduceLT, Nat.reduceLeDiff, Nat.reduceSub, Nat.reduceMul, Nat.reduceBEq, Int.reduceToNat, Int.reduceLE, Int.reduceLT, Int.reducePow]; omega)
    case k1 => simp only [go_sem, kn14, rightF, numF, fitsF, progFilesF, unf_fdrow, Try.ntmps14, reduceIte, reduceCtorEq, Nat.reduceAdd, Nat.reduceEqDiff, Nat.reduceLT, Nat.reduceLeDiff, Nat.reduceSub, Nat.reduceMul, Nat.reduceBEq, Int.reduceToNat, Int.reduceLE, Int.reduceLT, Int.reducePow]; rfl
    refine AWp.seq ?_
    refine AWp.block ?_
    refine AWp.seq ?_
    refine AWp.reg (S1 := ?S2) (ob := ?o2) (S' := ?K2) tab_ok (knowL_ok kn14_ok) mixed [0, 2, 12] ?r2 ?h2 ?k2 ?w2
    case r2 => simp only [go_sem, kn14, rightF, numF, fitsF, progFilesF, unf_fdrow, Try.ntmps14, reduceIte, reduceCtorEq, Nat.reduceAdd, Nat.reduceEqDiff, Nat.reduceLT, Nat.reduceLeDiff, Nat.reduceSub, Nat.reduceMul, Nat.reduceBEq, Int.reduceToNat, Int.reduceLE, Int.reduceLT, Int.reducePow]; rfl
    case h2 => first | exact True.intro | omega | (simp only [go_sem, kn14, rightF, numF, fitsF, progFilesF, unf_fdrow, Try.ntmps14, reduceIte, reduceCtorEq, Nat.reduceAdd, Nat.reduceEqDiff, Nat.reduceLT, Nat.reduceLeDiff, Nat.reduceSub, Nat.reduceMul, Nat.reduceBEq, Int.reduceToNat, Int.reduceLE, Int.reduceLT, Int.reducePow]; done) | (simp only [go_sem, kn14, rightF, numF, fitsF, progFilesF, unf_fdrow, Try.ntmps14, reduceIte, reduceCtorEq, Nat.reduceAdd, Nat.reduceEqDiff, Nat.reduceLT, Nat.reduceLeDiff, Nat.reduceSub, Nat.reduceMul, Nat.reduceBEq, Int.reduceToNat, Int.reduceLE, Int.reduceLT, Int.reducePow]; omega)
    case k2 => simp only [go_sem, kn14, rightF, numF, fitsF, progFilesF, unf_fdrow, Try.ntmps14, reduceIte, reduceCtorEq, Nat.reduceAdd, Nat.reduceEqDiff, Nat.reduceLT, Nat.reduceLeDiff, Nat.reduceSub, Nat.reduceMul, Nat.reduceBEq, Int.reduceToNat, Int.reduceLE, Int.reduceLT, Int.reducePow]; rfl
    refine AWp.cond (b := ?b3) ?c3 ?t3 ?f3
    case c3 => simp only [go_sem, kn14, rightF, numF, fitsF, progFilesF, unf_fdrow, Try.ntmps14, reduceIte, reduceCtorEq, Nat.reduceAdd, Nat.reduceEqDiff, Nat.reduceLT, Nat.reduceLeDiff, Nat.reduceSub, Nat.reduceMul, Nat.reduceBEq, Int.reduceToNat, Int.reduceLE, Int.reduceLT, Int.reducePow]; rfl
    case t3 =>
      intro hb1
      have h0 : (rowsB es).length = 0 := by simp only [decide_eq_true_eq] at hb1; omega
      have hE : dErr (rowsB es) = 42 := by rw [dErr, if_pos h0]
      refine AWp.seq ?_
      refine AWp.reg (S1 := ?S4) (ob := ?o4) (S' := ?K4) tab_ok (knowL_ok kn14_ok) mixed [2, 3, 4] ?r4 ?h4 ?k4 ?w4
      case r4 => simp only [go_sem, kn14, rightF, numF, fitsF, progFilesF, unf_fdrow, Try.ntmps14, reduceIte, reduceCtorEq, Nat.reduceAdd, Nat.reduceEqDiff, Nat.reduceLT, Nat.reduceLeDiff, Nat.reduceSub, Nat.reduceMul, Nat.reduceBEq, Int.reduceToNat, Int.reduceLE, Int.reduceLT, Int.reducePow]; rfl
      case h4 => first | exact True.intro | omega | (simp only [go_sem, kn14, rightF, numF, fitsF, progFilesF, unf_fdrow, Try.ntmps14, reduceIte, reduceCtorEq, Nat.reduceAdd, Nat.reduceEqDiff, Nat.reduceLT, Nat.reduceLeDiff, Nat.reduceSub, Nat.reduceMul, Nat.reduceBEq, Int.reduceToNat, Int.reduceLE, Int.reduceLT, Int.reducePow]; done) | (simp only [go_sem, kn14, rightF, numF, fitsF, progFilesF, unf_fdrow, Try.ntmps14, reduceIte, reduceCtorEq, Nat.reduceAdd, Nat.reduceEqDiff, Nat.reduceLT, Nat.reduceLeDiff, Nat.reduceSub, Nat.reduceMul, Nat.reduceBEq, Int.reduceToNat, Int.reduceLE, Int.reduceLT, Int.reducePow]; omega)
      case k4 => simp only [go_sem, kn14, rightF, numF, fitsF, progFilesF, unf_fdrow, Try.ntmps14, reduceIte, reduceCtorEq, Nat.reduceAdd, Nat.reduceEqDiff, Nat.reduceLT, Nat.reduceLeDiff, Nat.reduceSub, Nat.reduceMul, Nat.reduceBEq, Int.reduceToNat, Int.reduceLE, Int.reduceLT, Int.reducePow]; rfl
      refine AWp.ret ?_
      refine ends_p (vs := ?vs1) (ob := ?ro1) (vs' := ?ws1) (ks := ?ks1) (ob2 := ?rp1) tab_ok (by simp) ?er1 ?eo1 ?ef1 ?eg1 ?en1 ?ek1 ?ev1
      case er1 => simp only [go_sem, kn14, rightF, numF, fitsF, progFilesF, unf_fdrow, Try.ntmps14, reduceIte, reduceCtorEq, Nat.reduceAdd, Nat.reduceEqDiff, Nat.reduceLT, Nat.reduceLeDiff, Nat.reduceSub, Nat.reduceMul, Nat.reduceBEq, Int.reduceToNat, Int.reduceLE, Int.reduceLT, Int.reducePow, Try.results14]; rfl
      case eo1 => first | exact True.intro | simp only [go_sem, kn14, rightF, numF, fitsF, progFilesF, unf_fdrow, Try.ntmps14, reduceIte, reduceCtorEq, Nat.reduceAdd, Nat.reduceEqDiff, Nat.reduceLT, Nat.reduceLeDiff, Nat.reduceSub, Nat.reduceMul, Nat.reduceBEq, Int.reduceToNat, Int.reduceLE, Int.reduceLT, Int.reducePow]
      case ef1 => simp only [go_sem, kn14, rightF, numF, fitsF, progFilesF, unf_fdrow, Try.ntmps14, reduceIte, reduceCtorEq, Nat.reduceAdd, Nat.reduceEqDiff, Nat.reduceLT, Nat.reduceLeDiff, Nat.reduceSub, Nat.reduceMul, Nat.reduceBEq, Int.reduceToNat, Int.reduceLE, Int.reduceLT, Int.reducePow]; rfl
      case eg1 => first | exact True.intro | simp only [go_sem, kn14, rightF, numF, fitsF, progFilesF, unf_fdrow, Try.ntmps14, reduceIte, reduceCtorEq, Nat.reduceAdd, Nat.reduceEqDiff, Nat.reduceLT, Nat.reduceLeDiff, Nat.reduceSub, Nat.reduceMul, Nat.reduceBEq, Int.reduceToNat, Int.reduceLE, Int.reduceLT, Int.reducePow]
      case en1 => simp only [go_sem, kn14, rightF, numF, fitsF, progFilesF, unf_fdrow, Try.ntmps14, reduceIte, reduceCtorEq, Nat.reduceAdd, Nat.reduceEqDiff, Nat.reduceLT, Nat.reduceLeDiff, Nat.reduceSub, Nat.reduceMul, Nat.reduceBEq, Int.reduceToNat, Int.reduceLE, Int.reduceLT, Int.reducePow]
      case ek1 => simp only [go_sem, kn14, rightF, numF, fitsF, progFilesF, unf_fdrow, Try.ntmps14, reduceIte, reduceCtorEq, Nat.reduceAdd, Nat.reduceEqDiff, Nat.reduceLT, Nat.reduceLeDiff, Nat.reduceSub, Nat.reduceMul, Nat.reduceBEq, Int.reduceToNat, Int.reduceLE, Int.reduceLT, Int.reducePow]
      case ev1 =>
        rw [decV, if_neg (by rw [hE]; decide), hE]; rfl
    case f3 =>
      intro hb1
      have hl : 0 < es.length := by simp only [decide_eq_false_iff_not] at hb1; omega
      obtain rfl : e = 1 := h1.resolve_left (by rintro rfl; simp at hl)
      have hrow0 := h2.get hl [.slice (some true) 1 []]
      have hfd : (rowsB es).getD 0 [] = dF (rowsB es) := rfl
      rw [hfd] at hrow0
      have hrow := fun i (hi : i < es.length) => h2.get hi [.slice (some true) 1 []]
      generalize rowsB es = L at *
      have hn0 : ¬ L.length = 0 := by omega
      have hNr := dN_rng L
      have hN1 := dN_eq L
      have hM1 := dM_eq L
      have hcnt : (if (es.length : Int) < dN L then (es.length : Int) else dN L).toNat = dCnt L := by rw [dCnt, ← hrl]; split <;> omega
      have hcl : (List.take (dCnt L) es).length = dCnt L := by rw [List.length_take, dCnt]; omega
      refine AWp.seq ?_
      refine AWp.reg (S1 := ?S5) (ob := ?o5) (S' := ?K5) tab_ok (knowL_ok kn14_ok) mixed [0, 2, 17] ?r5 ?h5 ?k5 ?w5
      case r5 => simp only [go_sem, kn14, rightF, numF, fitsF, progFilesF, unf_fdrow, Try.ntmps14, reduceIte, reduceCtorEq, Nat.reduceAdd, Nat.reduceEqDiff, Nat.reduceLT, Nat.reduceLeDiff, Nat.reduceSub, Nat.reduceMul, Nat.reduceBEq, Int.reduceToNat, Int.reduceLE, Int.reduceLT, Int.reducePow, hrow0]; rfl
      case h5 => first | exact True.intro | omega | (simp only [go_sem, kn14, rightF, numF, fitsF, progFilesF, unf_fdrow, Try.ntmps14, reduceIte, reduceCtorEq, Nat.reduceAdd, Nat.reduceEqDiff, Nat.reduceLT, Nat.reduceLeDiff, Nat.reduceSub, Nat.reduceMul, Nat.reduceBEq, Int.reduceToNat, Int.reduceLE, Int.reduceLT, Int.reducePow]; done) | (simp only [go_sem, kn14, rightF, numF, fitsF, progFilesF, unf_fdrow, Try.ntmps14, reduceIte, reduceCtorEq, Nat.reduceAdd, Nat.reduceEqDiff, Nat.reduceLT, Nat.reduceLeDiff, Nat.reduceSub, Nat.reduceMul, Nat.reduceBEq, Int.reduceToNat, Int.reduceLE, Int.reduceLT, Int.reducePow]; omega)
      case k5 => simp only [go_sem, kn14, rightF, numF, fitsF, progFilesF, unf_fdrow, Try.ntmps14, reduceIte, reduceCtorEq, Nat.reduceAdd, Nat.reduceEqDiff, Nat.reduceLT, Nat.reduceLeDiff, Nat.reduceSub, Nat.reduceMul, Nat.reduceBEq, Int.reduceToNat, Int.reduceLE, Int.reduceLT, Int.reducePow]; rfl
      refine AWp.cond (b := ?b6) ?c6 ?t6 ?f6
      case c6 => simp only [go_sem, kn14, rightF, numF, fitsF, progFilesF, unf_fdrow, Try.ntmps14, reduceIte, reduceCtorEq, Nat.reduceAdd, Nat.reduceEqDiff, Nat.reduceLT, Nat.reduceLeDiff, Nat.reduceSub, Nat.reduceMul, Nat.reduceBEq, Int.reduceToNat, Int.reduceLE, Int.reduceLT, Int.reducePow]; rfl
      case t6 =>
        intro hb2
        have hE : dErr L = 201 := by rw [dErr, if_neg hn0, if_pos (by simp only [decide_eq_true_eq] at hb2; omega)]
        refine AWp.seq ?_
        refine AWp.reg (S1 := ?S7) (ob := ?o7) (S' := ?K7) tab_ok (knowL_ok kn14_ok) mixed [2, 3, 4] ?r7 ?h7 ?k7 ?w7
        case r7 => simp only [go_sem, kn14, rightF, numF, fitsF, progFilesF, unf_fdrow, Try.ntmps14, reduceIte, reduceCtorEq, Nat.reduceAdd, Nat.reduceEqDiff, Nat.reduceLT, Nat.reduceLeDiff, Nat.reduceSub, Nat.reduceMul, Nat.reduceBEq, Int.reduceToNat, Int.reduceLE, Int.reduceLT, Int.reducePow]; rfl
        case h7 => first | exact True.intro | omega | (simp only [go_sem, kn14, rightF, numF, fitsF, progFilesF, unf_fdrow, Try.ntmps14, reduceIte, reduceCtorEq, Nat.reduceAdd, Nat.reduceEqDiff, Nat.reduceLT, Nat.reduceLeDiff, Nat.reduceSub, Nat.reduceMul, Nat.reduceBEq, Int.reduceToNat, Int.reduceLE, Int.reduceLT, Int.reducePow]; done) | (simp only [go_sem, kn14, rightF, numF, fitsF, progFilesF, unf_fdrow, Try.ntmps14, reduceIte, reduceCtorEq, Nat.reduceAdd, Nat.reduceEqDiff, Nat.reduceLT, Nat.reduceLeDiff, Nat.reduceSub, Nat.reduceMul, Nat.reduceBEq, Int.reduceToNat, Int.reduceLE, Int.reduceLT, Int.reducePow]; omega)
        case k7 => simp only [go_sem, kn14, rightF, numF, fitsF, progFilesF, unf_fdrow, Try.ntmps14, reduceIte, reduceCtorEq, Nat.reduceAdd, Nat.reduceEqDiff, Nat.reduceLT, Nat.reduceLeDiff, Nat.reduceSub, Nat.reduceMul, Nat.reduceBEq, Int.reduceToNat, Int.reduceLE, Int.reduceLT, Int.reducePow]; rfl
        refine AWp.ret ?_
        refine ends_p (vs := ?vs2) (ob := ?ro2) (vs' := ?ws2) (ks := ?ks2) (ob2 := ?rp2) tab_ok (by simp) ?er2 ?eo2 ?ef2 ?eg2 ?en2 ?ek2 ?ev2
        case er2 => simp only [go_sem, kn14, rightF, numF, fitsF, progFilesF, unf_fdrow, Try.ntmps14, reduceIte, reduceCtorEq, Nat.reduceAdd, Nat.reduceEqDiff, Nat.reduceLT, Nat.reduceLeDiff, Nat.reduceSub, Nat.reduceMul, Nat.reduceBEq, Int.reduceToNat, Int.reduceLE, Int.reduceLT, Int.reducePow, Try.results14]; rfl
        case eo2 => first | exact True.intro | simp only [go_sem, kn14, rightF, numF, fitsF, progFilesF, unf_fdrow, Try.ntmps14, reduceIte, reduceCtorEq, Nat.reduceAdd, Nat.reduceEqDiff, Nat.reduceLT, Nat.reduceLeDiff, Nat.reduceSub, Nat.reduceMul, Nat.reduceBEq, Int.reduceToNat, Int.reduceLE, Int.reduceLT, Int.reducePow]
        case ef2 => simp only [go_sem, kn14, rightF, numF, fitsF, progFilesF, unf_fdrow, Try.ntmps14, reduceIte, reduceCtorEq, Nat.reduceAdd, Nat.reduceEqDiff, Nat.reduceLT, Nat.reduceLeDiff, Nat.reduceSub, Nat.reduceMul, Nat.reduceBEq, Int.reduceToNat, Int.reduceLE, Int.reduceLT, Int.reducePow]; rfl
        case eg2 => first | exact True.intro | simp only [go_sem, kn14, rightF, numF, fitsF, progFilesF, unf_fdrow, Try.ntmps14, reduceIte, reduceCtorEq, Nat.reduceAdd, Nat.reduceEqDiff, Nat.reduceLT, Nat.reduceLeDiff, Nat.reduceSub, Nat.reduceMul, Nat.reduceBEq, Int.reduceToNat, Int.reduceLE, Int.reduceLT, Int.reducePow]
        case en2 => simp only [go_sem, kn14, rightF, numF, fitsF, progFilesF, unf_fdrow, Try.ntmps14, reduceIte, reduceCtorEq, Nat.reduceAdd, Nat.reduceEqDiff, Nat.reduceLT, Nat.reduceLeDiff, Nat.reduceSub, Nat.reduceMul, Nat.reduceBEq, Int.reduceToNat, Int.reduceLE, Int.reduceLT, Int.reducePow]
        case ek2 => simp only [go_sem, kn14, rightF, numF, fitsF, progFilesF, unf_fdrow, Try.ntmps14, reduceIte, reduceCtorEq, Nat.reduceAdd, Nat.reduceEqDiff, Nat.reduceLT, Nat.reduceLeDiff, Nat.reduceSub, Nat.reduceMul, Nat.reduceBEq, Int.reduceToNat, Int.reduceLE, Int.reduceLT, Int.reducePow]
        case ev2 =>
          rw [decV, if_neg (by rw [hE]; decide), hE]; rfl
      case f6 =>
        intro hb2
        have h12 : ¬ (dF L).length < 12 := by simp only [decide_eq_false_iff_not] at hb2; omega
        refine AWp.skip ?_
        refine AWp.seq ?_
        refine AWp.reg (S1 := ?S8) (ob := ?o8) (S' := ?K8) tab_ok (knowL_ok kn14_ok) mixed [0, 2, 5] ?r8 ?h8 ?k8 ?w8
        case r8 => simp only [go_sem, kn14, rightF, numF, fitsF, progFilesF, unf_fdrow, Try.ntmps14, reduceIte, reduceCtorEq, Nat.reduceAdd, Nat.reduceEqDiff, Nat.reduceLT, Nat.reduceLeDiff, Nat.reduceSub, Nat.reduceMul, Nat.reduceBEq, Int.reduceToNat, Int.reduceLE, Int.reduceLT, Int.reducePow, hrow0]; rfl
        case h8 => first | exact True.intro | omega | (simp only [go_sem, kn14, rightF, numF, fitsF, progFilesF, unf_fdrow, Try.ntmps14, reduceIte, reduceCtorEq, Nat.reduceAdd, Nat.reduceEqDiff, Nat.reduceLT, Nat.reduceLeDiff, Nat.reduceSub, Nat.reduceMul, Nat.reduceBEq, Int.reduceToNat, Int.reduceLE, Int.reduceLT, Int.reducePow]; done) | (simp only [go_sem, kn14, rightF, numF, fitsF, progFilesF, unf_fdrow, Try.ntmps14, reduceIte, reduceCtorEq, Nat.reduceAdd, Nat.reduceEqDiff, Nat.reduceLT, Nat.reduceLeDiff, Nat.reduceSub, Nat.reduceMul, Nat.reduceBEq, Int.reduceToNat, Int.reduceLE, Int.reduceLT, Int.reducePow]; omega)
        case k8 => simp only [go_sem, kn14, rightF, numF, fitsF, progFilesF, unf_fdrow, Try.ntmps14, reduceIte, reduceCtorEq, Nat.reduceAdd, Nat.reduceEqDiff, Nat.reduceLT, Nat.reduceLeDiff, Nat.reduceSub, Nat.reduceMul, Nat.reduceBEq, Int.reduceToNat, Int.reduceLE, Int.reduceLT, Int.reducePow]; rfl
        refine AWp.seq ?_
        refine AWp.reg (S1 := ?S9) (ob := ?o9) (S' := ?K9) tab_ok (knowL_ok kn14_ok) mixed [0, 2, 5, 6] ?r9 ?h9 ?k9 ?w9
        case r9 => simp only [go_sem, kn14, rightF, numF, fitsF, progFilesF, unf_fdrow, Try.ntmps14, reduceIte, reduceCtorEq, Nat.reduceAdd, Nat.reduceEqDiff, Nat.reduceLT, Nat.reduceLeDiff, Nat.reduceSub, Nat.reduceMul, Nat.reduceBEq, Int.reduceToNat, Int.reduceLE, Int.reduceLT, Int.reducePow, hN1]; rfl
        case h9 =>
          exact ⟨⟨by omega, by omega⟩, by rw [List.length_take]; omega⟩
        case k9 => simp only [go_sem, kn14, rightF, numF, fitsF, progFilesF, unf_fdrow, Try.ntmps14, reduceIte, reduceCtorEq, Nat.reduceAdd, Nat.reduceEqDiff, Nat.reduceLT, Nat.reduceLeDiff, Nat.reduceSub, Nat.reduceMul, Nat.reduceBEq, Int.reduceToNat, Int.reduceLE, Int.reduceLT, Int.reducePow]; rfl
        refine AWp.seq ?_
        refine AWp.reg (S1 := ?S10) (ob := ?o10) (S' := ?K10) tab_ok (knowL_ok kn14_ok) mixed [0, 2, 5, 6, 7] ?r10 ?h10 ?k10 ?w10
        case r10 => simp only [go_sem, kn14, rightF, numF, fitsF, progFilesF, unf_fdrow, Try.ntmps14, reduceIte, reduceCtorEq, Nat.reduceAdd, Nat.reduceEqDiff, Nat.reduceLT, Nat.reduceLeDiff, Nat.reduceSub, Nat.reduceMul, Nat.reduceBEq, Int.reduceToNat, Int.reduceLE, Int.reduceLT, Int.reducePow, hM1]; rfl
        case h10 =>
          exact ⟨⟨by omega, by omega⟩, by rw [List.length_take]; omega⟩
        case k10 => simp only [go_sem, kn14, rightF, numF, fitsF, progFilesF, unf_fdrow, Try.ntmps14, reduceIte, reduceCtorEq, Nat.reduceAdd, Nat.reduceEqDiff, Nat.reduceLT, Nat.reduceLeDiff, Nat.reduceSub, Nat.reduceMul, Nat.reduceBEq, Int.reduceToNat, Int.reduceLE, Int.reduceLT, Int.reducePow]; rfl
        refine AWp.seq ?_
        refine AWp.seq ?_
        refine AWp.reg (S1 := ?S11) (ob := ?o11) (S' := ?K11) tab_ok (knowL_ok kn14_ok) mixed [0, 2, 5, 6, 7, 47] ?r11 ?h11 ?k11 ?w11
        case r11 => simp only [go_sem, kn14, rightF, numF, fitsF, progFilesF, unf_fdrow, Try.ntmps14, reduceIte, reduceCtorEq, Nat.reduceAdd, Nat.reduceEqDiff, Nat.reduceLT, Nat.reduceLeDiff, Nat.reduceSub, Nat.reduceMul, Nat.reduceBEq, Int.reduceToNat, Int.reduceLE, Int.reduceLT, Int.reducePow]; rfl
        case h11 => first | exact True.intro | omega | (simp only [go_sem, kn14, rightF, numF, fitsF, progFilesF, unf_fdrow, Try.ntmps14, reduceIte, reduceCtorEq, Nat.reduceAdd, Nat.reduceEqDiff, Nat.reduceLT, Nat.reduceLeDiff, Nat.reduceSub, Nat.reduceMul, Nat.reduceBEq, Int.reduceToNat, Int.reduceLE, Int.reduceLT, Int.reducePow]; done) | (simp only [go_sem, kn14, rightF, numF, fitsF, progFilesF, unf_fdrow, Try.ntmps14, reduceIte, reduceCtorEq, Nat.reduceAdd, Nat.reduceEqDiff, Nat.reduceLT, Nat.reduceLeDiff, Nat.reduceSub, Nat.reduceMul, Nat.reduceBEq, Int.reduceToNat, Int.reduceLE, Int.reduceLT, Int.reducePow]; omega)
        case k11 => simp only [go_sem, kn14, rightF, numF, fitsF, progFilesF, unf_fdrow, Try.ntmps14, reduceIte, reduceCtorEq, Nat.reduceAdd, Nat.reduceEqDiff, Nat.reduceLT, Nat.reduceLeDiff, Nat.reduceSub, Nat.reduceMul, Nat.reduceBEq, Int.reduceToNat, Int.reduceLE, Int.reduceLT, Int.reducePow]; rfl
        refine AWp.cond (b := ?b12) ?c12 ?t12 ?f12
        case c12 => simp only [go_sem, kn14, rightF, numF, fitsF, progFilesF, unf_fdrow, Try.ntmps14, reduceIte, reduceCtorEq, Nat.reduceAdd, Nat.reduceEqDiff, Nat.reduceLT, Nat.reduceLeDiff, Nat.reduceSub, Nat.reduceMul, Nat.reduceBEq, Int.reduceToNat, Int.reduceLE, Int.reduceLT, Int.reducePow]; rfl
        case t12 =>
          intro hb3
          have hh : dHead L = true := by simpa [dHead, Bool.or_assoc] using hb3
          have hE : dErr L = 201 := by rw [dErr, if_neg hn0, if_neg h12, if_pos hh]
          refine AWp.seq ?_
          refine AWp.reg (S1 := ?S13) (ob := ?o13) (S' := ?K13) tab_ok (knowL_ok kn14_ok) mixed [2, 3, 4] ?r13 ?h13 ?k13 ?w13
          case r13 => simp only [go_sem, kn14, rightF, numF, fitsF, progFilesF, unf_fdrow, Try.ntmps14, reduceIte, reduceCtorEq, Nat.reduceAdd, Nat.reduceEqDiff, Nat.reduceLT, Nat.reduceLeDiff, Nat.reduceSub, Nat.reduceMul, Nat.reduceBEq, Int.reduceToNat, Int.reduceLE, Int.reduceLT, Int.reducePow]; rfl
          case h13 => first | exact True.intro | omega | (simp only [go_sem, kn14, rightF, numF, fitsF, progFilesF, unf_fdrow, Try.ntmps14, reduceIte, reduceCtorEq, Nat.reduceAdd, Nat.reduceEqDiff, Nat.reduceLT, Nat.reduceLeDiff, Nat.reduceSub, Nat.reduceMul, Nat.reduceBEq, Int.reduceToNat, Int.reduceLE, Int.reduceLT, Int.reducePow]; done) | (simp only [go_sem, kn14, rightF, numF, fitsF, progFilesF, unf_fdrow, Try.ntmps14, reduceIte, reduceCtorEq, Nat.reduceAdd, Nat.reduceEqDiff, Nat.reduceLT, Nat.reduceLeDiff, Nat.reduceSub, Nat.reduceMul, Nat.reduceBEq, Int.reduceToNat, Int.reduceLE, Int.reduceLT, Int.reducePow]; omega)
          case k13 => simp only [go_sem, kn14, rightF, numF, fitsF, progFilesF, unf_fdrow, Try.ntmps14, reduceIte, reduceCtorEq, Nat.reduceAdd, Nat.reduceEqDiff, Nat.reduceLT, Nat.reduceLeDiff, Nat.reduceSub, Nat.reduceMul, Nat.reduceBEq, Int.reduceToNat, Int.reduceLE, Int.reduceLT, Int.reducePow]; rfl
          refine AWp.ret ?_
          refine ends_p (vs := ?vs3) (ob := ?ro3) (vs' := ?ws3) (ks := ?ks3) (ob2 := ?rp3) tab_ok (by simp) ?er3 ?eo3 ?ef3 ?eg3 ?en3 ?ek3 ?ev3
          case er3 => simp only [go_sem, kn14, rightF, numF, fitsF, progFilesF, unf_fdrow, Try.ntmps14, reduceIte, reduceCtorEq, Nat.reduceAdd, Nat.reduceEqDiff, Nat.reduceLT, Nat.reduceLeDiff, Nat.reduceSub, Nat.reduceMul, Nat.reduceBEq, Int.reduceToNat, Int.reduceLE, Int.reduceLT, Int.reducePow, Try.results14]; rfl
          case eo3 => first | exact True.intro | simp only [go_sem, kn14, rightF, numF, fitsF, progFilesF, unf_fdrow, Try.ntmps14, reduceIte, reduceCtorEq, Nat.reduceAdd, Nat.reduceEqDiff, Nat.reduceLT, Nat.reduceLeDiff, Nat.reduceSub, Nat.reduceMul, Nat.reduceBEq, Int.reduceToNat, Int.reduceLE, Int.reduceLT, Int.reducePow]
          case ef3 => simp only [go_sem, kn14, rightF, numF, fitsF, progFilesF, unf_fdrow, Try.ntmps14, reduceIte, reduceCtorEq, Nat.reduceAdd, Nat.reduceEqDiff, Nat.reduceLT, Nat.reduceLeDiff, Nat.reduceSub, Nat.reduceMul, Nat.reduceBEq, Int.reduceToNat, Int.reduceLE, Int.reduceLT, Int.reducePow]; rfl
          case eg3 => first | exact True.intro | simp only [go_sem, kn14, rightF, numF, fitsF, progFilesF, unf_fdrow, Try.ntmps14, reduceIte, reduceCtorEq, Nat.reduceAdd, Nat.reduceEqDiff, Nat.reduceLT, Nat.reduceLeDiff, Nat.reduceSub, Nat.reduceMul, Nat.reduceBEq, Int.reduceToNat, Int.reduceLE, Int.reduceLT, Int.reducePow]
          case en3 => simp only [go_sem, kn14, rightF, numF, fitsF, progFilesF, unf_fdrow, Try.ntmps14, reduceIte, reduceCtorEq, Nat.reduceAdd, Nat.reduceEqDiff, Nat.reduceLT, Nat.reduceLeDiff, Nat.reduceSub, Nat.reduceMul, Nat.reduceBEq, Int.reduceToNat, Int.reduceLE, Int.reduceLT, Int.reducePow]
          case ek3 => simp only [go_sem, kn14, rightF, numF, fitsF, progFilesF, unf_fdrow, Try.ntmps14, reduceIte, reduceCtorEq, Nat.reduceAdd, Nat.reduceEqDiff, Nat.reduceLT, Nat.reduceLeDiff, Nat.reduceSub, Nat.reduceMul, Nat.reduceBEq, Int.reduceToNat, Int.reduceLE, Int.reduceLT, Int.reducePow]
          case ev3 =>
            rw [decV, if_neg (by rw [hE]; decide), hE]; rfl
        case f12 =>
          intro hb3
          have hh : dHead L = false := by simpa [dHead, Bool.or_assoc] using hb3
          refine AWp.skip ?_
          refine AWp.seq ?_
          refine AWp.reg (S1 := ?S14) (ob := ?o14) (S' := ?K14) tab_ok (knowL_ok kn14_ok) mixed [0, 2, 5, 6, 7, 8] ?r14 ?h14 ?k14 ?w14
          case r14 => simp only [go_sem, kn14, rightF, numF, fitsF, progFilesF, unf_fdrow, Try.ntmps14, reduceIte, reduceCtorEq, Nat.reduceAdd, Nat.reduceEqDiff, Nat.reduceLT, Nat.reduceLeDiff, Nat.reduceSub, Nat.reduceMul, Nat.reduceBEq, Int.reduceToNat, Int.reduceLE, Int.reduceLT, Int.reducePow]; rfl
          case h14 => first | exact True.intro | omega | (simp only [go_sem, kn14, rightF, numF, fitsF, progFilesF, unf_fdrow, Try.ntmps14, reduceIte, reduceCtorEq, Nat.reduceAdd, Nat.reduceEqDiff, Nat.reduceLT, Nat.reduceLeDiff, Nat.reduceSub, Nat.reduceMul, Nat.reduceBEq, Int.reduceToNat, Int.reduceLE, Int.reduceLT, Int.reducePow]; done) | (simp only [go_sem, kn14, rightF, numF, fitsF, progFilesF, unf_fdrow, Try.ntmps14, reduceIte, reduceCtorEq, Nat.reduceAdd, Nat.reduceEqDiff, Nat.reduceLT, Nat.reduceLeDiff, Nat.reduceSub, Nat.reduceMul, Nat.reduceBEq, Int.reduceToNat, Int.reduceLE, Int.reduceLT, Int.reducePow]; omega)
          case k14 => simp only [go_sem, kn14, rightF, numF, fitsF, progFilesF, unf_fdrow, Try.ntmps14, reduceIte, reduceCtorEq, Nat.reduceAdd, Nat.reduceEqDiff, Nat.reduceLT, Nat.reduceLeDiff, Nat.reduceSub, Nat.reduceMul, Nat.reduceBEq, Int.reduceToNat, Int.reduceLE, Int.reduceLT, Int.reducePow]; rfl
          refine AWp.seq ?_
          refine AWp.seq ?_
          refine AWp.reg (S1 := ?S15) (ob := ?o15) (S' := ?K15) tab_ok (knowL_ok kn14_ok) mixed [0, 2, 5, 6, 7, 8, 54, 55, 56] ?r15 ?h15 ?k15 ?w15
          case r15 => simp only [go_sem, kn14, rightF, numF, fitsF, progFilesF, unf_fdrow, Try.ntmps14, reduceIte, reduceCtorEq, Nat.reduceAdd, Nat.reduceEqDiff, Nat.reduceLT, Nat.reduceLeDiff, Nat.reduceSub, Nat.reduceMul, Nat.reduceBEq, Int.reduceToNat, Int.reduceLE, Int.reduceLT, Int.reducePow, hcnt, hcl]; rfl
          case h15 => first | exact True.intro | omega | (simp only [go_sem, kn14, rightF, numF, fitsF, progFilesF, unf_fdrow, Try.ntmps14, reduceIte, reduceCtorEq, Nat.reduceAdd, Nat.reduceEqDiff, Nat.reduceLT, Nat.reduceLeDiff, Nat.reduceSub, Nat.reduceMul, Nat.reduceBEq, Int.reduceToNat, Int.reduceLE, Int.reduceLT, Int.reducePow]; done) | (simp only [go_sem, kn14, rightF, numF, fitsF, progFilesF, unf_fdrow, Try.ntmps14, reduceIte, reduceCtorEq, Nat.reduceAdd, Nat.reduceEqDiff, Nat.reduceLT, Nat.reduceLeDiff, Nat.reduceSub, Nat.reduceMul, Nat.reduceBEq, Int.reduceToNat, Int.reduceLE, Int.reduceLT, Int.reducePow]; omega)
          case k15 => simp only [go_sem, kn14, rightF, numF, fitsF, progFilesF, unf_fdrow, Try.ntmps14, reduceIte, reduceCtorEq, Nat.reduceAdd, Nat.reduceEqDiff, Nat.reduceLT, Nat.reduceLeDiff, Nat.reduceSub, Nat.reduceMul, Nat.reduceBEq, Int.reduceToNat, Int.reduceLE, Int.reduceLT, Int.reducePow]; rfl
          refine AWp.block ?_
          refine AWp.conv (Conv.nilT 8 (e := 1) (ety := 5) rfl rfl) ?_
          refine AWp.conv (Conv.keep [0, 2, 5, 6, 7, 8, 54, 55, 56] [2, 1, 0] (by simp [St.nilT])) ?_
          refine AWp.loop (fun k S => ∃ i : Nat, i ≤ dCnt L ∧ k = dCnt L - i ∧ (List.range i).all (dFit L) = true ∧ S = ⟨[(0, .one (.s (.d (.slice z 1 es)))), (2, .one (.s (.ptr 0 0))), (5, .one (dv (.slice (rowZ1 (es.getD 0 [])) 1 (brow (dF L))))), (6, .one (dv (.int .i64 (dN L)))), (7, .one (.s (.ptr 1 0))), (8, .one (.s (.row 2 1 0 (dBody L i).length none))), (54, .one (dv (.slice z 1 (List.take (dCnt L) es)))), (55, .one (dv (.int .i64 ((dCnt L : Nat) : Int)))), (56, .one (dv (.int .i64 ((i : Nat) : Int))))], [(2, .row (brow (dBody L i)) 5), (1, .cells [.d (.int .i64 (dM L)), .d (.slice (some true) 3 [])] 32), (0, .cells [.d (.int .i64 0), .d (.slice (some true) 3 [])] 32)], 3⟩) (dCnt L) ?i1 ?n1
          case i1 =>
            exact ⟨0, by omega, rfl, by simp, by simp only [hcnt, hcl]; simp [St.nilT, St.keep, keepE, lookN, dBody, brow]⟩
          case n1 =>
            rintro k S ⟨i, hi0, rfl, ht, rfl⟩
            refine AWp.seq ?_
            refine AWp.reg (S1 := ?S16) (ob := ?o16) (S' := ?K16) tab_ok (knowL_ok kn14_ok) mixed [0, 2, 5, 6, 7, 8, 54, 55, 56, 57] ?r16 ?h16 ?k16 ?w16
            case r16 => simp only [go_sem, kn14, rightF, numF, fitsF, progFilesF, unf_fdrow, Try.ntmps14, reduceIte, reduceCtorEq, Nat.reduceAdd, Nat.reduceEqDiff, Nat.reduceLT, Nat.reduceLeDiff, Nat.reduceSub, Nat.reduceMul, Nat.reduceBEq, Int.reduceToNat, Int.reduceLE, Int.reduceLT, Int.reducePow]; rfl
            case h16 => first | exact True.intro | omega | (simp only [go_sem, kn14, rightF, numF, fitsF, progFilesF, unf_fdrow, Try.ntmps14, reduceIte, reduceCtorEq, Nat.reduceAdd, Nat.reduceEqDiff, Nat.reduceLT, Nat.reduceLeDiff, Nat.reduceSub, Nat.reduceMul, Nat.reduceBEq, Int.reduceToNat, Int.reduceLE, Int.reduceLT, Int.reducePow]; done) | (simp only [go_sem, kn14, rightF, numF, fitsF, progFilesF, unf_fdrow, Try.ntmps14, reduceIte, reduceCtorEq, Nat.reduceAdd, Nat.reduceEqDiff, Nat.reduceLT, Nat.reduceLeDiff, Nat.reduceSub, Nat.reduceMul, Nat.reduceBEq, Int.reduceToNat, Int.reduceLE, Int.reduceLT, Int.reducePow]; omega)
            case k16 => simp only [go_sem, kn14, rightF, numF, fitsF, progFilesF, unf_fdrow, Try.ntmps14, reduceIte, reduceCtorEq, Nat.reduceAdd, Nat.reduceEqDiff, Nat.reduceLT, Nat.reduceLeDiff, Nat.reduceSub, Nat.reduceMul, Nat.reduceBEq, Int.reduceToNat, Int.reduceLE, Int.reduceLT, Int.reducePow]; rfl
            refine AWp.seq ?_
            refine AWp.cond (b := ?b17) ?c17 ?t17 ?f17
            case c17 => simp only [go_sem, kn14, rightF, numF, fitsF, progFilesF, unf_fdrow, Try.ntmps14, reduceIte, reduceCtorEq, Nat.reduceAdd, Nat.reduceEqDiff, Nat.reduceLT, Nat.reduceLeDiff, Nat.reduceSub, Nat.reduceMul, Nat.reduceBEq, Int.reduceToNat, Int.reduceLE, Int.reduceLT, Int.reducePow]; rfl
            case t17 =>
              intro hb4
              have hi : i < dCnt L := by simp only [decide_eq_true_eq] at hb4; omega
              have hi2 : i < es.length := by unfold dCnt at hi; omega
              have hrw : (List.take (dCnt L) es).getD i [.slice (some true) 1 []] = [.slice (rowZ1 (es.getD i [])) 1 (brow (L.getD i []))] := by rw [getD_takeL hi]; exact hrow i hi2
              have hri : (L.getD i []).length ≤ 5000 := h5 _ (by rw [getD_lt (by omega)]; exact List.getElem_mem _)
              have hbl := dBody_len h5 i
              refine AWp.skip ?_
              refine AWp.seq ?_
              refine AWp.block ?_
              refine AWp.seq ?_
              refine AWp.reg (S1 := ?S18) (ob := ?o18) (S' := ?K18) tab_ok (knowL_ok kn14_ok) mixed [0, 2, 5, 6, 7, 8, 9, 10, 54, 55, 56] ?r18 ?h18 ?k18 ?w18
              case r18 => simp only [go_sem, kn14, rightF, numF, fitsF, progFilesF, unf_fdrow, Try.ntmps14, reduceIte, reduceCtorEq, Nat.reduceAdd, Nat.reduceEqDiff, Nat.reduceLT, Nat.reduceLeDiff, Nat.reduceSub, Nat.reduceMul, Nat.reduceBEq, Int.reduceToNat, Int.reduceLE, Int.reduceLT, Int.reducePow, hrw]; rfl
              case h18 => first | exact True.intro | omega | (simp only [go_sem, kn14, rightF, numF, fitsF, progFilesF, unf_fdrow, Try.ntmps14, reduceIte, reduceCtorEq, Nat.reduceAdd, Nat.reduceEqDiff, Nat.reduceLT, Nat.reduceLeDiff, Nat.reduceSub, Nat.reduceMul, Nat.reduceBEq, Int.reduceToNat, Int.reduceLE, Int.reduceLT, Int.reducePow]; done) | (simp only [go_sem, kn14, rightF, numF, fitsF, progFilesF, unf_fdrow, Try.ntmps14, reduceIte, reduceCtorEq, Nat.reduceAdd, Nat.reduceEqDiff, Nat.reduceLT, Nat.reduceLeDiff, Nat.reduceSub, Nat.reduceMul, Nat.reduceBEq, Int.reduceToNat, Int.reduceLE, Int.reduceLT, Int.reducePow]; omega)
              case k18 => simp only [go_sem, kn14, rightF, numF, fitsF, progFilesF, unf_fdrow, Try.ntmps14, reduceIte, reduceCtorEq, Nat.reduceAdd, Nat.reduceEqDiff, Nat.reduceLT, Nat.reduceLeDiff, Nat.reduceSub, Nat.reduceMul, Nat.reduceBEq, Int.reduceToNat, Int.reduceLE, Int.reduceLT, Int.reducePow]; rfl
              refine AWp.seq ?_
              refine AWp.seq ?_
              refine AWp.reg (S1 := ?S19) (ob := ?o19) (S' := ?K19) tab_ok (knowL_ok kn14_ok) mixed [0, 2, 5, 6, 7, 8, 10, 54, 55, 56, 66] ?r19 ?h19 ?k19 ?w19
              case r19 => simp only [go_sem, kn14, rightF, numF, fitsF, progFilesF, unf_fdrow, Try.ntmps14, reduceIte, reduceCtorEq, Nat.reduceAdd, Nat.reduceEqDiff, Nat.reduceLT, Nat.reduceLeDiff, Nat.reduceSub, Nat.reduceMul, Nat.reduceBEq, Int.reduceToNat, Int.reduceLE, Int.reduceLT, Int.reducePow]; rfl
              case h19 => first | exact True.intro | omega | (simp only [go_sem, kn14, rightF, numF, fitsF, progFilesF, unf_fdrow, Try.ntmps14, reduceIte, reduceCtorEq, Nat.reduceAdd, Nat.reduceEqDiff, Nat.reduceLT, Nat.reduceLeDiff, Nat.reduceSub, Nat.reduceMul, Nat.reduceBEq, Int.reduceToNat, Int.reduceLE, Int.reduceLT, Int.reducePow]; done) | (simp only [go_sem, kn14, rightF, numF, fitsF, progFilesF, unf_fdrow, Try.ntmps14, reduceIte, reduceCtorEq, Nat.reduceAdd, Nat.reduceEqDiff, Nat.reduceLT, Nat.reduceLeDiff, Nat.reduceSub, Nat.reduceMul, Nat.reduceBEq, Int.reduceToNat, Int.reduceLE, Int.reduceLT, Int.reducePow]; omega)
              case k19 => simp only [go_sem, kn14, rightF, numF, fitsF, progFilesF, unf_fdrow, Try.ntmps14, reduceIte, reduceCtorEq, Nat.reduceAdd, Nat.reduceEqDiff, Nat.reduceLT, Nat.reduceLeDiff, Nat.reduceSub, Nat.reduceMul, Nat.reduceBEq, Int.reduceToNat, Int.reduceLE, Int.reduceLT, Int.reducePow]; rfl
              refine AWp.cond (b := ?b20) ?c20 ?t20 ?f20
              case c20 => simp only [go_sem, kn14, rightF, numF, fitsF, progFilesF, unf_fdrow, Try.ntmps14, reduceIte, reduceCtorEq, Nat.reduceAdd, Nat.reduceEqDiff, Nat.reduceLT, Nat.reduceLeDiff, Nat.reduceSub, Nat.reduceMul, Nat.reduceBEq, Int.reduceToNat, Int.reduceLE, Int.reduceLT, Int.reducePow]; rfl
              case t20 =>
                intro hb5
                have hf : dFit L i = false := by have := hb5; simp only [Bool.not_eq_true'] at this; exact this
                have hall : (List.range (dCnt L)).all (dFit L) = false := all_no (l := List.range (dCnt L)) (i := i) (by simpa using hi) 0 (by simpa [List.getD_eq_getElem?_getD, List.getElem?_range hi] using hf)
                have hE : dErr L = 201 := by rw [dErr, if_neg hn0, if_neg h12, if_neg (by rw [hh]; decide), hall]; rfl
                refine AWp.seq ?_
                refine AWp.reg (S1 := ?S21) (ob := ?o21) (S' := ?K21) tab_ok (knowL_ok kn14_ok) mixed [2, 3, 4] ?r21 ?h21 ?k21 ?w21
                case r21 => simp only [go_sem, kn14, rightF, numF, fitsF, progFilesF, unf_fdrow, Try.ntmps14, reduceIte, reduceCtorEq, Nat.reduceAdd, Nat.reduceEqDiff, Nat.reduceLT, Nat.reduceLeDiff, Nat.reduceSub, Nat.reduceMul, Nat.reduceBEq, Int.reduceToNat, Int.reduceLE, Int.reduceLT, Int.reducePow]; rfl
                case h21 => first | exact True.intro | omega | (simp only [go_sem, kn14, rightF, numF, fitsF, progFilesF, unf_fdrow, Try.ntmps14, reduceIte, reduceCtorEq, Nat.reduceAdd, Nat.reduceEqDiff, Nat.reduceLT, Nat.reduceLeDiff, Nat.reduceSub, Nat.reduceMul, Nat.reduceBEq, Int.reduceToNat, Int.reduceLE, Int.reduceLT, Int.reducePow]; done) | (simp only [go_sem, kn14, rightF, numF, fitsF, progFilesF, unf_fdrow, Try.ntmps14, reduceIte, reduceCtorEq, Nat.reduceAdd, Nat.reduceEqDiff, Nat.reduceLT, Nat.reduceLeDiff, Nat.reduceSub, Nat.reduceMul, Nat.reduceBEq, Int.reduceToNat, Int.reduceLE, Int.reduceLT, Int.reducePow]; omega)
                case k21 => simp only [go_sem, kn14, rightF, numF, fitsF, progFilesF, unf_fdrow, Try.ntmps14, reduceIte, reduceCtorEq, Nat.reduceAdd, Nat.reduceEqDiff, Nat.reduceLT, Nat.reduceLeDiff, Nat.reduceSub, Nat.reduceMul, Nat.reduceBEq, Int.reduceToNat, Int.reduceLE, Int.reduceLT, Int.reducePow]; rfl
                refine AWp.ret ?_
                refine ends_p (vs := ?vs4) (ob := ?ro4) (vs' := ?ws4) (ks := ?ks4) (ob2 := ?rp4) tab_ok (by simp) ?er4 ?eo4 ?ef4 ?eg4 ?en4 ?ek4 ?ev4
                case er4 => simp only [go_sem, kn14, rightF, numF, fitsF, progFilesF, unf_fdrow, Try.ntmps14, reduceIte, reduceCtorEq, Nat.reduceAdd, Nat.reduceEqDiff, Nat.reduceLT, Nat.reduceLeDiff, Nat.reduceSub, Nat.reduceMul, Nat.reduceBEq, Int.reduceToNat, Int.reduceLE, Int.reduceLT, Int.reducePow, Try.results14]; rfl
                case eo4 => first | exact True.intro | simp only [go_sem, kn14, rightF, numF, fitsF, progFilesF, unf_fdrow, Try.ntmps14, reduceIte, reduceCtorEq, Nat.reduceAdd, Nat.reduceEqDiff, Nat.reduceLT, Nat.reduceLeDiff, Nat.reduceSub, Nat.reduceMul, Nat.reduceBEq, Int.reduceToNat, Int.reduceLE, Int.reduceLT, Int.reducePow]
                case ef4 => simp only [go_sem, kn14, rightF, numF, fitsF, progFilesF, unf_fdrow, Try.ntmps14, reduceIte, reduceCtorEq, Nat.reduceAdd, Nat.reduceEqDiff, Nat.reduceLT, Nat.reduceLeDiff, Nat.reduceSub, Nat.reduceMul, Nat.reduceBEq, Int.reduceToNat, Int.reduceLE, Int.reduceLT, Int.reducePow]; rfl
                case eg4 => first | exact True.intro | simp only [go_sem, kn14, rightF, numF, fitsF, progFilesF, unf_fdrow, Try.ntmps14, reduceIte, reduceCtorEq, Nat.reduceAdd, Nat.reduceEqDiff, Nat.reduceLT, Nat.reduceLeDiff, Nat.reduceSub, Nat.reduceMul, Nat.reduceBEq, Int.reduceToNat, Int.reduceLE, Int.reduceLT, Int.reducePow]
                case en4 => simp only [go_sem, kn14, rightF, numF, fitsF, progFilesF, unf_fdrow, Try.ntmps14, reduceIte, reduceCtorEq, Nat.reduceAdd, Nat.reduceEqDiff, Nat.reduceLT, Nat.reduceLeDiff, Nat.reduceSub, Nat.reduceMul, Nat.reduceBEq, Int.reduceToNat, Int.reduceLE, Int.reduceLT, Int.reducePow]
                case ek4 => simp only [go_sem, kn14, rightF, numF, fitsF, progFilesF, unf_fdrow, Try.ntmps14, reduceIte, reduceCtorEq, Nat.reduceAdd, Nat.reduceEqDiff, Nat.reduceLT, Nat.reduceLeDiff, Nat.reduceSub, Nat.reduceMul, Nat.reduceBEq, Int.reduceToNat, Int.reduceLE, Int.reduceLT, Int.reducePow]
                case ev4 =>
                  rw [decV, if_neg (by rw [hE]; decide), hE]; rfl
              case f20 =>
                intro hb5
                have hf : dFit L i = true := by have := hb5; simp only [Bool.not_eq_false'] at this; exact this
                have hr12 : 12 ≤ ((L.getD i []).length : Int) := by
                  simp only [dFit, hdB, Bool.and_eq_true, Bool.not_eq_true', Bool.or_eq_false_iff, decide_eq_false_iff_not] at hf
                  omega
                refine AWp.skip ?_
                refine AWp.reg (S1 := ?S22) (ob := ?o22) (S' := ?K22) tab_ok (knowL_ok kn14_ok) mixed [0, 2, 5, 6, 7, 8, 54, 55, 56] ?r22 ?h22 ?k22 ?w22
                case r22 => simp only [go_sem, kn14, rightF, numF, fitsF, progFilesF, unf_fdrow, Try.ntmps14, reduceIte, reduceCtorEq, Nat.reduceAdd, Nat.reduceEqDiff, Nat.reduceLT, Nat.reduceLeDiff, Nat.reduceSub, Nat.reduceMul, Nat.reduceBEq, Int.reduceToNat, Int.reduceLE, Int.reduceLT, Int.reducePow]; rfl
                case h22 =>
                  rw [List.length_drop]
                  omega
                case k22 => simp only [go_sem, kn14, rightF, numF, fitsF, progFilesF, unf_fdrow, Try.ntmps14, reduceIte, reduceCtorEq, Nat.reduceAdd, Nat.reduceEqDiff, Nat.reduceLT, Nat.reduceLeDiff, Nat.reduceSub, Nat.reduceMul, Nat.reduceBEq, Int.reduceToNat, Int.reduceLE, Int.reduceLT, Int.reducePow]; rfl
                refine AWp.reg (S1 := ?S23) (ob := ?o23) (S' := ?K23) tab_ok (knowL_ok kn14_ok) mixed [0, 2, 5, 6, 7, 8, 54, 55, 56] ?r23 ?h23 ?k23 ?w23
                case r23 => simp only [go_sem, kn14, rightF, numF, fitsF, progFilesF, unf_fdrow, Try.ntmps14, reduceIte, reduceCtorEq, Nat.reduceAdd, Nat.reduceEqDiff, Nat.reduceLT, Nat.reduceLeDiff, Nat.reduceSub, Nat.reduceMul, Nat.reduceBEq, Int.reduceToNat, Int.reduceLE, Int.reduceLT, Int.reducePow]; rfl
                case h23 => first | exact True.intro | omega | (simp only [go_sem, kn14, rightF, numF, fitsF, progFilesF, unf_fdrow, Try.ntmps14, reduceIte, reduceCtorEq, Nat.reduceAdd, Nat.reduceEqDiff, Nat.reduceLT, Nat.reduceLeDiff, Nat.reduceSub, Nat.reduceMul, Nat.reduceBEq, Int.reduceToNat, Int.reduceLE, Int.reduceLT, Int.reducePow]; done) | (simp only [go_sem, kn14, rightF, numF, fitsF, progFilesF, unf_fdrow, Try.ntmps14, reduceIte, reduceCtorEq, Nat.reduceAdd, Nat.reduceEqDiff, Nat.reduceLT, Nat.reduceLeDiff, Nat.reduceSub, Nat.reduceMul, Nat.reduceBEq, Int.reduceToNat, Int.reduceLE, Int.reduceLT, Int.reducePow]; omega)
                case k23 => simp only [go_sem, kn14, rightF, numF, fitsF, progFilesF, unf_fdrow, Try.ntmps14, reduceIte, reduceCtorEq, Nat.reduceAdd, Nat.reduceEqDiff, Nat.reduceLT, Nat.reduceLeDiff, Nat.reduceSub, Nat.reduceMul, Nat.reduceBEq, Int.reduceToNat, Int.reduceLE, Int.reduceLT, Int.reducePow]; rfl
                refine ⟨dCnt L - (i + 1), ⟨[(0, .one (.s (.d (.slice z 1 es)))), (2, .one (.s (.ptr 0 0))), (5, .one (dv (.slice (rowZ1 (es.getD 0 [])) 1 (brow (dF L))))), (6, .one (dv (.int .i64 (dN L)))), (7, .one (.s (.ptr 1 0))), (8, .one (.s (.row 2 1 0 (dBody L i ++ (L.getD i []).drop 12).length none))), (54, .one (dv (.slice z 1 (List.take (dCnt L) es)))), (55, .one (dv (.int .i64 ((dCnt L : Nat) : Int)))), (56, .one (dv (.int .i64 ((i + 1 : Nat) : Int))))], [(2, .row (brow (dBody L i ++ (L.getD i []).drop 12)) 5), (1, .cells [.d (.int .i64 (dM L)), .d (.slice (some true) 3 [])] 32), (0, .cells [.d (.int .i64 0), .d (.slice (some true) 3 [])] 32)], 3⟩, by omega, ?_, i + 1, by omega, rfl, by simp [List.range_succ, ht, hf], by rw [dBody_succ (by omega)]⟩
                exact (Conv.keep [0, 2, 5, 6, 7, 8, 54, 55, 56] [3, 1, 0] (by simp)).trans (Conv.rename (fun j => if j = 2 then 3 else j) (by simp; done) (by simp; done) (by simp [-List.getD_eq_getElem?_getD, -List.length_drop, St.keep, keepE, lookN, AVal.ren, AV.ren, Sc.ren, AVal.ids, AV.ids, Sc.ids]; done) (by simp [-List.getD_eq_getElem?_getD, St.keep, keepE, lookN, AObj.ren, AObj.ids, Sc.ids, Sc.ren, brow]; done) (by simp; done))
            case f17 =>
              intro hb4
              have hi : i = dCnt L := by simp only [decide_eq_false_iff_not] at hb4; omega
              subst hi
              have hbl := dBody_len h5 (dCnt L)
              have hcl2 : dCnt L ≤ 200 := by unfold dCnt; omega
              refine AWp.exit ?_
              refine thenA_exit ?_
              refine thenA_exit ?_
              refine inB_eq ?_
              refine AWp.seq ?_
              refine AWp.seq ?_
              refine AWp.reg (S1 := ?S24) (ob := ?o24) (S' := ?K24) tab_ok (knowL_ok kn14_ok) mixed [2, 6, 7, 8, 76] ?r24 ?h24 ?k24 ?w24
              case r24 => simp only [go_sem, kn14, rightF, numF, fitsF, progFilesF, unf_fdrow, Try.ntmps14, reduceIte, reduceCtorEq, Nat.reduceAdd, Nat.reduceEqDiff, Nat.reduceLT, Nat.reduceLeDiff, Nat.reduceSub, Nat.reduceMul, Nat.reduceBEq, Int.reduceToNat, Int.reduceLE, Int.reduceLT, Int.reducePow]; rfl
              case h24 => first | exact True.intro | omega | (simp only [go_sem, kn14, rightF, numF, fitsF, progFilesF, unf_fdrow, Try.ntmps14, reduceIte, reduceCtorEq, Nat.reduceAdd, Nat.reduceEqDiff, Nat.reduceLT, Nat.reduceLeDiff, Nat.reduceSub, Nat.reduceMul, Nat.reduceBEq, Int.reduceToNat, Int.reduceLE, Int.reduceLT, Int.reducePow]; done) | (simp only [go_sem, kn14, rightF, numF, fitsF, progFilesF, unf_fdrow, Try.ntmps14, reduceIte, reduceCtorEq, Nat.reduceAdd, Nat.reduceEqDiff, Nat.reduceLT, Nat.reduceLeDiff, Nat.reduceSub, Nat.reduceMul, Nat.reduceBEq, Int.reduceToNat, Int.reduceLE, Int.reduceLT, Int.reducePow]; omega)
              case k24 => simp only [go_sem, kn14, rightF, numF, fitsF, progFilesF, unf_fdrow, Try.ntmps14, reduceIte, reduceCtorEq, Nat.reduceAdd, Nat.reduceEqDiff, Nat.reduceLT, Nat.reduceLeDiff, Nat.reduceSub, Nat.reduceMul, Nat.reduceBEq, Int.reduceToNat, Int.reduceLE, Int.reduceLT, Int.reducePow]; rfl
              refine AWp.cond (b := ?b25) ?c25 ?t25 ?f25
              case c25 => simp only [go_sem, kn14, rightF, numF, fitsF, progFilesF, unf_fdrow, Try.ntmps14, reduceIte, reduceCtorEq, Nat.reduceAdd, Nat.reduceEqDiff, Nat.reduceLT, Nat.reduceLeDiff, Nat.reduceSub, Nat.reduceMul, Nat.reduceBEq, Int.reduceToNat, Int.reduceLE, Int.reduceLT, Int.reducePow]; rfl
              case t25 =>
                intro hb6
                have hE : dErr L = 42 := by rw [dErr, if_neg hn0, if_neg h12, if_neg (by rw [hh]; decide), if_pos ht, if_pos (by simp only [decide_eq_true_eq] at hb6; omega)]
                refine AWp.seq ?_
                refine AWp.reg (S1 := ?S26) (ob := ?o26) (S' := ?K26) tab_ok (knowL_ok kn14_ok) mixed [2, 3, 4] ?r26 ?h26 ?k26 ?w26
                case r26 => simp only [go_sem, kn14, rightF, numF, fitsF, progFilesF, unf_fdrow, Try.ntmps14, reduceIte, reduceCtorEq, Nat.reduceAdd, Nat.reduceEqDiff, Nat.reduceLT, Nat.reduceLeDiff, Nat.reduceSub, Nat.reduceMul, Nat.reduceBEq, Int.reduceToNat, Int.reduceLE, Int.reduceLT, Int.reducePow]; rfl
                case h26 => first | exact True.intro | omega | (simp only [go_sem, kn14, rightF, numF, fitsF, progFilesF, unf_fdrow, Try.ntmps14, reduceIte, reduceCtorEq, Nat.reduceAdd, Nat.reduceEqDiff, Nat.reduceLT, Nat.reduceLeDiff, Nat.reduceSub, Nat.reduceMul, Nat.reduceBEq, Int.reduceToNat, Int.reduceLE, Int.reduceLT, Int.reducePow]; done) | (simp only [go_sem, kn14, rightF, numF, fitsF, progFilesF, unf_fdrow, Try.ntmps14, reduceIte, reduceCtorEq, Nat.reduceAdd, Nat.reduceEqDiff, Nat.reduceLT, Nat.reduceLeDiff, Nat.reduceSub, Nat.reduceMul, Nat.reduceBEq, Int.reduceToNat, Int.reduceLE, Int.reduceLT, Int.reducePow]; omega)
                case k26 => simp only [go_sem, kn14, rightF, numF, fitsF, progFilesF, unf_fdrow, Try.ntmps14, reduceIte, reduceCtorEq, Nat.reduceAdd, Nat.reduceEqDiff, Nat.reduceLT, Nat.reduceLeDiff, Nat.reduceSub, Nat.reduceMul, Nat.reduceBEq, Int.reduceToNat, Int.reduceLE, Int.reduceLT, Int.reducePow]; rfl
                refine AWp.ret ?_
                refine ends_p (vs := ?vs5) (ob := ?ro5) (vs' := ?ws5) (ks := ?ks5) (ob2 := ?rp5) tab_ok (by simp) ?er5 ?eo5 ?ef5 ?eg5 ?en5 ?ek5 ?ev5
                case er5 => simp only [go_sem, kn14, rightF, numF, fitsF, progFilesF, unf_fdrow, Try.ntmps14, reduceIte, reduceCtorEq, Nat.reduceAdd, Nat.reduceEqDiff, Nat.reduceLT, Nat.reduceLeDiff, Nat.reduceSub, Nat.reduceMul, Nat.reduceBEq, Int.reduceToNat, Int.reduceLE, Int.reduceLT, Int.reducePow, Try.results14]; rfl
                case eo5 => first | exact True.intro | simp only [go_sem, kn14, rightF, numF, fitsF, progFilesF, unf_fdrow, Try.ntmps14, reduceIte, reduceCtorEq, Nat.reduceAdd, Nat.reduceEqDiff, Nat.reduceLT, Nat.reduceLeDiff, Nat.reduceSub, Nat.reduceMul, Nat.reduceBEq, Int.reduceToNat, Int.reduceLE, Int.reduceLT, Int.reducePow]
                case ef5 => simp only [go_sem, kn14, rightF, numF, fitsF, progFilesF, unf_fdrow, Try.ntmps14, reduceIte, reduceCtorEq, Nat.reduceAdd, Nat.reduceEqDiff, Nat.reduceLT, Nat.reduceLeDiff, Nat.reduceSub, Nat.reduceMul, Nat.reduceBEq, Int.reduceToNat, Int.reduceLE, Int.reduceLT, Int.reducePow]; rfl
                case eg5 => first | exact True.intro | simp only [go_sem, kn14, rightF, numF, fitsF, progFilesF, unf_fdrow, Try.ntmps14, reduceIte, reduceCtorEq, Nat.reduceAdd, Nat.reduceEqDiff, Nat.reduceLT, Nat.reduceLeDiff, Nat.reduceSub, Nat.reduceMul, Nat.reduceBEq, Int.reduceToNat, Int.reduceLE, Int.reduceLT, Int.reducePow]
                case en5 => simp only [go_sem, kn14, rightF, numF, fitsF, progFilesF, unf_fdrow, Try.ntmps14, reduceIte, reduceCtorEq, Nat.reduceAdd, Nat.reduceEqDiff, Nat.reduceLT, Nat.reduceLeDiff, Nat.reduceSub, Nat.reduceMul, Nat.reduceBEq, Int.reduceToNat, Int.reduceLE, Int.reduceLT, Int.reducePow]
                case ek5 => simp only [go_sem, kn14, rightF, numF, fitsF, progFilesF, unf_fdrow, Try.ntmps14, reduceIte, reduceCtorEq, Nat.reduceAdd, Nat.reduceEqDiff, Nat.reduceLT, Nat.reduceLeDiff, Nat.reduceSub, Nat.reduceMul, Nat.reduceBEq, Int.reduceToNat, Int.reduceLE, Int.reduceLT, Int.reducePow]
                case ev5 =>
                  rw [decV, if_neg (by rw [hE]; decide), hE]; rfl
              case f25 =>
                intro hb6
                have hln : ¬ (L.length : Int) < dN L := by simp only [decide_eq_false_iff_not] at hb6; omega
                refine AWp.skip ?_
                refine AWp.seq ?_
                refine AWp.reg (S1 := ?S27) (ob := ?o27) (S' := ?K27) tab_ok (knowL_ok kn14_ok) mixed [2, 6, 7, 8] ?r27 ?h27 ?k27 ?w27
                case r27 => simp only [go_sem, kn14, rightF, numF, fitsF, progFilesF, unf_fdrow, Try.ntmps14, reduceIte, reduceCtorEq, Nat.reduceAdd, Nat.reduceEqDiff, Nat.reduceLT, Nat.reduceLeDiff, Nat.reduceSub, Nat.reduceMul, Nat.reduceBEq, Int.reduceToNat, Int.reduceLE, Int.reduceLT, Int.reducePow]; rfl
                case h27 => first | exact True.intro | omega | (simp only [go_sem, kn14, rightF, numF, fitsF, progFilesF, unf_fdrow, Try.ntmps14, reduceIte, reduceCtorEq, Nat.reduceAdd, Nat.reduceEqDiff, Nat.reduceLT, Nat.reduceLeDiff, Nat.reduceSub, Nat.reduceMul, Nat.reduceBEq, Int.reduceToNat, Int.reduceLE, Int.reduceLT, Int.reducePow]; done) | (simp only [go_sem, kn14, rightF, numF, fitsF, progFilesF, unf_fdrow, Try.ntmps14, reduceIte, reduceCtorEq, Nat.reduceAdd, Nat.reduceEqDiff, Nat.reduceLT, Nat.reduceLeDiff, Nat.reduceSub, Nat.reduceMul, Nat.reduceBEq, Int.reduceToNat, Int.reduceLE, Int.reduceLT, Int.reducePow]; omega)
                case k27 => simp only [go_sem, kn14, rightF, numF, fitsF, progFilesF, unf_fdrow, Try.ntmps14, reduceIte, reduceCtorEq, Nat.reduceAdd, Nat.reduceEqDiff, Nat.reduceLT, Nat.reduceLeDiff, Nat.reduceSub, Nat.reduceMul, Nat.reduceBEq, Int.reduceToNat, Int.reduceLE, Int.reduceLT, Int.reducePow]; rfl
                refine AWp.seq ?_
                refine AWp.seq ?_
                refine AWp.reg (S1 := ?S28) (ob := ?o28) (S' := ?K28) tab_ok (knowL_ok kn14_ok) mixed [2, 6, 7, 11] ?r28 ?h28 ?k28 ?w28
                case r28 => simp only [go_sem, kn14, rightF, numF, fitsF, progFilesF, unf_fdrow, Try.ntmps14, reduceIte, reduceCtorEq, Nat.reduceAdd, Nat.reduceEqDiff, Nat.reduceLT, Nat.reduceLeDiff, Nat.reduceSub, Nat.reduceMul, Nat.reduceBEq, Int.reduceToNat, Int.reduceLE, Int.reduceLT, Int.reducePow]; rfl
                case h28 => first | exact True.intro | omega | (simp only [go_sem, kn14, rightF, numF, fitsF, progFilesF, unf_fdrow, Try.ntmps14, reduceIte, reduceCtorEq, Nat.reduceAdd, Nat.reduceEqDiff, Nat.reduceLT, Nat.reduceLeDiff, Nat.reduceSub, Nat.reduceMul, Nat.reduceBEq, Int.reduceToNat, Int.reduceLE, Int.reduceLT, Int.reducePow]; done) | (simp only [go_sem, kn14, rightF, numF, fitsF, progFilesF, unf_fdrow, Try.ntmps14, reduceIte, reduceCtorEq, Nat.reduceAdd, Nat.reduceEqDiff, Nat.reduceLT, Nat.reduceLeDiff, Nat.reduceSub, Nat.reduceMul, Nat.reduceBEq, Int.reduceToNat, Int.reduceLE, Int.reduceLT, Int.reducePow]; omega)
                case k28 => simp only [go_sem, kn14, rightF, numF, fitsF, progFilesF, unf_fdrow, Try.ntmps14, reduceIte, reduceCtorEq, Nat.reduceAdd, Nat.reduceEqDiff, Nat.reduceLT, Nat.reduceLeDiff, Nat.reduceSub, Nat.reduceMul, Nat.reduceBEq, Int.reduceToNat, Int.reduceLE, Int.reduceLT, Int.reducePow]; rfl
                refine AWp.seq ?_
                refine AWp.reg (S1 := ?S29) (ob := ?o29) (S' := ?K29) tab_ok (knowL_ok kn14_ok) mixed [2, 6, 7, 90] ?r29 ?h29 ?k29 ?w29
                case r29 => simp only [go_sem, kn14, rightF, numF, fitsF, progFilesF, unf_fdrow, Try.ntmps14, reduceIte, reduceCtorEq, Nat.reduceAdd, Nat.reduceEqDiff, Nat.reduceLT, Nat.reduceLeDiff, Nat.reduceSub, Nat.reduceMul, Nat.reduceBEq, Int.reduceToNat, Int.reduceLE, Int.reduceLT, Int.reducePow]; rfl
                case h29 =>
                  exact fun _ => filesEnd_ok (by omega)
                case k29 => simp only [go_sem, kn14, rightF, numF, fitsF, progFilesF, unf_fdrow, Try.ntmps14, reduceIte, reduceCtorEq, Nat.reduceAdd, Nat.reduceEqDiff, Nat.reduceLT, Nat.reduceLeDiff, Nat.reduceSub, Nat.reduceMul, Nat.reduceBEq, Int.reduceToNat, Int.reduceLE, Int.reduceLT, Int.reducePow]; rfl
                refine AWp.cond (b := ?b30) ?c30 ?t30 ?f30
                case c30 => simp only [go_sem, kn14, rightF, numF, fitsF, progFilesF, unf_fdrow, Try.ntmps14, reduceIte, reduceCtorEq, Nat.reduceAdd, Nat.reduceEqDiff, Nat.reduceLT, Nat.reduceLeDiff, Nat.reduceSub, Nat.reduceMul, Nat.reduceBEq, Int.reduceToNat, Int.reduceLE, Int.reduceLT, Int.reducePow]; rfl
                case t30 =>
                  intro hb7
                  have hE : dErr L = 201 := by
                    rw [dErr, if_neg hn0, if_neg h12, if_neg (by rw [hh]; decide), if_pos ht, if_neg hln, if_neg]
                    intro h
                    simp only [Bool.and_eq_true] at h
                    unfold dEnd at h
                    rw [h.1, h.2] at hb7
                    cases hb7
                  refine AWp.seq ?_
                  refine AWp.reg (S1 := ?S31) (ob := ?o31) (S' := ?K31) tab_ok (knowL_ok kn14_ok) mixed [2, 3, 4] ?r31 ?h31 ?k31 ?w31
                  case r31 => simp only [go_sem, kn14, rightF, numF, fitsF, progFilesF, unf_fdrow, Try.ntmps14, reduceIte, reduceCtorEq, Nat.reduceAdd, Nat.reduceEqDiff, Nat.reduceLT, Nat.reduceLeDiff, Nat.reduceSub, Nat.reduceMul, Nat.reduceBEq, Int.reduceToNat, Int.reduceLE, Int.reduceLT, Int.reducePow]; rfl
                  case h31 => first | exact True.intro | omega | (simp only [go_sem, kn14, rightF, numF, fitsF, progFilesF, unf_fdrow, Try.ntmps14, reduceIte, reduceCtorEq, Nat.reduceAdd, Nat.reduceEqDiff, Nat.reduceLT, Nat.reduceLeDiff, Nat.reduceSub, Nat.reduceMul, Nat.reduceBEq, Int.reduceToNat, Int.reduceLE, Int.reduceLT, Int.reducePow]; done) | (simp only [go_sem, kn14, rightF, numF, fitsF, progFilesF, unf_fdrow, Try.ntmps14, reduceIte, reduceCtorEq, Nat.reduceAdd, Nat.reduceEqDiff, Nat.reduceLT, Nat.reduceLeDiff, Nat.reduceSub, Nat.reduceMul, Nat.reduceBEq, Int.reduceToNat, Int.reduceLE, Int.reduceLT, Int.reducePow]; omega)
                  case k31 => simp only [go_sem, kn14, rightF, numF, fitsF, progFilesF, unf_fdrow, Try.ntmps14, reduceIte, reduceCtorEq, Nat.reduceAdd, Nat.reduceEqDiff, Nat.reduceLT, Nat.reduceLeDiff, Nat.reduceSub, Nat.reduceMul, Nat.reduceBEq, Int.reduceToNat, Int.reduceLE, Int.reduceLT, Int.reducePow]; rfl
                  refine AWp.ret ?_
                  refine ends_p (vs := ?vs6) (ob := ?ro6) (vs' := ?ws6) (ks := ?ks6) (ob2 := ?rp6) tab_ok (by simp) ?er6 ?eo6 ?ef6 ?eg6 ?en6 ?ek6 ?ev6
                  case er6 => simp only [go_sem, kn14, rightF, numF, fitsF, progFilesF, unf_fdrow, Try.ntmps14, reduceIte, reduceCtorEq, Nat.reduceAdd, Nat.reduceEqDiff, Nat.reduceLT, Nat.reduceLeDiff, Nat.reduceSub, Nat.reduceMul, Nat.reduceBEq, Int.reduceToNat, Int.reduceLE, Int.reduceLT, Int.reducePow, Try.results14]; rfl
                  case eo6 => first | exact True.intro | simp only [go_sem, kn14, rightF, numF, fitsF, progFilesF, unf_fdrow, Try.ntmps14, reduceIte, reduceCtorEq, Nat.reduceAdd, Nat.reduceEqDiff, Nat.reduceLT, Nat.reduceLeDiff, Nat.reduceSub, Nat.reduceMul, Nat.reduceBEq, Int.reduceToNat, Int.reduceLE, Int.reduceLT, Int.reducePow]
                  case ef6 => simp only [go_sem, kn14, rightF, numF, fitsF, progFilesF, unf_fdrow, Try.ntmps14, reduceIte, reduceCtorEq, Nat.reduceAdd, Nat.reduceEqDiff, Nat.reduceLT, Nat.reduceLeDiff, Nat.reduceSub, Nat.reduceMul, Nat.reduceBEq, Int.reduceToNat, Int.reduceLE, Int.reduceLT, Int.reducePow]; rfl
                  case eg6 => first | exact True.intro | simp only [go_sem, kn14, rightF, numF, fitsF, progFilesF, unf_fdrow, Try.ntmps14, reduceIte, reduceCtorEq, Nat.reduceAdd, Nat.reduceEqDiff, Nat.reduceLT, Nat.reduceLeDiff, Nat.reduceSub, Nat.reduceMul, Nat.reduceBEq, Int.reduceToNat, Int.reduceLE, Int.reduceLT, Int.reducePow]
                  case en6 => simp only [go_sem, kn14, rightF, numF, fitsF, progFilesF, unf_fdrow, Try.ntmps14, reduceIte, reduceCtorEq, Nat.reduceAdd, Nat.reduceEqDiff, Nat.reduceLT, Nat.reduceLeDiff, Nat.reduceSub, Nat.reduceMul, Nat.reduceBEq, Int.reduceToNat, Int.reduceLE, Int.reduceLT, Int.reducePow]
                  case ek6 => simp only [go_sem, kn14, rightF, numF, fitsF, progFilesF, unf_fdrow, Try.ntmps14, reduceIte, reduceCtorEq, Nat.reduceAdd, Nat.reduceEqDiff, Nat.reduceLT, Nat.reduceLeDiff, Nat.reduceSub, Nat.reduceMul, Nat.reduceBEq, Int.reduceToNat, Int.reduceLE, Int.reduceLT, Int.reducePow]
                  case ev6 =>
                    rw [decV, if_neg (by rw [hE]; decide), hE]; rfl
                case f30 =>
                  intro hb7
                  have hE : dErr L = 0 := by
                    rw [dErr, if_neg hn0, if_neg h12, if_neg (by rw [hh]; decide), if_pos ht, if_neg hln, if_pos]
                    simp only [Bool.or_eq_false_iff, Bool.not_eq_false'] at hb7
                    unfold dEnd
                    rw [hb7.1, hb7.2]; rfl
                  refine AWp.skip ?_
                  refine AWp.seq ?_
                  refine AWp.reg (S1 := ?S32) (ob := ?o32) (S' := ?K32) tab_ok (knowL_ok kn14_ok) mixed [2, 3, 4] ?r32 ?h32 ?k32 ?w32
                  case r32 => simp only [go_sem, kn14, rightF, numF, fitsF, progFilesF, unf_fdrow, Try.ntmps14, reduceIte, reduceCtorEq, Nat.reduceAdd, Nat.reduceEqDiff, Nat.reduceLT, Nat.reduceLeDiff, Nat.reduceSub, Nat.reduceMul, Nat.reduceBEq, Int.reduceToNat, Int.reduceLE, Int.reduceLT, Int.reducePow]; rfl
                  case h32 => first | exact True.intro | omega | (simp only [go_sem, kn14, rightF, numF, fitsF, progFilesF, unf_fdrow, Try.ntmps14, reduceIte, reduceCtorEq, Nat.reduceAdd, Nat.reduceEqDiff, Nat.reduceLT, Nat.reduceLeDiff, Nat.reduceSub, Nat.reduceMul, Nat.reduceBEq, Int.reduceToNat, Int.reduceLE, Int.reduceLT, Int.reducePow]; done) | (simp only [go_sem, kn14, rightF, numF, fitsF, progFilesF, unf_fdrow, Try.ntmps14, reduceIte, reduceCtorEq, Nat.reduceAdd, Nat.reduceEqDiff, Nat.reduceLT, Nat.reduceLeDiff, Nat.reduceSub, Nat.reduceMul, Nat.reduceBEq, Int.reduceToNat, Int.reduceLE, Int.reduceLT, Int.reducePow]; omega)
                  case k32 => simp only [go_sem, kn14, rightF, numF, fitsF, progFilesF, unf_fdrow, Try.ntmps14, reduceIte, reduceCtorEq, Nat.reduceAdd, Nat.reduceEqDiff, Nat.reduceLT, Nat.reduceLeDiff, Nat.reduceSub, Nat.reduceMul, Nat.reduceBEq, Int.reduceToNat, Int.reduceLE, Int.reduceLT, Int.reducePow]; rfl
                  refine AWp.ret ?_
                  refine ends_p (vs := ?vs7) (ob := ?ro7) (vs' := ?ws7) (ks := ?ks7) (ob2 := ?rp7) tab_ok (by simp) ?er7 ?eo7 ?ef7 ?eg7 ?en7 ?ek7 ?ev7
                  case er7 => simp only [go_sem, kn14, rightF, numF, fitsF, progFilesF, unf_fdrow, Try.ntmps14, reduceIte, reduceCtorEq, Nat.reduceAdd, Nat.reduceEqDiff, Nat.reduceLT, Nat.reduceLeDiff, Nat.reduceSub, Nat.reduceMul, Nat.reduceBEq, Int.reduceToNat, Int.reduceLE, Int.reduceLT, Int.reducePow, Try.results14]; rfl
                  case eo7 => first | exact True.intro | simp only [go_sem, kn14, rightF, numF, fitsF, progFilesF, unf_fdrow, Try.ntmps14, reduceIte, reduceCtorEq, Nat.reduceAdd, Nat.reduceEqDiff, Nat.reduceLT, Nat.reduceLeDiff, Nat.reduceSub, Nat.reduceMul, Nat.reduceBEq, Int.reduceToNat, Int.reduceLE, Int.reduceLT, Int.reducePow]
                  case ef7 => simp only [go_sem, kn14, rightF, numF, fitsF, progFilesF, unf_fdrow, Try.ntmps14, reduceIte, reduceCtorEq, Nat.reduceAdd, Nat.reduceEqDiff, Nat.reduceLT, Nat.reduceLeDiff, Nat.reduceSub, Nat.reduceMul, Nat.reduceBEq, Int.reduceToNat, Int.reduceLE, Int.reduceLT, Int.reducePow]; rfl
                  case eg7 => first | exact True.intro | simp only [go_sem, kn14, rightF, numF, fitsF, progFilesF, unf_fdrow, Try.ntmps14, reduceIte, reduceCtorEq, Nat.reduceAdd, Nat.reduceEqDiff, Nat.reduceLT, Nat.reduceLeDiff, Nat.reduceSub, Nat.reduceMul, Nat.reduceBEq, Int.reduceToNat, Int.reduceLE, Int.reduceLT, Int.reducePow]
                  case en7 => simp only [go_sem, kn14, rightF, numF, fitsF, progFilesF, unf_fdrow, Try.ntmps14, reduceIte, reduceCtorEq, Nat.reduceAdd, Nat.reduceEqDiff, Nat.reduceLT, Nat.reduceLeDiff, Nat.reduceSub, Nat.reduceMul, Nat.reduceBEq, Int.reduceToNat, Int.reduceLE, Int.reduceLT, Int.reducePow]
                  case ek7 => simp only [go_sem, kn14, rightF, numF, fitsF, progFilesF, unf_fdrow, Try.ntmps14, reduceIte, reduceCtorEq, Nat.reduceAdd, Nat.reduceEqDiff, Nat.reduceLT, Nat.reduceLeDiff, Nat.reduceSub, Nat.reduceMul, Nat.reduceBEq, Int.reduceToNat, Int.reduceLE, Int.reduceLT, Int.reducePow]
                  case ev7 =>
                    rw [decV, if_pos hE]; rfl
  · cases hq

end Go.Proofs.Hg

/- The reference's reading of files and the program's are one. -/
set_option linter.unusedSimpArgs false
set_option linter.unusedVariables false
namespace Go.Proofs.Hg
open Go.RowKit

theorem nxt_t {n : Int} {t : List UInt8} (h : n ≤ (t.length : Int)) : nxt n (true, t) = (true, t.drop n.toNat) := by simp [nxt, takeOk, restL, h]
theorem got_t {n : Int} {t : List UInt8} (h : n ≤ (t.length : Int)) : got n (true, t) = t.take n.toNat := by simp [got, takeL, takeOk, h]
theorem nxt_f {n : Int} {t : List UInt8} (h : ¬ n ≤ (t.length : Int)) : (nxt n (true, t)).1 = false := by simp [nxt, takeOk]; omega

theorem step_all {t : List UInt8} (h0 : 0 < t.length) : (13 + rfN t ≤ t.length ∧ 13 + (rfN t : Int) + rfSz t ≤ t.length ∧ p5 (true, t) = (true, t.drop (13 + rfN t + (rfSz t).toNat)) ∧ pFile (true, t) = rfFile t) ∨ (¬ (13 + rfN t ≤ t.length ∧ 13 + (rfN t : Int) + rfSz t ≤ t.length) ∧ (p5 (true, t)).1 = false) := by
  have e1 : nxt 1 (true, t) = (true, t.drop 1) := nxt_t (by omega)
  have eg : g1 (true, t) = (rfN t : Int) := by
    unfold g1 rfN
    rw [got_t (by omega)]
    show ((((t.take 1).getD 0 0).toNat : Nat) : Int) = _
    rw [getD_takeL (by omega)]
  have hsz := rfSz_rng t
  have l1 : (t.drop 1).length = t.length - 1 := List.length_drop ..
  by_cases c1 : (rfN t : Int) ≤ ((t.drop 1).length : Int)
  · have e2 : p2 (true, t) = (true, t.drop (1 + rfN t)) := by
      unfold p2
      rw [e1, eg, nxt_t c1, List.drop_drop, Int.toNat_natCast]
    have l2 : (t.drop (1 + rfN t)).length = t.length - (1 + rfN t) := List.length_drop ..
    by_cases c2 : (8 : Int) ≤ ((t.drop (1 + rfN t)).length : Int)
    · have e3 : p3 (true, t) = (true, t.drop (9 + rfN t)) := by
        unfold p3
        rw [e2, nxt_t c2, List.drop_drop]
        show (true, t.drop (1 + rfN t + 8)) = _
        rw [show 1 + rfN t + 8 = 9 + rfN t by omega]
      have l3 : (t.drop (9 + rfN t)).length = t.length - (9 + rfN t) := List.length_drop ..
      by_cases c3 : (4 : Int) ≤ ((t.drop (9 + rfN t)).length : Int)
      · have e4 : p4 (true, t) = (true, t.drop (13 + rfN t)) := by
          unfold p4
          rw [e3, nxt_t c3, List.drop_drop]
          show (true, t.drop (9 + rfN t + 4)) = _
          rw [show 9 + rfN t + 4 = 13 + rfN t by omega]
        have es : pSz (true, t) = rfSz t := by
          unfold pSz rfSz
          rw [e3, got_t c3]
          rfl
        have l4 : (t.drop (13 + rfN t)).length = t.length - (13 + rfN t) := List.length_drop ..
        by_cases c4 : rfSz t ≤ ((t.drop (13 + rfN t)).length : Int)
        · refine .inl ⟨by omega, by omega, ?_, ?_⟩
          · unfold p5
            rw [es, e4, nxt_t c4, List.drop_drop]
          · unfold pFile pPath pVer pCon rfFile
            rw [e1, eg, got_t c1, e2, got_t c2, es, e4, got_t c4, Int.toNat_natCast]
            rfl
        · refine .inr ⟨fun h => by omega, ?_⟩
          unfold p5
          rw [es, e4]
          exact nxt_f c4
      · refine .inr ⟨fun h => by omega, ?_⟩
        have h4 : (p4 (true, t)).1 = false := by unfold p4; rw [e3]; exact nxt_f c3
        exact nxt_off h4
    · refine .inr ⟨fun h => by omega, ?_⟩
      have h3 : (p3 (true, t)).1 = false := by unfold p3; rw [e2]; exact nxt_f c2
      exact nxt_off (nxt_off h3)
  · refine .inr ⟨fun h => by omega, ?_⟩
    have h2 : (p2 (true, t)).1 = false := by unfold p2; rw [e1, eg]; exact nxt_f c1
    exact nxt_off (nxt_off (nxt_off h2))

theorem filesP_mem : ∀ (n : Nat) (p : RS) (fs : List FileL) (f : FileL), f ∈ fs → f ∈ (filesP n p fs).2
  | 0, p, fs, f, h => h
  | n + 1, p, fs, f, h => by
    unfold filesP
    split
    · exact filesP_mem n _ _ _ (List.mem_append_left _ h)
    · exact h
theorem filesP_off (n : Nat) (p : RS) (fs : List FileL) (h : p.1 = false) : filesP n p fs = (p, fs) := by
  cases n with
  | zero => rfl
  | succ n => simp [filesP, h]

theorem rf_main : ∀ (n : Nat) (t : List UInt8) (fs : List FileL), t.length ≤ n →
    (∀ l, refF n t fs = some l → (filesP n (true, t) fs).1.1 = true ∧ (filesP n (true, t) fs).2 = l) ∧ (refF n t fs = none → (filesP n (true, t) fs).1.1 = false ∨ ∃ f ∈ (filesP n (true, t) fs).2, 32 < f.1.length)
  | 0, t, fs, h => ⟨fun l hl => (by injection hl with hl; exact ⟨rfl, hl⟩), fun hl => (by cases hl)⟩
  | n + 1, t, fs, h => by
    by_cases h0 : t.length = 0
    · have e : filesP (n + 1) (true, t) fs = ((true, t), fs) := by simp [filesP, h0]
      rw [e, refF, if_pos h0]
      exact ⟨fun l hl => (by injection hl with hl; exact ⟨rfl, hl⟩), fun hl => (by cases hl)⟩
    · have e : filesP (n + 1) (true, t) fs = filesP n (p5 (true, t)) (fs ++ [pFile (true, t)]) := by
        rw [filesP, if_pos ⟨rfl, by show 0 < t.length; omega⟩]
      rw [e, refF, if_neg h0]
      rcases step_all (t := t) (by omega) with ⟨a1, a2, a3, a4⟩ | ⟨a1, a2⟩
      · rw [a3, a4]
        by_cases hb : (rfBad1 t || rfBad2 t) = true
        · rw [if_pos hb]
          refine ⟨fun l hl => (by cases hl), fun _ => Or.inr ⟨rfFile t, filesP_mem _ _ _ _ (by simp), ?_⟩⟩
          simp only [rfBad1, rfBad2, Bool.or_eq_true, decide_eq_true_eq] at hb
          show 32 < ((t.drop 1).take (rfN t)).length
          rw [List.length_take, List.length_drop]
          omega
        · rw [if_neg hb]
          exact rf_main n _ _ (by rw [List.length_drop]; omega)
      · rw [filesP_off _ _ _ a2]
        have hb : (rfBad1 t || rfBad2 t) = true := by
          simp only [rfBad1, rfBad2, Bool.or_eq_true, decide_eq_true_eq]
          omega
        rw [if_pos hb]
        exact ⟨fun l hl => (by cases hl), fun _ => .inl a2⟩

def rfK (s : List UInt8) : Bool := (rfEnd s).isSome
def rfL (s : List UInt8) : List FileL := (rfEnd s).getD []
theorem rfV_tup (s : List UInt8) : rfV s = .tup [dv (.slice none 3 (fdrow (rfL s))), dv (.bool (rfK s))] := by
  unfold rfV rfL rfK
  cases rfEnd s <;> rfl
theorem long_no {m : Int} {l : List FileL} (h : ∃ f ∈ l, 32 < f.1.length) : rightL m l = false := by
  obtain ⟨f, hf, hl⟩ := h
  cases hr : rightL m l with
  | false => rfl
  | true =>
    have := ((rightL_in hr).2.2.2 f hf).1
    omega
theorem rf_same (s : List UInt8) (m : Int) : (rfK s && rightL m (rfL s)) = ((filesEnd s).1.1 && rightL m (filesEnd s).2) ∧ ((rfK s && rightL m (rfL s)) = true → rfL s = (filesEnd s).2) := by
  have h := rf_main s.length s [] (Nat.le_refl _)
  have e1 : refF s.length s [] = rfEnd s := rfl
  have e2 : filesP s.length (true, s) [] = filesEnd s := rfl
  rw [e1, e2] at h
  unfold rfK rfL
  cases hE : rfEnd s with
  | some l =>
    obtain ⟨q1, q2⟩ := h.1 l hE
    rw [q1, q2]
    exact ⟨rfl, fun _ => rfl⟩
  | none =>
    refine ⟨?_, fun hx => (by cases hx)⟩
    rcases h.2 hE with q | q
    · rw [q]; rfl
    · rw [long_no q, Bool.and_false]; rfl

/-- The heads. -/
def rHead (L : List (List UInt8)) (i : Nat) : Bool := !rbB (L.getD i []) i (dN L) && rhB (dF L) (L.getD i []) i (dN L)
theorem head_eq {L : List (List UInt8)} {i : Nat} (h12 : ¬ (dF L).length < 12) (hi : (i : Int) < dN L) : rHead L i = (dFit L i && !dHead L) := by
  have n1 : numI (((L.getD i []).drop 8).take 2) = (numU (((L.getD i []).drop 8).take 2) : Int) := by
    have h1 := numU_max (s := ((L.getD i []).drop 8).take 2) (by simp; omega)
    have h2 := numU_lt (((L.getD i []).drop 8).take 2)
    have h3 : 256 ^ (((L.getD i []).drop 8).take 2).length ≤ 256 ^ 2 := Nat.pow_le_pow_right (by omega) (by simp; omega)
    exact IntWalk.i64_in _ ⟨by omega, by omega⟩
  have n2 : numI (((L.getD i []).drop 10).take 2) = (numU (((L.getD i []).drop 10).take 2) : Int) := by
    have h2 := numU_lt (((L.getD i []).drop 10).take 2)
    have h3 : 256 ^ (((L.getD i []).drop 10).take 2).length ≤ 256 ^ 2 := Nat.pow_le_pow_right (by omega) (by simp; omega)
    exact IntWalk.i64_in _ ⟨by omega, by omega⟩
  rw [Bool.eq_iff_iff]
  simp only [rHead, dFit, dHead, rbB, rhB, hdB, szB, n1, n2, Bool.and_eq_true, Bool.or_eq_true, Bool.not_eq_true', Bool.or_eq_false_iff, Bool.and_eq_false_iff, decide_eq_true_eq, decide_eq_false_iff_not, Bool.not_eq_false']
  by_cases he : (L.getD i []).take 8 = (dF L).take 8
  · have hm : numI ((dF L).take 8) = dM L := rfl
    rw [he, hm]
    simp only [not_true_eq_false, not_false_eq_true, true_and, and_true, false_or, or_false]
    omega
  · simp only [he, false_and, and_false]
end Go.Proofs.Hg
