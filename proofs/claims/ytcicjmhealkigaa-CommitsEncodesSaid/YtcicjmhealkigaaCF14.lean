import Derived.Test.YtcicjmhealkigaaCF10
set_option linter.unusedSimpArgs false
set_option linter.unusedVariables false
set_option maxHeartbeats 4000000
namespace Go.Proofs.Hg
open Go.RowKit
set_option maxRecDepth 100000
abbrev BigL := List UInt8 × Int × List UInt8 × Int
def bigD (b : BigL) : List D := [.str b.1, .int .i64 b.2.1, .str b.2.2.1, .int .i64 b.2.2.2]
def bgrow (l : List BigL) : List (List D) := l.map bigD
def unbg1 : List D → BigL
  | [.str p, .int _ v, .str s, .int _ t] => (p, v, s, t)
  | _ => ([], 0, [], 0)
def unbg (es : List (List D)) : List BigL := es.map unbg1
@[simp] theorem unbg_bgrow (l : List BigL) : unbg (bgrow l) = l := by
  simp only [unbg, bgrow, List.map_map]
  conv => rhs; rw [← List.map_id l]
  exact List.map_congr_left fun _ _ => rfl
theorem bgrow_len (l : List BigL) : (bgrow l).length = l.length := by simp [bgrow]
def b0L : BigL := ([], 0, [], 0)
theorem bgrow_get (l : List BigL) (i : Nat) : (bgrow l).getD i [.str [], .int .i64 0, .str [], .int .i64 0] = bigD (l.getD i b0L) := by
  simp only [bgrow, List.getD_eq_getElem?_getD, List.getElem?_map]
  cases l[i]? <;> rfl
def grow (s : List UInt8) : Nat → List UInt8 → List UInt8
  | 0, t => t
  | n + 1, t => if t.length < 20000 then grow s n (t ++ s) else t
theorem grow_stop {s t : List UInt8} (h : ¬ t.length < 20000) : ∀ n, grow s n t = t
  | 0 => rfl
  | n + 1 => by unfold grow; rw [if_neg h]
theorem grow_step {s t : List UInt8} {T : Int} {j : Nat} (h : t.length < 20000) (hj : (j : Int) < T) : grow s (T.toNat - j) t = grow s (T.toNat - (j + 1)) (t ++ s) := by
  have e : T.toNat - j = (T.toNat - (j + 1)) + 1 := by omega
  rw [e]
  show (if t.length < 20000 then _ else _) = _
  rw [if_pos h]
theorem grow_len (s : List UInt8) (hs : s.length ≤ 60) : ∀ (n : Nat) (t : List UInt8), t.length ≤ 20060 → (grow s n t).length ≤ 20060
  | 0, t, h => h
  | n + 1, t, h => by
    unfold grow
    split
    · exact grow_len s hs n _ (by rw [List.length_append]; omega)
    · exact h
def bigF (b : BigL) : FileL := (b.1, b.2.1, grow b.2.2.1 b.2.2.2.toNat [])
def bigs (l : List BigL) : List FileL := l.map bigF
def badB (l : List BigL) (i : Nat) : Bool := decide ((i : Int) = 8) || decide (60 < ((l.getD i b0L).2.2.1.length : Int)) || decide (100 < ((l.getD i b0L).1.length : Int)) || decide ((l.getD i b0L).2.2.2 < 0) || decide (2000 < (l.getD i b0L).2.2.2)
def bigOk (l : List BigL) : Bool := (List.range l.length).all fun i => !badB l i
def bigV (l : List BigL) : AVal := if bigOk l then .tup [dv (.slice none 3 (fdrow (bigs l))), dv (.bool true)] else .tup [dv (.slice (some true) 0 []), dv (.bool false)]
theorem bigV_ids (l : List BigL) : (bigV l).ids = [] ∧ ∀ b x, bigV l ≠ .opt b x := by
  unfold bigV
  split <;> simp [AVal.ids, AV.ids, Sc.ids]
theorem bigs_len (l : List BigL) : (bigs l).length = l.length := by simp [bigs]
theorem bigs_succ {l : List BigL} {i : Nat} (h : i < l.length) : bigs (l.take (i + 1)) = bigs (l.take i) ++ [bigF (l.getD i b0L)] := by
  rw [take_one (by omega) b0L, bigs, List.map_append]; rfl
theorem good_le {l : List BigL} {i : Nat} (h : (List.range i).all (fun j => !badB l j) = true) : i ≤ 8 := by
  by_cases h8 : i ≤ 8
  · exact h8
  · have := List.all_eq_true.1 h 8 (by simp; omega)
    simp [badB] at this
def filesF : List AV → Option (AVal × Prop)
  | [.s (.d (.slice z e es))] => some (bigV (unbg es), e = 4 ∧ es = bgrow (unbg es))
  | _ => none
theorem filesF_ok : ContOk Try.prog 8 (pureK filesF) := by
  refine pure_ok (nargs := 1) Try.func8 rfl (by kernel_rfl) (Nat.le_of_ble_eq_true (by kernel_rfl)) ?_
  intro args q hq hob
  unfold filesF at hq
  split at hq
  · rename_i z e es
    injection hq with hq
    subst hq
    obtain ⟨h1, h2⟩ : e = 4 ∧ es = bgrow (unbg es) := hob
    generalize unbg es = bl at *
    subst h1 h2
    refine ⟨rfl, by simp [AV.ids, Sc.ids], (bigV_ids _).1, (bigV_ids _).2, ?_⟩
    refine AWp.seq ?_
    refine AWp.reg (S1 := ?S1) (ob := ?o1) (S' := ?K1) tab_ok (noKnow _) mixed [0] ?r1 ?h1 ?k1 ?w1
    case r1 => simp only [go_sem, bgrow_get, bgrow_len, bigD, Try.ntmps8, reduceIte, reduceCtorEq, Nat.reduceAdd, Nat.reduceEqDiff, Nat.reduceLT, Nat.reduceLeDiff, Nat.reduceSub, Nat.reduceMul, Nat.reduceBEq, Int.reduceToNat, Int.reduceLE, Int.reduceLT, Int.reducePow]; rfl
    case h1 => first | exact True.intro | omega | (simp only [go_sem, bgrow_get, bgrow_len, bigD, Try.ntmps8, reduceIte, reduceCtorEq, Nat.reduceAdd, Nat.reduceEqDiff, Nat.reduceLT, Nat.reduceLeDiff, Nat.reduceSub, Nat.reduceMul, Nat.reduceBEq, Int.reduceToNat, Int.reduceLE, Int.reduceLT, Int.reducePow]; done) | (simp only [go_sem, bgrow_get, bgrow_len, bigD, Try.ntmps8, reduceIte, reduceCtorEq, Nat.reduceAdd, Nat.reduceEqDiff, Nat.reduceLT, Nat.reduceLeDiff, Nat.reduceSub, Nat.reduceMul, Nat.reduceBEq, Int.reduceToNat, Int.reduceLE, Int.reduceLT, Int.reducePow]; omega)
    case k1 => simp only [go_sem, bgrow_get, bgrow_len, bigD, Try.ntmps8, reduceIte, reduceCtorEq, Nat.reduceAdd, Nat.reduceEqDiff, Nat.reduceLT, Nat.reduceLeDiff, Nat.reduceSub, Nat.reduceMul, Nat.reduceBEq, Int.reduceToNat, Int.reduceLE, Int.reduceLT, Int.reducePow]; rfl
    refine AWp.seq ?_
    refine AWp.reg (S1 := ?S2) (ob := ?o2) (S' := ?K2) tab_ok (noKnow _) mixed [0, 4] ?r2 ?h2 ?k2 ?w2
    case r2 => simp only [go_sem, bgrow_get, bgrow_len, bigD, Try.ntmps8, reduceIte, reduceCtorEq, Nat.reduceAdd, Nat.reduceEqDiff, Nat.reduceLT, Nat.reduceLeDiff, Nat.reduceSub, Nat.reduceMul, Nat.reduceBEq, Int.reduceToNat, Int.reduceLE, Int.reduceLT, Int.reducePow]; rfl
    case h2 => first | exact True.intro | omega | (simp only [go_sem, bgrow_get, bgrow_len, bigD, Try.ntmps8, reduceIte, reduceCtorEq, Nat.reduceAdd, Nat.reduceEqDiff, Nat.reduceLT, Nat.reduceLeDiff, Nat.reduceSub, Nat.reduceMul, Nat.reduceBEq, Int.reduceToNat, Int.reduceLE, Int.reduceLT, Int.reducePow]; done) | (simp only [go_sem, bgrow_get, bgrow_len, bigD, Try.ntmps8, reduceIte, reduceCtorEq, Nat.reduceAdd, Nat.reduceEqDiff, Nat.reduceLT, Nat.reduceLeDiff, Nat.reduceSub, Nat.reduceMul, Nat.reduceBEq, Int.reduceToNat, Int.reduceLE, Int.reduceLT, Int.reducePow]; omega)
    case k2 => simp only [go_sem, bgrow_get, bgrow_len, bigD, Try.ntmps8, reduceIte, reduceCtorEq, Nat.reduceAdd, Nat.reduceEqDiff, Nat.reduceLT, Nat.reduceLeDiff, Nat.reduceSub, Nat.reduceMul, Nat.reduceBEq, Int.reduceToNat, Int.reduceLE, Int.reduceLT, Int.reducePow]; rfl
    refine AWp.seq ?_
    refine AWp.seq ?_
    refine AWp.reg (S1 := ?S3) (ob := ?o3) (S' := ?K3) tab_ok (noKnow _) mixed [0, 4, 5] ?r3 ?h3 ?k3 ?w3
    case r3 => simp only [go_sem, bgrow_get, bgrow_len, bigD, Try.ntmps8, reduceIte, reduceCtorEq, Nat.reduceAdd, Nat.reduceEqDiff, Nat.reduceLT, Nat.reduceLeDiff, Nat.reduceSub, Nat.reduceMul, Nat.reduceBEq, Int.reduceToNat, Int.reduceLE, Int.reduceLT, Int.reducePow]; rfl
    case h3 => first | exact True.intro | omega | (simp only [go_sem, bgrow_get, bgrow_len, bigD, Try.ntmps8, reduceIte, reduceCtorEq, Nat.reduceAdd, Nat.reduceEqDiff, Nat.reduceLT, Nat.reduceLeDiff, Nat.reduceSub, Nat.reduceMul, Nat.reduceBEq, Int.reduceToNat, Int.reduceLE, Int.reduceLT, Int.reducePow]; done) | (simp only [go_sem, bgrow_get, bgrow_len, bigD, Try.ntmps8, reduceIte, reduceCtorEq, Nat.reduceAdd, Nat.reduceEqDiff, Nat.reduceLT, Nat.reduceLeDiff, Nat.reduceSub, Nat.reduceMul, Nat.reduceBEq, Int.reduceToNat, Int.reduceLE, Int.reduceLT, Int.reducePow]; omega)
    case k3 => simp only [go_sem, bgrow_get, bgrow_len, bigD, Try.ntmps8, reduceIte, reduceCtorEq, Nat.reduceAdd, Nat.reduceEqDiff, Nat.reduceLT, Nat.reduceLeDiff, Nat.reduceSub, Nat.reduceMul, Nat.reduceBEq, Int.reduceToNat, Int.reduceLE, Int.reduceLT, Int.reducePow]; rfl
    refine AWp.block ?_
    refine AWp.conv (Conv.nilT 4 (e := 3) (ety := 56) rfl rfl) ?_
    refine AWp.conv (Conv.keep [0, 4, 5] [0] (by simp [St.nilT])) ?_
    refine AWp.loop (fun k S => ∃ i : Nat, i ≤ bl.length ∧ k = bl.length - i ∧ (List.range i).all (fun j => !badB bl j) = true ∧ S = ⟨[(0, .one (.s (.d (.slice z 4 (bgrow bl))))), (4, .one (.s (.row 0 3 0 i none))), (5, .one (dv (.int .i64 ((i : Nat) : Int))))], [(0, .row (fdrow (bigs (bl.take i))) 56)], 1⟩) bl.length ?i1 ?n1
    case i1 =>
      exact ⟨0, by omega, rfl, by simp, by simp [St.nilT, St.keep, keepE, lookN, fdrow, bigs]⟩
    case n1 =>
      rintro k S ⟨i, hi0, rfl, ht, rfl⟩
      refine AWp.seq ?_
      refine AWp.seq ?_
      refine AWp.reg (S1 := ?S4) (ob := ?o4) (S' := ?K4) tab_ok (noKnow _) mixed [0, 4, 5, 12] ?r4 ?h4 ?k4 ?w4
      case r4 => simp only [go_sem, bgrow_get, bgrow_len, bigD, Try.ntmps8, reduceIte, reduceCtorEq, Nat.reduceAdd, Nat.reduceEqDiff, Nat.reduceLT, Nat.reduceLeDiff, Nat.reduceSub, Nat.reduceMul, Nat.reduceBEq, Int.reduceToNat, Int.reduceLE, Int.reduceLT, Int.reducePow]; rfl
      case h4 => first | exact True.intro | omega | (simp only [go_sem, bgrow_get, bgrow_len, bigD, Try.ntmps8, reduceIte, reduceCtorEq, Nat.reduceAdd, Nat.reduceEqDiff, Nat.reduceLT, Nat.reduceLeDiff, Nat.reduceSub, Nat.reduceMul, Nat.reduceBEq, Int.reduceToNat, Int.reduceLE, Int.reduceLT, Int.reducePow]; done) | (simp only [go_sem, bgrow_get, bgrow_len, bigD, Try.ntmps8, reduceIte, reduceCtorEq, Nat.reduceAdd, Nat.reduceEqDiff, Nat.reduceLT, Nat.reduceLeDiff, Nat.reduceSub, Nat.reduceMul, Nat.reduceBEq, Int.reduceToNat, Int.reduceLE, Int.reduceLT, Int.reducePow]; omega)
      case k4 => simp only [go_sem, bgrow_get, bgrow_len, bigD, Try.ntmps8, reduceIte, reduceCtorEq, Nat.reduceAdd, Nat.reduceEqDiff, Nat.reduceLT, Nat.reduceLeDiff, Nat.reduceSub, Nat.reduceMul, Nat.reduceBEq, Int.reduceToNat, Int.reduceLE, Int.reduceLT, Int.reducePow]; rfl
      refine AWp.cond (b := ?b5) ?c5 ?t5 ?f5
      case c5 => simp only [go_sem, bgrow_get, bgrow_len, bigD, Try.ntmps8, reduceIte, reduceCtorEq, Nat.reduceAdd, Nat.reduceEqDiff, Nat.reduceLT, Nat.reduceLeDiff, Nat.reduceSub, Nat.reduceMul, Nat.reduceBEq, Int.reduceToNat, Int.reduceLE, Int.reduceLT, Int.reducePow]; rfl
      case t5 =>
        intro hb1
        have hi : i < bl.length := by simp at hb1; omega
        refine AWp.skip ?_
        refine AWp.seq ?_
        refine AWp.block ?_
        refine AWp.seq ?_
        refine AWp.reg (S1 := ?S6) (ob := ?o6) (S' := ?K6) tab_ok (noKnow _) mixed [0, 4, 5, 6] ?r6 ?h6 ?k6 ?w6
        case r6 => simp only [go_sem, bgrow_get, bgrow_len, bigD, Try.ntmps8, reduceIte, reduceCtorEq, Nat.reduceAdd, Nat.reduceEqDiff, Nat.reduceLT, Nat.reduceLeDiff, Nat.reduceSub, Nat.reduceMul, Nat.reduceBEq, Int.reduceToNat, Int.reduceLE, Int.reduceLT, Int.reducePow]; rfl
        case h6 => first | exact True.intro | omega | (simp only [go_sem, bgrow_get, bgrow_len, bigD, Try.ntmps8, reduceIte, reduceCtorEq, Nat.reduceAdd, Nat.reduceEqDiff, Nat.reduceLT, Nat.reduceLeDiff, Nat.reduceSub, Nat.reduceMul, Nat.reduceBEq, Int.reduceToNat, Int.reduceLE, Int.reduceLT, Int.reducePow]; done) | (simp only [go_sem, bgrow_get, bgrow_len, bigD, Try.ntmps8, reduceIte, reduceCtorEq, Nat.reduceAdd, Nat.reduceEqDiff, Nat.reduceLT, Nat.reduceLeDiff, Nat.reduceSub, Nat.reduceMul, Nat.reduceBEq, Int.reduceToNat, Int.reduceLE, Int.reduceLT, Int.reducePow]; omega)
        case k6 => simp only [go_sem, bgrow_get, bgrow_len, bigD, Try.ntmps8, reduceIte, reduceCtorEq, Nat.reduceAdd, Nat.reduceEqDiff, Nat.reduceLT, Nat.reduceLeDiff, Nat.reduceSub, Nat.reduceMul, Nat.reduceBEq, Int.reduceToNat, Int.reduceLE, Int.reduceLT, Int.reducePow]; rfl
        refine AWp.seq ?_
        refine AWp.seq ?_
        refine AWp.reg (S1 := ?S7) (ob := ?o7) (S' := ?K7) tab_ok (noKnow _) mixed [0, 4, 5, 6, 42] ?r7 ?h7 ?k7 ?w7
        case r7 => simp only [go_sem, bgrow_get, bgrow_len, bigD, Try.ntmps8, reduceIte, reduceCtorEq, Nat.reduceAdd, Nat.reduceEqDiff, Nat.reduceLT, Nat.reduceLeDiff, Nat.reduceSub, Nat.reduceMul, Nat.reduceBEq, Int.reduceToNat, Int.reduceLE, Int.reduceLT, Int.reducePow]; rfl
        case h7 => first | exact True.intro | omega | (simp only [go_sem, bgrow_get, bgrow_len, bigD, Try.ntmps8, reduceIte, reduceCtorEq, Nat.reduceAdd, Nat.reduceEqDiff, Nat.reduceLT, Nat.reduceLeDiff, Nat.reduceSub, Nat.reduceMul, Nat.reduceBEq, Int.reduceToNat, Int.reduceLE, Int.reduceLT, Int.reducePow]; done) | (simp only [go_sem, bgrow_get, bgrow_len, bigD, Try.ntmps8, reduceIte, reduceCtorEq, Nat.reduceAdd, Nat.reduceEqDiff, Nat.reduceLT, Nat.reduceLeDiff, Nat.reduceSub, Nat.reduceMul, Nat.reduceBEq, Int.reduceToNat, Int.reduceLE, Int.reduceLT, Int.reducePow]; omega)
        case k7 => simp only [go_sem, bgrow_get, bgrow_len, bigD, Try.ntmps8, reduceIte, reduceCtorEq, Nat.reduceAdd, Nat.reduceEqDiff, Nat.reduceLT, Nat.reduceLeDiff, Nat.reduceSub, Nat.reduceMul, Nat.reduceBEq, Int.reduceToNat, Int.reduceLE, Int.reduceLT, Int.reducePow]; rfl
        refine AWp.cond (b := ?b8) ?c8 ?t8 ?f8
        case c8 => simp only [go_sem, bgrow_get, bgrow_len, bigD, Try.ntmps8, reduceIte, reduceCtorEq, Nat.reduceAdd, Nat.reduceEqDiff, Nat.reduceLT, Nat.reduceLeDiff, Nat.reduceSub, Nat.reduceMul, Nat.reduceBEq, Int.reduceToNat, Int.reduceLE, Int.reduceLT, Int.reducePow]; rfl
        case t8 =>
          intro hb2
          have hbad : badB bl i = true := hb2
          refine AWp.seq ?_
          refine AWp.reg (S1 := ?S9) (ob := ?o9) (S' := ?K9) tab_ok (noKnow _) mixed [2, 3] ?r9 ?h9 ?k9 ?w9
          case r9 => simp only [go_sem, bgrow_get, bgrow_len, bigD, Try.ntmps8, reduceIte, reduceCtorEq, Nat.reduceAdd, Nat.reduceEqDiff, Nat.reduceLT, Nat.reduceLeDiff, Nat.reduceSub, Nat.reduceMul, Nat.reduceBEq, Int.reduceToNat, Int.reduceLE, Int.reduceLT, Int.reducePow]; rfl
          case h9 => first | exact True.intro | omega | (simp only [go_sem, bgrow_get, bgrow_len, bigD, Try.ntmps8, reduceIte, reduceCtorEq, Nat.reduceAdd, Nat.reduceEqDiff, Nat.reduceLT, Nat.reduceLeDiff, Nat.reduceSub, Nat.reduceMul, Nat.reduceBEq, Int.reduceToNat, Int.reduceLE, Int.reduceLT, Int.reducePow]; done) | (simp only [go_sem, bgrow_get, bgrow_len, bigD, Try.ntmps8, reduceIte, reduceCtorEq, Nat.reduceAdd, Nat.reduceEqDiff, Nat.reduceLT, Nat.reduceLeDiff, Nat.reduceSub, Nat.reduceMul, Nat.reduceBEq, Int.reduceToNat, Int.reduceLE, Int.reduceLT, Int.reducePow]; omega)
          case k9 => simp only [go_sem, bgrow_get, bgrow_len, bigD, Try.ntmps8, reduceIte, reduceCtorEq, Nat.reduceAdd, Nat.reduceEqDiff, Nat.reduceLT, Nat.reduceLeDiff, Nat.reduceSub, Nat.reduceMul, Nat.reduceBEq, Int.reduceToNat, Int.reduceLE, Int.reduceLT, Int.reducePow]; rfl
          refine AWp.ret ?_
          refine ends_p (vs := ?vs1) (ob := ?ro1) (vs' := ?ws1) (ks := ?ks1) (ob2 := ?rp1) tab_ok (by simp) ?er1 ?eo1 ?ef1 ?eg1 ?en1 ?ek1 ?ev1
          case er1 => simp only [go_sem, bgrow_get, bgrow_len, bigD, Try.ntmps8, reduceIte, reduceCtorEq, Nat.reduceAdd, Nat.reduceEqDiff, Nat.reduceLT, Nat.reduceLeDiff, Nat.reduceSub, Nat.reduceMul, Nat.reduceBEq, Int.reduceToNat, Int.reduceLE, Int.reduceLT, Int.reducePow, Try.results8]; rfl
          case eo1 => first | exact True.intro | simp only [go_sem, bgrow_get, bgrow_len, bigD, Try.ntmps8, reduceIte, reduceCtorEq, Nat.reduceAdd, Nat.reduceEqDiff, Nat.reduceLT, Nat.reduceLeDiff, Nat.reduceSub, Nat.reduceMul, Nat.reduceBEq, Int.reduceToNat, Int.reduceLE, Int.reduceLT, Int.reducePow]
          case ef1 => simp only [go_sem, bgrow_get, bgrow_len, bigD, Try.ntmps8, reduceIte, reduceCtorEq, Nat.reduceAdd, Nat.reduceEqDiff, Nat.reduceLT, Nat.reduceLeDiff, Nat.reduceSub, Nat.reduceMul, Nat.reduceBEq, Int.reduceToNat, Int.reduceLE, Int.reduceLT, Int.reducePow]; rfl
          case eg1 => first | exact True.intro | simp only [go_sem, bgrow_get, bgrow_len, bigD, Try.ntmps8, reduceIte, reduceCtorEq, Nat.reduceAdd, Nat.reduceEqDiff, Nat.reduceLT, Nat.reduceLeDiff, Nat.reduceSub, Nat.reduceMul, Nat.reduceBEq, Int.reduceToNat, Int.reduceLE, Int.reduceLT, Int.reducePow]
          case en1 => simp only [go_sem, bgrow_get, bgrow_len, bigD, Try.ntmps8, reduceIte, reduceCtorEq, Nat.reduceAdd, Nat.reduceEqDiff, Nat.reduceLT, Nat.reduceLeDiff, Nat.reduceSub, Nat.reduceMul, Nat.reduceBEq, Int.reduceToNat, Int.reduceLE, Int.reduceLT, Int.reducePow]
          case ek1 => simp only [go_sem, bgrow_get, bgrow_len, bigD, Try.ntmps8, reduceIte, reduceCtorEq, Nat.reduceAdd, Nat.reduceEqDiff, Nat.reduceLT, Nat.reduceLeDiff, Nat.reduceSub, Nat.reduceMul, Nat.reduceBEq, Int.reduceToNat, Int.reduceLE, Int.reduceLT, Int.reducePow]
          case ev1 =>
            have : bigOk bl = false := all_no (l := List.range bl.length) (i := i) (p := fun i => !badB bl i) (by simpa using hi) 0 (by simpa [List.getD_eq_getElem?_getD, List.getElem?_range hi] using hbad)
            rw [bigV, this]; rfl
        case f8 =>
          intro hb2
          have hbad : badB bl i = false := hb2
          simp only [Bool.or_eq_false_iff, decide_eq_false_iff_not] at hb2
          refine AWp.skip ?_
          refine AWp.seq ?_
          refine AWp.reg (S1 := ?S10) (ob := ?o10) (S' := ?K10) tab_ok (noKnow _) mixed [0, 4, 5, 6, 7] ?r10 ?h10 ?k10 ?w10
          case r10 => simp only [go_sem, bgrow_get, bgrow_len, bigD, Try.ntmps8, reduceIte, reduceCtorEq, Nat.reduceAdd, Nat.reduceEqDiff, Nat.reduceLT, Nat.reduceLeDiff, Nat.reduceSub, Nat.reduceMul, Nat.reduceBEq, Int.reduceToNat, Int.reduceLE, Int.reduceLT, Int.reducePow]; rfl
          case h10 => first | exact True.intro | omega | (simp only [go_sem, bgrow_get, bgrow_len, bigD, Try.ntmps8, reduceIte, reduceCtorEq, Nat.reduceAdd, Nat.reduceEqDiff, Nat.reduceLT, Nat.reduceLeDiff, Nat.reduceSub, Nat.reduceMul, Nat.reduceBEq, Int.reduceToNat, Int.reduceLE, Int.reduceLT, Int.reducePow]; done) | (simp only [go_sem, bgrow_get, bgrow_len, bigD, Try.ntmps8, reduceIte, reduceCtorEq, Nat.reduceAdd, Nat.reduceEqDiff, Nat.reduceLT, Nat.reduceLeDiff, Nat.reduceSub, Nat.reduceMul, Nat.reduceBEq, Int.reduceToNat, Int.reduceLE, Int.reduceLT, Int.reducePow]; omega)
          case k10 => simp only [go_sem, bgrow_get, bgrow_len, bigD, Try.ntmps8, reduceIte, reduceCtorEq, Nat.reduceAdd, Nat.reduceEqDiff, Nat.reduceLT, Nat.reduceLeDiff, Nat.reduceSub, Nat.reduceMul, Nat.reduceBEq, Int.reduceToNat, Int.reduceLE, Int.reduceLT, Int.reducePow]; rfl
          refine AWp.seq ?_
          refine AWp.seq ?_
          refine AWp.reg (S1 := ?S11) (ob := ?o11) (S' := ?K11) tab_ok (noKnow _) mixed [0, 4, 5, 6, 7, 8] ?r11 ?h11 ?k11 ?w11
          case r11 => simp only [go_sem, bgrow_get, bgrow_len, bigD, Try.ntmps8, reduceIte, reduceCtorEq, Nat.reduceAdd, Nat.reduceEqDiff, Nat.reduceLT, Nat.reduceLeDiff, Nat.reduceSub, Nat.reduceMul, Nat.reduceBEq, Int.reduceToNat, Int.reduceLE, Int.reduceLT, Int.reducePow]; rfl
          case h11 => first | exact True.intro | omega | (simp only [go_sem, bgrow_get, bgrow_len, bigD, Try.ntmps8, reduceIte, reduceCtorEq, Nat.reduceAdd, Nat.reduceEqDiff, Nat.reduceLT, Nat.reduceLeDiff, Nat.reduceSub, Nat.reduceMul, Nat.reduceBEq, Int.reduceToNat, Int.reduceLE, Int.reduceLT, Int.reducePow]; done) | (simp only [go_sem, bgrow_get, bgrow_len, bigD, Try.ntmps8, reduceIte, reduceCtorEq, Nat.reduceAdd, Nat.reduceEqDiff, Nat.reduceLT, Nat.reduceLeDiff, Nat.reduceSub, Nat.reduceMul, Nat.reduceBEq, Int.reduceToNat, Int.reduceLE, Int.reduceLT, Int.reducePow]; omega)
          case k11 => simp only [go_sem, bgrow_get, bgrow_len, bigD, Try.ntmps8, reduceIte, reduceCtorEq, Nat.reduceAdd, Nat.reduceEqDiff, Nat.reduceLT, Nat.reduceLeDiff, Nat.reduceSub, Nat.reduceMul, Nat.reduceBEq, Int.reduceToNat, Int.reduceLE, Int.reduceLT, Int.reducePow]; rfl
          refine AWp.block ?_
          refine AWp.loop (fun k S => ∃ (j : Nat) (s : List UInt8), (j : Int) ≤ 2000 ∧ k = 2000 - j ∧ (j : Int) ≤ (bl.getD i b0L).2.2.2 ∧ grow (bl.getD i b0L).2.2.1 ((bl.getD i b0L).2.2.2.toNat - j) s = grow (bl.getD i b0L).2.2.1 (bl.getD i b0L).2.2.2.toNat [] ∧ s.length ≤ 20060 ∧ S = ⟨[(0, .one (.s (.d (.slice z 4 (bgrow bl))))), (4, .one (.s (.row 0 3 0 i none))), (5, .one (dv (.int .i64 ((i : Nat) : Int)))), (6, .one (.s (.ptr 1 0))), (7, .one (dv (.str s))), (8, .one (dv (.int .i64 ((j : Nat) : Int))))], [(1, .cells [.d (.str (bl.getD i b0L).1), .d (.int .i64 (bl.getD i b0L).2.1), .d (.str (bl.getD i b0L).2.2.1), .d (.int .i64 (bl.getD i b0L).2.2.2)] 54), (0, .row (fdrow (bigs (bl.take i))) 56)], 2⟩) 2000 ?i2 ?n2
          case i2 =>
            exact ⟨0, [], by omega, rfl, by omega, by simp, by simp, rfl⟩
          case n2 =>
            rintro k S ⟨j, s, hj0, rfl, hj1, hg, hs, rfl⟩
            refine AWp.seq ?_
            refine AWp.seq ?_
            refine AWp.reg (S1 := ?S12) (ob := ?o12) (S' := ?K12) tab_ok (noKnow _) mixed [0, 4, 5, 6, 7, 8, 51] ?r12 ?h12 ?k12 ?w12
            case r12 => simp only [go_sem, bgrow_get, bgrow_len, bigD, Try.ntmps8, reduceIte, reduceCtorEq, Nat.reduceAdd, Nat.reduceEqDiff, Nat.reduceLT, Nat.reduceLeDiff, Nat.reduceSub, Nat.reduceMul, Nat.reduceBEq, Int.reduceToNat, Int.reduceLE, Int.reduceLT, Int.reducePow]; rfl
            case h12 => first | exact True.intro | omega | (simp only [go_sem, bgrow_get, bgrow_len, bigD, Try.ntmps8, reduceIte, reduceCtorEq, Nat.reduceAdd, Nat.reduceEqDiff, Nat.reduceLT, Nat.reduceLeDiff, Nat.reduceSub, Nat.reduceMul, Nat.reduceBEq, Int.reduceToNat, Int.reduceLE, Int.reduceLT, Int.reducePow]; done) | (simp only [go_sem, bgrow_get, bgrow_len, bigD, Try.ntmps8, reduceIte, reduceCtorEq, Nat.reduceAdd, Nat.reduceEqDiff, Nat.reduceLT, Nat.reduceLeDiff, Nat.reduceSub, Nat.reduceMul, Nat.reduceBEq, Int.reduceToNat, Int.reduceLE, Int.reduceLT, Int.reducePow]; omega)
            case k12 => simp only [go_sem, bgrow_get, bgrow_len, bigD, Try.ntmps8, reduceIte, reduceCtorEq, Nat.reduceAdd, Nat.reduceEqDiff, Nat.reduceLT, Nat.reduceLeDiff, Nat.reduceSub, Nat.reduceMul, Nat.reduceBEq, Int.reduceToNat, Int.reduceLE, Int.reduceLT, Int.reducePow]; rfl
            refine AWp.cond (b := ?b13) ?c13 ?t13 ?f13
            case c13 => simp only [go_sem, bgrow_get, bgrow_len, bigD, Try.ntmps8, reduceIte, reduceCtorEq, Nat.reduceAdd, Nat.reduceEqDiff, Nat.reduceLT, Nat.reduceLeDiff, Nat.reduceSub, Nat.reduceMul, Nat.reduceBEq, Int.reduceToNat, Int.reduceLE, Int.reduceLT, Int.reducePow]; rfl
            case t13 =>
              intro hb3
              simp only [Bool.and_eq_true, decide_eq_true_eq] at hb3
              refine AWp.skip ?_
              refine AWp.seq ?_
              refine AWp.block ?_
              refine AWp.reg (S1 := ?S14) (ob := ?o14) (S' := ?K14) tab_ok (noKnow _) mixed [0, 4, 5, 6, 7, 8] ?r14 ?h14 ?k14 ?w14
              case r14 => simp only [go_sem, bgrow_get, bgrow_len, bigD, Try.ntmps8, reduceIte, reduceCtorEq, Nat.reduceAdd, Nat.reduceEqDiff, Nat.reduceLT, Nat.reduceLeDiff, Nat.reduceSub, Nat.reduceMul, Nat.reduceBEq, Int.reduceToNat, Int.reduceLE, Int.reduceLT, Int.reducePow]; rfl
              case h14 => first | exact True.intro | omega | (simp only [go_sem, bgrow_get, bgrow_len, bigD, Try.ntmps8, reduceIte, reduceCtorEq, Nat.reduceAdd, Nat.reduceEqDiff, Nat.reduceLT, Nat.reduceLeDiff, Nat.reduceSub, Nat.reduceMul, Nat.reduceBEq, Int.reduceToNat, Int.reduceLE, Int.reduceLT, Int.reducePow]; done) | (simp only [go_sem, bgrow_get, bgrow_len, bigD, Try.ntmps8, reduceIte, reduceCtorEq, Nat.reduceAdd, Nat.reduceEqDiff, Nat.reduceLT, Nat.reduceLeDiff, Nat.reduceSub, Nat.reduceMul, Nat.reduceBEq, Int.reduceToNat, Int.reduceLE, Int.reduceLT, Int.reducePow]; omega)
              case k14 => simp only [go_sem, bgrow_get, bgrow_len, bigD, Try.ntmps8, reduceIte, reduceCtorEq, Nat.reduceAdd, Nat.reduceEqDiff, Nat.reduceLT, Nat.reduceLeDiff, Nat.reduceSub, Nat.reduceMul, Nat.reduceBEq, Int.reduceToNat, Int.reduceLE, Int.reduceLT, Int.reducePow]; rfl
              refine AWp.reg (S1 := ?S15) (ob := ?o15) (S' := ?K15) tab_ok (noKnow _) mixed [0, 4, 5, 6, 7, 8] ?r15 ?h15 ?k15 ?w15
              case r15 => simp only [go_sem, bgrow_get, bgrow_len, bigD, Try.ntmps8, reduceIte, reduceCtorEq, Nat.reduceAdd, Nat.reduceEqDiff, Nat.reduceLT, Nat.reduceLeDiff, Nat.reduceSub, Nat.reduceMul, Nat.reduceBEq, Int.reduceToNat, Int.reduceLE, Int.reduceLT, Int.reducePow]; rfl
              case h15 => first | exact True.intro | omega | (simp only [go_sem, bgrow_get, bgrow_len, bigD, Try.ntmps8, reduceIte, reduceCtorEq, Nat.reduceAdd, Nat.reduceEqDiff, Nat.reduceLT, Nat.reduceLeDiff, Nat.reduceSub, Nat.reduceMul, Nat.reduceBEq, Int.reduceToNat, Int.reduceLE, Int.reduceLT, Int.reducePow]; done) | (simp only [go_sem, bgrow_get, bgrow_len, bigD, Try.ntmps8, reduceIte, reduceCtorEq, Nat.reduceAdd, Nat.reduceEqDiff, Nat.reduceLT, Nat.reduceLeDiff, Nat.reduceSub, Nat.reduceMul, Nat.reduceBEq, Int.reduceToNat, Int.reduceLE, Int.reduceLT, Int.reducePow]; omega)
              case k15 => simp only [go_sem, bgrow_get, bgrow_len, bigD, Try.ntmps8, reduceIte, reduceCtorEq, Nat.reduceAdd, Nat.reduceEqDiff, Nat.reduceLT, Nat.reduceLeDiff, Nat.reduceSub, Nat.reduceMul, Nat.reduceBEq, Int.reduceToNat, Int.reduceLE, Int.reduceLT, Int.reducePow]; rfl
              refine ⟨2000 - (j + 1), ⟨[(0, .one (.s (.d (.slice z 4 (bgrow bl))))), (4, .one (.s (.row 0 3 0 i none))), (5, .one (dv (.int .i64 ((i : Nat) : Int)))), (6, .one (.s (.ptr 1 0))), (7, .one (dv (.str (s ++ (bl.getD i b0L).2.2.1)))), (8, .one (dv (.int .i64 (((j + 1) : Nat) : Int))))], [(1, .cells [.d (.str (bl.getD i b0L).1), .d (.int .i64 (bl.getD i b0L).2.1), .d (.str (bl.getD i b0L).2.2.1), .d (.int .i64 (bl.getD i b0L).2.2.2)] 54), (0, .row (fdrow (bigs (bl.take i))) 56)], 2⟩, by omega, Conv.refl _, j + 1, s ++ (bl.getD i b0L).2.2.1, by omega, rfl, by omega, ?_, by rw [List.length_append]; omega, rfl⟩
              rw [← hg]
              exact (grow_step (by omega) hb3.1).symm
            case f13 =>
              intro hb3
              simp only [Bool.and_eq_false_iff, decide_eq_false_iff_not] at hb3
              have hfin : s = grow (bl.getD i b0L).2.2.1 (bl.getD i b0L).2.2.2.toNat [] := by
                by_cases hl : s.length < 20000
                · have e : (bl.getD i b0L).2.2.2.toNat - j = 0 := by omega
                  rw [e] at hg
                  exact hg
                · rw [grow_stop hl] at hg
                  exact hg
              refine AWp.exit ?_
              refine thenA_exit ?_
              refine thenA_exit ?_
              refine inB_eq ?_
              refine AWp.reg (S1 := ?S16) (ob := ?o16) (S' := ?K16) tab_ok (noKnow _) mixed [0, 4, 5] ?r16 ?h16 ?k16 ?w16
              case r16 => simp only [go_sem, bgrow_get, bgrow_len, bigD, Try.ntmps8, reduceIte, reduceCtorEq, Nat.reduceAdd, Nat.reduceEqDiff, Nat.reduceLT, Nat.reduceLeDiff, Nat.reduceSub, Nat.reduceMul, Nat.reduceBEq, Int.reduceToNat, Int.reduceLE, Int.reduceLT, Int.reducePow]; rfl
              case h16 =>
                have h8 := good_le ht
                have e1 : (fdrow (bigs (bl.take i))).length = i := by rw [fdrow_len, bigs_len, List.length_take]; omega
                simp only [go_sem, bgrow_get, bgrow_len, bigD, Try.ntmps8, reduceIte, reduceCtorEq, Nat.reduceAdd, Nat.reduceEqDiff, Nat.reduceLT, Nat.reduceLeDiff, Nat.reduceSub, Nat.reduceMul, Nat.reduceBEq, Int.reduceToNat, Int.reduceLE, Int.reduceLT, Int.reducePow, e1]
                omega
              case k16 => simp only [go_sem, bgrow_get, bgrow_len, bigD, Try.ntmps8, reduceIte, reduceCtorEq, Nat.reduceAdd, Nat.reduceEqDiff, Nat.reduceLT, Nat.reduceLeDiff, Nat.reduceSub, Nat.reduceMul, Nat.reduceBEq, Int.reduceToNat, Int.reduceLE, Int.reduceLT, Int.reducePow]; rfl
              refine AWp.reg (S1 := ?S17) (ob := ?o17) (S' := ?K17) tab_ok (noKnow _) mixed [0, 4, 5] ?r17 ?h17 ?k17 ?w17
              case r17 => simp only [go_sem, bgrow_get, bgrow_len, bigD, Try.ntmps8, reduceIte, reduceCtorEq, Nat.reduceAdd, Nat.reduceEqDiff, Nat.reduceLT, Nat.reduceLeDiff, Nat.reduceSub, Nat.reduceMul, Nat.reduceBEq, Int.reduceToNat, Int.reduceLE, Int.reduceLT, Int.reducePow]; rfl
              case h17 =>
                have h8 := good_le ht
                exact ⟨by omega, by omega⟩
              case k17 => simp only [go_sem, bgrow_get, bgrow_len, bigD, Try.ntmps8, reduceIte, reduceCtorEq, Nat.reduceAdd, Nat.reduceEqDiff, Nat.reduceLT, Nat.reduceLeDiff, Nat.reduceSub, Nat.reduceMul, Nat.reduceBEq, Int.reduceToNat, Int.reduceLE, Int.reduceLT, Int.reducePow]; rfl
              have h8 := good_le ht
              refine ⟨bl.length - (i + 1), ⟨[(0, .one (.s (.d (.slice z 4 (bgrow bl))))), (4, .one (.s (.row 0 3 0 (i + 1) none))), (5, .one (dv (.int .i64 (((i + 1) : Nat) : Int))))], [(0, .row (fdrow (bigs (bl.take (i + 1)))) 56)], 1⟩, by omega, ?_, i + 1, by omega, rfl, by simp [List.range_succ, ht, hbad], rfl⟩
              have hA : fdrow (bigs (bl.take (i + 1))) = fdrow (bigs (bl.take i)) ++ [[.str (bl.getD i b0L).1, .int .i64 (bl.getD i b0L).2.1, .str s]] := by rw [bigs_succ hi, fdrow, List.map_append, hfin]; rfl
              exact (Conv.keep [0, 4, 5] [3] (by simp)).trans (Conv.rename (fun j => if j = 0 then 3 else j) (by simp; done) (by simp; done) (by simp [St.keep, keepE, lookN, AVal.ren, AV.ren, Sc.ren, AVal.ids, AV.ids, Sc.ids, fdrow_len, bigs_len]; omega) (by simp [St.keep, keepE, lookN, AObj.ren, AObj.ids, Sc.ids, Sc.ren, hA]; done) (by simp; done))
      case f5 =>
        intro hb1
        have hi : i = bl.length := by simp at hb1; omega
        subst hi
        refine AWp.exit ?_
        refine thenA_exit ?_
        refine thenA_exit ?_
        refine inB_eq ?_
        refine AWp.seq ?_
        refine AWp.reg (S1 := ?S18) (ob := ?o18) (S' := ?K18) tab_ok (noKnow _) mixed [2, 3] ?r18 ?h18 ?k18 ?w18
        case r18 => simp only [go_sem, bgrow_get, bgrow_len, bigD, Try.ntmps8, reduceIte, reduceCtorEq, Nat.reduceAdd, Nat.reduceEqDiff, Nat.reduceLT, Nat.reduceLeDiff, Nat.reduceSub, Nat.reduceMul, Nat.reduceBEq, Int.reduceToNat, Int.reduceLE, Int.reduceLT, Int.reducePow]; rfl
        case h18 => first | exact True.intro | omega | (simp only [go_sem, bgrow_get, bgrow_len, bigD, Try.ntmps8, reduceIte, reduceCtorEq, Nat.reduceAdd, Nat.reduceEqDiff, Nat.reduceLT, Nat.reduceLeDiff, Nat.reduceSub, Nat.reduceMul, Nat.reduceBEq, Int.reduceToNat, Int.reduceLE, Int.reduceLT, Int.reducePow]; done) | (simp only [go_sem, bgrow_get, bgrow_len, bigD, Try.ntmps8, reduceIte, reduceCtorEq, Nat.reduceAdd, Nat.reduceEqDiff, Nat.reduceLT, Nat.reduceLeDiff, Nat.reduceSub, Nat.reduceMul, Nat.reduceBEq, Int.reduceToNat, Int.reduceLE, Int.reduceLT, Int.reducePow]; omega)
        case k18 => simp only [go_sem, bgrow_get, bgrow_len, bigD, Try.ntmps8, reduceIte, reduceCtorEq, Nat.reduceAdd, Nat.reduceEqDiff, Nat.reduceLT, Nat.reduceLeDiff, Nat.reduceSub, Nat.reduceMul, Nat.reduceBEq, Int.reduceToNat, Int.reduceLE, Int.reduceLT, Int.reducePow]; rfl
        refine AWp.ret ?_
        refine ends_p (vs := ?vs2) (ob := ?ro2) (vs' := ?ws2) (ks := ?ks2) (ob2 := ?rp2) tab_ok (by simp) ?er2 ?eo2 ?ef2 ?eg2 ?en2 ?ek2 ?ev2
        case er2 => simp only [go_sem, bgrow_get, bgrow_len, bigD, Try.ntmps8, reduceIte, reduceCtorEq, Nat.reduceAdd, Nat.reduceEqDiff, Nat.reduceLT, Nat.reduceLeDiff, Nat.reduceSub, Nat.reduceMul, Nat.reduceBEq, Int.reduceToNat, Int.reduceLE, Int.reduceLT, Int.reducePow, Try.results8]; rfl
        case eo2 => first | exact True.intro | simp only [go_sem, bgrow_get, bgrow_len, bigD, Try.ntmps8, reduceIte, reduceCtorEq, Nat.reduceAdd, Nat.reduceEqDiff, Nat.reduceLT, Nat.reduceLeDiff, Nat.reduceSub, Nat.reduceMul, Nat.reduceBEq, Int.reduceToNat, Int.reduceLE, Int.reduceLT, Int.reducePow]
        case ef2 => simp only [go_sem, bgrow_get, bgrow_len, bigD, Try.ntmps8, reduceIte, reduceCtorEq, Nat.reduceAdd, Nat.reduceEqDiff, Nat.reduceLT, Nat.reduceLeDiff, Nat.reduceSub, Nat.reduceMul, Nat.reduceBEq, Int.reduceToNat, Int.reduceLE, Int.reduceLT, Int.reducePow]; rfl
        case eg2 => simp [fdrow_len, bigs_len]
        case en2 => simp only [go_sem, bgrow_get, bgrow_len, bigD, Try.ntmps8, reduceIte, reduceCtorEq, Nat.reduceAdd, Nat.reduceEqDiff, Nat.reduceLT, Nat.reduceLeDiff, Nat.reduceSub, Nat.reduceMul, Nat.reduceBEq, Int.reduceToNat, Int.reduceLE, Int.reduceLT, Int.reducePow]
        case ek2 => simp only [go_sem, bgrow_get, bgrow_len, bigD, Try.ntmps8, reduceIte, reduceCtorEq, Nat.reduceAdd, Nat.reduceEqDiff, Nat.reduceLT, Nat.reduceLeDiff, Nat.reduceSub, Nat.reduceMul, Nat.reduceBEq, Int.reduceToNat, Int.reduceLE, Int.reduceLT, Int.reducePow]
        case ev2 =>
          have hk : bigOk bl = true := ht
          rw [bigV, if_pos hk]; rfl
  · cases hq

end Go.Proofs.Hg
