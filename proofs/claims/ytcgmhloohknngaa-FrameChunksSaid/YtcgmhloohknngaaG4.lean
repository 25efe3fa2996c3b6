import Derived.Test.YtcgmhloohknngaaG3
set_option linter.unusedSimpArgs false
set_option linter.unusedVariables false
namespace Go.Proofs.Hg
open Go.RowKit
set_option maxRecDepth 100000
def repK (n i : Nat) : Int := if i < n then 2 else 3
def repB (s : List UInt8) (er : Int) (re im : Nat) (i : Nat) : List UInt8 := if i < nChunks 1000 s.length then chunkAt 1000 s i else endPart er re im 3
theorem repRows_len (id er : Int) (re im : Nat) (s : List UInt8) : (repRows id er re im s).length = nChunks 1000 s.length + 1 := by simp [repRows, chunkRows_len]
theorem repRows_get {id er : Int} {re im : Nat} {s : List UInt8} {i : Nat} (h : i ≤ nChunks 1000 s.length) (z : List D) : (repRows id er re im s).getD i z = frow id (repK (nChunks 1000 s.length) i) (repB s er re im i) := by
  unfold repRows repK repB
  by_cases hi : i < nChunks 1000 s.length
  · rw [if_pos hi, if_pos hi, List.getD_eq_getElem?_getD, List.getElem?_append_left (by rw [chunkRows_len]; exact hi)]
    simp [chunkRows, List.getElem?_map, List.getElem?_range hi]
  · have e : i = nChunks 1000 s.length := by omega
    rw [if_neg hi, if_neg hi, List.getD_eq_getElem?_getD, List.getElem?_append_right (by rw [chunkRows_len]; omega), chunkRows_len, e, Nat.sub_self]
    rfl
theorem whole_zero : wholeB 0 = true := by decide +kernel
theorem repV_ok {id : Int} {s : List UInt8} (h0 : 0 ≤ id) (h1 : id ≤ 65535) : repV id 0 0 0 s = .tup [dv (.slice none 3 (repRows id 0 0 0 s)), dv (.int .i64 0)] := by
  unfold repV
  rw [if_pos]
  simp [repOk, h0, h1, whole_zero]
def chunksF : List AV → Option (AVal × Prop)
  | [.s (.d (.int .i64 id)), .s (.d (.str s))] => some (.one (dv (.bool true)), True)
  | _ => none
def kn4 : List (Nat × Cont) := [(9, pureK aliveF), (16, pureK repF)]
theorem kn4_ok : ∀ p ∈ kn4, ContOk Try.prog p.1 p.2 := by
  intro p hp
  simp only [kn4, List.mem_cons, List.not_mem_nil, or_false] at hp
  rcases hp with rfl | rfl
  · exact aliveF_ok
  · exact repF_ok
theorem chunksF_ok : ContOk Try.prog 4 (pureK chunksF) := by
  refine pure_ok (nargs := 2) Try.func4 rfl (by kernel_rfl) (Nat.le_of_ble_eq_true (by kernel_rfl)) ?_
  intro args q hq hob
  unfold chunksF at hq
  split at hq
  · rename_i id s
    injection hq with hq
    subst hq
    refine ⟨rfl, by simp [AV.ids, Sc.ids], by simp [AVal.ids, AV.ids, Sc.ids], by simp, ?_⟩
    refine AWp.seq ?_
    refine AWp.reg (S1 := ?S1) (ob := ?o1) (S' := ?K1) tab_ok (knowL_ok kn4_ok) mixed [0, 1] ?r1 ?h1 ?k1 ?w1
    case r1 => simp only [go_sem, kn4, aliveF, repF, Try.ntmps4, reduceIte, reduceCtorEq, Nat.reduceAdd, Nat.reduceEqDiff, Nat.reduceLT, Nat.reduceLeDiff, Nat.reduceSub, Nat.reduceMul, Nat.reduceBEq, Int.reduceToNat, Int.reduceLE, Int.reduceLT, Int.reducePow]; rfl
    case h1 => first | exact True.intro | omega | (simp only [go_sem, kn4, aliveF, repF, Try.ntmps4, reduceIte, reduceCtorEq, Nat.reduceAdd, Nat.reduceEqDiff, Nat.reduceLT, Nat.reduceLeDiff, Nat.reduceSub, Nat.reduceMul, Nat.reduceBEq, Int.reduceToNat, Int.reduceLE, Int.reduceLT, Int.reducePow]; done) | (simp only [go_sem, kn4, aliveF, repF, Try.ntmps4, reduceIte, reduceCtorEq, Nat.reduceAdd, Nat.reduceEqDiff, Nat.reduceLT, Nat.reduceLeDiff, Nat.reduceSub, Nat.reduceMul, Nat.reduceBEq, Int.reduceToNat, Int.reduceLE, Int.reduceLT, Int.reducePow]; omega)
    case k1 => simp only [go_sem, kn4, aliveF, repF, Try.ntmps4, reduceIte, reduceCtorEq, Nat.reduceAdd, Nat.reduceEqDiff, Nat.reduceLT, Nat.reduceLeDiff, Nat.reduceSub, Nat.reduceMul, Nat.reduceBEq, Int.reduceToNat, Int.reduceLE, Int.reduceLT, Int.reducePow]; rfl
    refine AWp.seq ?_
    refine AWp.seq ?_
    refine AWp.reg (S1 := ?S2) (ob := ?o2) (S' := ?K2) tab_ok (knowL_ok kn4_ok) mixed [0, 1, 19] ?r2 ?h2 ?k2 ?w2
    case r2 => simp only [go_sem, kn4, aliveF, repF, Try.ntmps4, reduceIte, reduceCtorEq, Nat.reduceAdd, Nat.reduceEqDiff, Nat.reduceLT, Nat.reduceLeDiff, Nat.reduceSub, Nat.reduceMul, Nat.reduceBEq, Int.reduceToNat, Int.reduceLE, Int.reduceLT, Int.reducePow]; rfl
    case h2 => first | exact True.intro | omega | (simp only [go_sem, kn4, aliveF, repF, Try.ntmps4, reduceIte, reduceCtorEq, Nat.reduceAdd, Nat.reduceEqDiff, Nat.reduceLT, Nat.reduceLeDiff, Nat.reduceSub, Nat.reduceMul, Nat.reduceBEq, Int.reduceToNat, Int.reduceLE, Int.reduceLT, Int.reducePow]; done) | (simp only [go_sem, kn4, aliveF, repF, Try.ntmps4, reduceIte, reduceCtorEq, Nat.reduceAdd, Nat.reduceEqDiff, Nat.reduceLT, Nat.reduceLeDiff, Nat.reduceSub, Nat.reduceMul, Nat.reduceBEq, Int.reduceToNat, Int.reduceLE, Int.reduceLT, Int.reducePow]; omega)
    case k2 => simp only [go_sem, kn4, aliveF, repF, Try.ntmps4, reduceIte, reduceCtorEq, Nat.reduceAdd, Nat.reduceEqDiff, Nat.reduceLT, Nat.reduceLeDiff, Nat.reduceSub, Nat.reduceMul, Nat.reduceBEq, Int.reduceToNat, Int.reduceLE, Int.reduceLT, Int.reducePow]; rfl
    refine AWp.cond (b := ?b3) ?c3 ?t3 ?f3
    case c3 => simp only [go_sem, kn4, aliveF, repF, Try.ntmps4, reduceIte, reduceCtorEq, Nat.reduceAdd, Nat.reduceEqDiff, Nat.reduceLT, Nat.reduceLeDiff, Nat.reduceSub, Nat.reduceMul, Nat.reduceBEq, Int.reduceToNat, Int.reduceLE, Int.reduceLT, Int.reducePow]; rfl
    case t3 =>
      intro hb1
      refine AWp.seq ?_
      refine AWp.reg (S1 := ?S4) (ob := ?o4) (S' := ?K4) tab_ok (knowL_ok kn4_ok) mixed [4] ?r4 ?h4 ?k4 ?w4
      case r4 => simp only [go_sem, kn4, aliveF, repF, Try.ntmps4, reduceIte, reduceCtorEq, Nat.reduceAdd, Nat.reduceEqDiff, Nat.reduceLT, Nat.reduceLeDiff, Nat.reduceSub, Nat.reduceMul, Nat.reduceBEq, Int.reduceToNat, Int.reduceLE, Int.reduceLT, Int.reducePow]; rfl
      case h4 => first | exact True.intro | omega | (simp only [go_sem, kn4, aliveF, repF, Try.ntmps4, reduceIte, reduceCtorEq, Nat.reduceAdd, Nat.reduceEqDiff, Nat.reduceLT, Nat.reduceLeDiff, Nat.reduceSub, Nat.reduceMul, Nat.reduceBEq, Int.reduceToNat, Int.reduceLE, Int.reduceLT, Int.reducePow]; done) | (simp only [go_sem, kn4, aliveF, repF, Try.ntmps4, reduceIte, reduceCtorEq, Nat.reduceAdd, Nat.reduceEqDiff, Nat.reduceLT, Nat.reduceLeDiff, Nat.reduceSub, Nat.reduceMul, Nat.reduceBEq, Int.reduceToNat, Int.reduceLE, Int.reduceLT, Int.reducePow]; omega)
      case k4 => simp only [go_sem, kn4, aliveF, repF, Try.ntmps4, reduceIte, reduceCtorEq, Nat.reduceAdd, Nat.reduceEqDiff, Nat.reduceLT, Nat.reduceLeDiff, Nat.reduceSub, Nat.reduceMul, Nat.reduceBEq, Int.reduceToNat, Int.reduceLE, Int.reduceLT, Int.reducePow]; rfl
      refine AWp.ret ?_
      refine ends_p (vs := ?vs1) (ob := ?ro1) (vs' := ?ws1) (ks := ?ks1) (ob2 := ?rp1) tab_ok (by simp) ?er1 ?eo1 ?ef1 ?eg1 ?en1 ?ek1 ?ev1
      case er1 => simp only [go_sem, kn4, aliveF, repF, Try.ntmps4, reduceIte, reduceCtorEq, Nat.reduceAdd, Nat.reduceEqDiff, Nat.reduceLT, Nat.reduceLeDiff, Nat.reduceSub, Nat.reduceMul, Nat.reduceBEq, Int.reduceToNat, Int.reduceLE, Int.reduceLT, Int.reducePow, Try.results4]; rfl
      case eo1 => first | exact True.intro | simp only [go_sem, kn4, aliveF, repF, Try.ntmps4, reduceIte, reduceCtorEq, Nat.reduceAdd, Nat.reduceEqDiff, Nat.reduceLT, Nat.reduceLeDiff, Nat.reduceSub, Nat.reduceMul, Nat.reduceBEq, Int.reduceToNat, Int.reduceLE, Int.reduceLT, Int.reducePow]
      case ef1 => simp only [go_sem, kn4, aliveF, repF, Try.ntmps4, reduceIte, reduceCtorEq, Nat.reduceAdd, Nat.reduceEqDiff, Nat.reduceLT, Nat.reduceLeDiff, Nat.reduceSub, Nat.reduceMul, Nat.reduceBEq, Int.reduceToNat, Int.reduceLE, Int.reduceLT, Int.reducePow]; rfl
      case eg1 => first | exact True.intro | simp only [go_sem, kn4, aliveF, repF, Try.ntmps4, reduceIte, reduceCtorEq, Nat.reduceAdd, Nat.reduceEqDiff, Nat.reduceLT, Nat.reduceLeDiff, Nat.reduceSub, Nat.reduceMul, Nat.reduceBEq, Int.reduceToNat, Int.reduceLE, Int.reduceLT, Int.reducePow]
      case en1 => simp only [go_sem, kn4, aliveF, repF, Try.ntmps4, reduceIte, reduceCtorEq, Nat.reduceAdd, Nat.reduceEqDiff, Nat.reduceLT, Nat.reduceLeDiff, Nat.reduceSub, Nat.reduceMul, Nat.reduceBEq, Int.reduceToNat, Int.reduceLE, Int.reduceLT, Int.reducePow]
      case ek1 => simp only [go_sem, kn4, aliveF, repF, Try.ntmps4, reduceIte, reduceCtorEq, Nat.reduceAdd, Nat.reduceEqDiff, Nat.reduceLT, Nat.reduceLeDiff, Nat.reduceSub, Nat.reduceMul, Nat.reduceBEq, Int.reduceToNat, Int.reduceLE, Int.reduceLT, Int.reducePow]
      case ev1 =>
        first | rfl | simp only [go_sem, kn4, aliveF, repF, Try.ntmps4, reduceIte, reduceCtorEq, Nat.reduceAdd, Nat.reduceEqDiff, Nat.reduceLT, Nat.reduceLeDiff, Nat.reduceSub, Nat.reduceMul, Nat.reduceBEq, Int.reduceToNat, Int.reduceLE, Int.reduceLT, Int.reducePow]
    case f3 =>
      intro hb1
      have hx : s.length ≤ 20000 ∧ 0 ≤ id ∧ id ≤ 65535 := by simp only [Bool.or_eq_false_iff, decide_eq_false_iff_not] at hb1; omega
      have hrep := repV_ok (s := s) hx.2.1 hx.2.2
      have hL := repRows_len id 0 0 0 s
      have hnc : nChunks 1000 s.length = (s.length + 999) / 1000 := rfl
      refine AWp.skip ?_
      refine AWp.seq ?_
      refine AWp.reg (S1 := ?S5) (ob := ?o5) (S' := ?K5) tab_ok (knowL_ok kn4_ok) mixed [0, 1, 5, 6] ?r5 ?h5 ?k5 ?w5
      case r5 => simp only [go_sem, kn4, aliveF, repF, Try.ntmps4, reduceIte, reduceCtorEq, Nat.reduceAdd, Nat.reduceEqDiff, Nat.reduceLT, Nat.reduceLeDiff, Nat.reduceSub, Nat.reduceMul, Nat.reduceBEq, Int.reduceToNat, Int.reduceLE, Int.reduceLT, Int.reducePow, hrep]; rfl
      case h5 => first | exact True.intro | omega | (simp only [go_sem, kn4, aliveF, repF, Try.ntmps4, reduceIte, reduceCtorEq, Nat.reduceAdd, Nat.reduceEqDiff, Nat.reduceLT, Nat.reduceLeDiff, Nat.reduceSub, Nat.reduceMul, Nat.reduceBEq, Int.reduceToNat, Int.reduceLE, Int.reduceLT, Int.reducePow]; done) | (simp only [go_sem, kn4, aliveF, repF, Try.ntmps4, reduceIte, reduceCtorEq, Nat.reduceAdd, Nat.reduceEqDiff, Nat.reduceLT, Nat.reduceLeDiff, Nat.reduceSub, Nat.reduceMul, Nat.reduceBEq, Int.reduceToNat, Int.reduceLE, Int.reduceLT, Int.reducePow]; omega)
      case k5 => simp only [go_sem, kn4, aliveF, repF, Try.ntmps4, reduceIte, reduceCtorEq, Nat.reduceAdd, Nat.reduceEqDiff, Nat.reduceLT, Nat.reduceLeDiff, Nat.reduceSub, Nat.reduceMul, Nat.reduceBEq, Int.reduceToNat, Int.reduceLE, Int.reduceLT, Int.reducePow]; rfl
      refine AWp.seq ?_
      refine AWp.seq ?_
      refine AWp.reg (S1 := ?S6) (ob := ?o6) (S' := ?K6) tab_ok (knowL_ok kn4_ok) mixed [0, 1, 5, 39] ?r6 ?h6 ?k6 ?w6
      case r6 => simp only [go_sem, kn4, aliveF, repF, Try.ntmps4, reduceIte, reduceCtorEq, Nat.reduceAdd, Nat.reduceEqDiff, Nat.reduceLT, Nat.reduceLeDiff, Nat.reduceSub, Nat.reduceMul, Nat.reduceBEq, Int.reduceToNat, Int.reduceLE, Int.reduceLT, Int.reducePow]; rfl
      case h6 =>
        exact ⟨⟨by omega, by omega⟩, ⟨by omega, IntWalk.i64_in _ ⟨by omega, by omega⟩⟩, by omega, by omega⟩
      case k6 => simp only [go_sem, kn4, aliveF, repF, Try.ntmps4, reduceIte, reduceCtorEq, Nat.reduceAdd, Nat.reduceEqDiff, Nat.reduceLT, Nat.reduceLeDiff, Nat.reduceSub, Nat.reduceMul, Nat.reduceBEq, Int.reduceToNat, Int.reduceLE, Int.reduceLT, Int.reducePow]; rfl
      refine AWp.cond (b := ?b7) ?c7 ?t7 ?f7
      case c7 => simp only [go_sem, kn4, aliveF, repF, Try.ntmps4, reduceIte, reduceCtorEq, Nat.reduceAdd, Nat.reduceEqDiff, Nat.reduceLT, Nat.reduceLeDiff, Nat.reduceSub, Nat.reduceMul, Nat.reduceBEq, Int.reduceToNat, Int.reduceLE, Int.reduceLT, Int.reducePow]; rfl
      case t7 =>
        intro hb2
        exfalso; rw [hL, hnc] at hb2; simp only [Bool.not_eq_true', decide_eq_false_iff_not] at hb2; omega
      case f7 =>
        intro hb2
        refine AWp.skip ?_
        refine AWp.seq ?_
        refine AWp.reg (S1 := ?S8) (ob := ?o8) (S' := ?K8) tab_ok (knowL_ok kn4_ok) mixed [0, 1, 5, 7] ?r8 ?h8 ?k8 ?w8
        case r8 => simp only [go_sem, kn4, aliveF, repF, Try.ntmps4, reduceIte, reduceCtorEq, Nat.reduceAdd, Nat.reduceEqDiff, Nat.reduceLT, Nat.reduceLeDiff, Nat.reduceSub, Nat.reduceMul, Nat.reduceBEq, Int.reduceToNat, Int.reduceLE, Int.reduceLT, Int.reducePow]; rfl
        case h8 => first | exact True.intro | omega | (simp only [go_sem, kn4, aliveF, repF, Try.ntmps4, reduceIte, reduceCtorEq, Nat.reduceAdd, Nat.reduceEqDiff, Nat.reduceLT, Nat.reduceLeDiff, Nat.reduceSub, Nat.reduceMul, Nat.reduceBEq, Int.reduceToNat, Int.reduceLE, Int.reduceLT, Int.reducePow]; done) | (simp only [go_sem, kn4, aliveF, repF, Try.ntmps4, reduceIte, reduceCtorEq, Nat.reduceAdd, Nat.reduceEqDiff, Nat.reduceLT, Nat.reduceLeDiff, Nat.reduceSub, Nat.reduceMul, Nat.reduceBEq, Int.reduceToNat, Int.reduceLE, Int.reduceLT, Int.reducePow]; omega)
        case k8 => simp only [go_sem, kn4, aliveF, repF, Try.ntmps4, reduceIte, reduceCtorEq, Nat.reduceAdd, Nat.reduceEqDiff, Nat.reduceLT, Nat.reduceLeDiff, Nat.reduceSub, Nat.reduceMul, Nat.reduceBEq, Int.reduceToNat, Int.reduceLE, Int.reduceLT, Int.reducePow]; rfl
        refine AWp.seq ?_
        refine AWp.seq ?_
        refine AWp.reg (S1 := ?S9) (ob := ?o9) (S' := ?K9) tab_ok (knowL_ok kn4_ok) mixed [0, 1, 5, 7, 8] ?r9 ?h9 ?k9 ?w9
        case r9 => simp only [go_sem, kn4, aliveF, repF, Try.ntmps4, reduceIte, reduceCtorEq, Nat.reduceAdd, Nat.reduceEqDiff, Nat.reduceLT, Nat.reduceLeDiff, Nat.reduceSub, Nat.reduceMul, Nat.reduceBEq, Int.reduceToNat, Int.reduceLE, Int.reduceLT, Int.reducePow]; rfl
        case h9 => first | exact True.intro | omega | (simp only [go_sem, kn4, aliveF, repF, Try.ntmps4, reduceIte, reduceCtorEq, Nat.reduceAdd, Nat.reduceEqDiff, Nat.reduceLT, Nat.reduceLeDiff, Nat.reduceSub, Nat.reduceMul, Nat.reduceBEq, Int.reduceToNat, Int.reduceLE, Int.reduceLT, Int.reducePow]; done) | (simp only [go_sem, kn4, aliveF, repF, Try.ntmps4, reduceIte, reduceCtorEq, Nat.reduceAdd, Nat.reduceEqDiff, Nat.reduceLT, Nat.reduceLeDiff, Nat.reduceSub, Nat.reduceMul, Nat.reduceBEq, Int.reduceToNat, Int.reduceLE, Int.reduceLT, Int.reducePow]; omega)
        case k9 => simp only [go_sem, kn4, aliveF, repF, Try.ntmps4, reduceIte, reduceCtorEq, Nat.reduceAdd, Nat.reduceEqDiff, Nat.reduceLT, Nat.reduceLeDiff, Nat.reduceSub, Nat.reduceMul, Nat.reduceBEq, Int.reduceToNat, Int.reduceLE, Int.reduceLT, Int.reducePow]; rfl
        refine AWp.block ?_
        refine AWp.loop (fun k S => ∃ i : Nat, i ≤ nChunks 1000 s.length + 1 ∧ k = nChunks 1000 s.length + 1 - i ∧ S = ⟨[(0, .one (dv (.int .i64 id))), (1, .one (dv (.str s))), (5, .one (dv (.slice none 3 (repRows id 0 0 0 s)))), (7, .one (dv (.str (s.take (1000 * i))))), (8, .one (dv (.int .i64 (i : Int))))], [], 0⟩) (nChunks 1000 s.length + 1) ?i1 ?n1
        case i1 =>
          exact ⟨0, by omega, by omega, by simp⟩
        case n1 =>
          rintro k S ⟨i, hi0, rfl, rfl⟩
          refine AWp.seq ?_
          refine AWp.seq ?_
          refine AWp.reg (S1 := ?S10) (ob := ?o10) (S' := ?K10) tab_ok (knowL_ok kn4_ok) mixed [0, 1, 5, 7, 8, 43] ?r10 ?h10 ?k10 ?w10
          case r10 => simp only [go_sem, kn4, aliveF, repF, Try.ntmps4, reduceIte, reduceCtorEq, Nat.reduceAdd, Nat.reduceEqDiff, Nat.reduceLT, Nat.reduceLeDiff, Nat.reduceSub, Nat.reduceMul, Nat.reduceBEq, Int.reduceToNat, Int.reduceLE, Int.reduceLT, Int.reducePow]; rfl
          case h10 => first | exact True.intro | omega | (simp only [go_sem, kn4, aliveF, repF, Try.ntmps4, reduceIte, reduceCtorEq, Nat.reduceAdd, Nat.reduceEqDiff, Nat.reduceLT, Nat.reduceLeDiff, Nat.reduceSub, Nat.reduceMul, Nat.reduceBEq, Int.reduceToNat, Int.reduceLE, Int.reduceLT, Int.reducePow]; done) | (simp only [go_sem, kn4, aliveF, repF, Try.ntmps4, reduceIte, reduceCtorEq, Nat.reduceAdd, Nat.reduceEqDiff, Nat.reduceLT, Nat.reduceLeDiff, Nat.reduceSub, Nat.reduceMul, Nat.reduceBEq, Int.reduceToNat, Int.reduceLE, Int.reduceLT, Int.reducePow]; omega)
          case k10 => simp only [go_sem, kn4, aliveF, repF, Try.ntmps4, reduceIte, reduceCtorEq, Nat.reduceAdd, Nat.reduceEqDiff, Nat.reduceLT, Nat.reduceLeDiff, Nat.reduceSub, Nat.reduceMul, Nat.reduceBEq, Int.reduceToNat, Int.reduceLE, Int.reduceLT, Int.reducePow]; rfl
          refine AWp.cond (b := ?b11) ?c11 ?t11 ?f11
          case c11 => simp only [go_sem, kn4, aliveF, repF, Try.ntmps4, reduceIte, reduceCtorEq, Nat.reduceAdd, Nat.reduceEqDiff, Nat.reduceLT, Nat.reduceLeDiff, Nat.reduceSub, Nat.reduceMul, Nat.reduceBEq, Int.reduceToNat, Int.reduceLE, Int.reduceLT, Int.reducePow]; rfl
          case t11 =>
            intro hb3
            have hi : i ≤ nChunks 1000 s.length := by rw [hL] at hb3; simp only [decide_eq_true_eq] at hb3; omega
            have hrow := repRows_get (id := id) (er := 0) (re := 0) (im := 0) hi [.int .i64 0, .int .i64 0, .slice (some true) 1 []]
            have hk : decide (repK (nChunks 1000 s.length) i = 3) = decide ((i : Int) = ((repRows id 0 0 0 s).length : Int) - 1) := by
              rw [hL]; unfold repK; congr 1; split
              · simp; omega
              · simp; omega
            have hbl : (repB s 0 0 0 i).length ≤ 1000 ∧ (i + 1 < nChunks 1000 s.length → (repB s 0 0 0 i).length = 1000) := by
              unfold repB
              split
              · refine ⟨by simp [chunkAt]; omega, fun h => ?_⟩
                have := (nChunks_lt (k := 1000) (len := s.length) (j := i + 1) (by omega)).2 h
                simp [chunkAt]; omega
              · exact ⟨by simp [endPart, endL, two2], fun h => by omega⟩
            refine AWp.skip ?_
            refine AWp.seq ?_
            refine AWp.block ?_
            refine AWp.seq ?_
            refine AWp.seq ?_
            refine AWp.reg (S1 := ?S12) (ob := ?o12) (S' := ?K12) tab_ok (knowL_ok kn4_ok) mixed [0, 1, 5, 7, 8, 82] ?r12 ?h12 ?k12 ?w12
            case r12 => simp only [go_sem, kn4, aliveF, repF, Try.ntmps4, reduceIte, reduceCtorEq, Nat.reduceAdd, Nat.reduceEqDiff, Nat.reduceLT, Nat.reduceLeDiff, Nat.reduceSub, Nat.reduceMul, Nat.reduceBEq, Int.reduceToNat, Int.reduceLE, Int.reduceLT, Int.reducePow, hrow, frow, hk]; rfl
            case h12 => first | exact True.intro | omega | (simp only [go_sem, kn4, aliveF, repF, Try.ntmps4, reduceIte, reduceCtorEq, Nat.reduceAdd, Nat.reduceEqDiff, Nat.reduceLT, Nat.reduceLeDiff, Nat.reduceSub, Nat.reduceMul, Nat.reduceBEq, Int.reduceToNat, Int.reduceLE, Int.reduceLT, Int.reducePow]; done) | (simp only [go_sem, kn4, aliveF, repF, Try.ntmps4, reduceIte, reduceCtorEq, Nat.reduceAdd, Nat.reduceEqDiff, Nat.reduceLT, Nat.reduceLeDiff, Nat.reduceSub, Nat.reduceMul, Nat.reduceBEq, Int.reduceToNat, Int.reduceLE, Int.reduceLT, Int.reducePow]; omega)
            case k12 => simp only [go_sem, kn4, aliveF, repF, Try.ntmps4, reduceIte, reduceCtorEq, Nat.reduceAdd, Nat.reduceEqDiff, Nat.reduceLT, Nat.reduceLeDiff, Nat.reduceSub, Nat.reduceMul, Nat.reduceBEq, Int.reduceToNat, Int.reduceLE, Int.reduceLT, Int.reducePow]; rfl
            refine AWp.cond (b := ?b13) ?c13 ?t13 ?f13
            case c13 => simp only [go_sem, kn4, aliveF, repF, Try.ntmps4, reduceIte, reduceCtorEq, Nat.reduceAdd, Nat.reduceEqDiff, Nat.reduceLT, Nat.reduceLeDiff, Nat.reduceSub, Nat.reduceMul, Nat.reduceBEq, Int.reduceToNat, Int.reduceLE, Int.reduceLT, Int.reducePow]; rfl
            case t13 =>
              intro hb4
              exfalso; simp only [Bool.and_eq_true, decide_eq_true_eq, Bool.not_eq_true', decide_eq_false_iff_not] at hb4; have h1 := hbl.2 (by omega); omega
            case f13 =>
              intro hb4
              refine AWp.skip ?_
              refine AWp.seq ?_
              refine AWp.reg (S1 := ?S14) (ob := ?o14) (S' := ?K14) tab_ok (knowL_ok kn4_ok) mixed [0, 1, 5, 7, 8, 88] ?r14 ?h14 ?k14 ?w14
              case r14 => simp only [go_sem, kn4, aliveF, repF, Try.ntmps4, reduceIte, reduceCtorEq, Nat.reduceAdd, Nat.reduceEqDiff, Nat.reduceLT, Nat.reduceLeDiff, Nat.reduceSub, Nat.reduceMul, Nat.reduceBEq, Int.reduceToNat, Int.reduceLE, Int.reduceLT, Int.reducePow, hrow, frow]; rfl
              case h14 => first | exact True.intro | omega | (simp only [go_sem, kn4, aliveF, repF, Try.ntmps4, reduceIte, reduceCtorEq, Nat.reduceAdd, Nat.reduceEqDiff, Nat.reduceLT, Nat.reduceLeDiff, Nat.reduceSub, Nat.reduceMul, Nat.reduceBEq, Int.reduceToNat, Int.reduceLE, Int.reduceLT, Int.reducePow]; done) | (simp only [go_sem, kn4, aliveF, repF, Try.ntmps4, reduceIte, reduceCtorEq, Nat.reduceAdd, Nat.reduceEqDiff, Nat.reduceLT, Nat.reduceLeDiff, Nat.reduceSub, Nat.reduceMul, Nat.reduceBEq, Int.reduceToNat, Int.reduceLE, Int.reduceLT, Int.reducePow]; omega)
              case k14 => simp only [go_sem, kn4, aliveF, repF, Try.ntmps4, reduceIte, reduceCtorEq, Nat.reduceAdd, Nat.reduceEqDiff, Nat.reduceLT, Nat.reduceLeDiff, Nat.reduceSub, Nat.reduceMul, Nat.reduceBEq, Int.reduceToNat, Int.reduceLE, Int.reduceLT, Int.reducePow]; rfl
              refine AWp.cond (b := ?b15) ?c15 ?t15 ?f15
              case c15 => simp only [go_sem, kn4, aliveF, repF, Try.ntmps4, reduceIte, reduceCtorEq, Nat.reduceAdd, Nat.reduceEqDiff, Nat.reduceLT, Nat.reduceLeDiff, Nat.reduceSub, Nat.reduceMul, Nat.reduceBEq, Int.reduceToNat, Int.reduceLE, Int.reduceLT, Int.reducePow]; rfl
              case t15 =>
                intro hb5
                have hin : i < nChunks 1000 s.length := by simp only [decide_eq_true_eq] at hb5; unfold repK at hb5; split at hb5; assumption; cases hb5
                have hA : s.take (1000 * (i + 1)) = s.take (1000 * i) ++ repB s 0 0 0 i := by unfold repB; rw [if_pos hin, Nat.mul_add, Nat.mul_one, List.take_add]; rfl
                refine AWp.reg (S1 := ?S16) (ob := ?o16) (S' := ?K16) tab_ok (knowL_ok kn4_ok) mixed [0, 1, 5, 7, 8] ?r16 ?h16 ?k16 ?w16
                case r16 => simp only [go_sem, kn4, aliveF, repF, Try.ntmps4, reduceIte, reduceCtorEq, Nat.reduceAdd, Nat.reduceEqDiff, Nat.reduceLT, Nat.reduceLeDiff, Nat.reduceSub, Nat.reduceMul, Nat.reduceBEq, Int.reduceToNat, Int.reduceLE, Int.reduceLT, Int.reducePow, hrow, frow]; rfl
                case h16 =>
                  exact ⟨⟨by omega, by rw [hL]; omega⟩, by have := hbl.1; simp only [List.length_take]; omega⟩
                case k16 => simp only [go_sem, kn4, aliveF, repF, Try.ntmps4, reduceIte, reduceCtorEq, Nat.reduceAdd, Nat.reduceEqDiff, Nat.reduceLT, Nat.reduceLeDiff, Nat.reduceSub, Nat.reduceMul, Nat.reduceBEq, Int.reduceToNat, Int.reduceLE, Int.reduceLT, Int.reducePow]; rfl
                refine AWp.reg (S1 := ?S17) (ob := ?o17) (S' := ?K17) tab_ok (knowL_ok kn4_ok) mixed [0, 1, 5, 7, 8] ?r17 ?h17 ?k17 ?w17
                case r17 => simp only [go_sem, kn4, aliveF, repF, Try.ntmps4, reduceIte, reduceCtorEq, Nat.reduceAdd, Nat.reduceEqDiff, Nat.reduceLT, Nat.reduceLeDiff, Nat.reduceSub, Nat.reduceMul, Nat.reduceBEq, Int.reduceToNat, Int.reduceLE, Int.reduceLT, Int.reducePow]; rfl
                case h17 => first | exact True.intro | omega | (simp only [go_sem, kn4, aliveF, repF, Try.ntmps4, reduceIte, reduceCtorEq, Nat.reduceAdd, Nat.reduceEqDiff, Nat.reduceLT, Nat.reduceLeDiff, Nat.reduceSub, Nat.reduceMul, Nat.reduceBEq, Int.reduceToNat, Int.reduceLE, Int.reduceLT, Int.reducePow]; done) | (simp only [go_sem, kn4, aliveF, repF, Try.ntmps4, reduceIte, reduceCtorEq, Nat.reduceAdd, Nat.reduceEqDiff, Nat.reduceLT, Nat.reduceLeDiff, Nat.reduceSub, Nat.reduceMul, Nat.reduceBEq, Int.reduceToNat, Int.reduceLE, Int.reduceLT, Int.reducePow]; omega)
                case k17 => simp only [go_sem, kn4, aliveF, repF, Try.ntmps4, reduceIte, reduceCtorEq, Nat.reduceAdd, Nat.reduceEqDiff, Nat.reduceLT, Nat.reduceLeDiff, Nat.reduceSub, Nat.reduceMul, Nat.reduceBEq, Int.reduceToNat, Int.reduceLE, Int.reduceLT, Int.reducePow]; rfl
                exact ⟨nChunks 1000 s.length + 1 - (i + 1), _, by omega, Conv.refl _, i + 1, by omega, by omega, by rw [hA]; rfl⟩
              case f15 =>
                intro hb5
                have hin : ¬ i < nChunks 1000 s.length := by intro h; simp [repK, h] at hb5
                have hA : s.take (1000 * (i + 1)) = s.take (1000 * i) := by rw [List.take_of_length_le (by omega), List.take_of_length_le (by omega)]
                refine AWp.skip ?_
                refine AWp.reg (S1 := ?S18) (ob := ?o18) (S' := ?K18) tab_ok (knowL_ok kn4_ok) mixed [0, 1, 5, 7, 8] ?r18 ?h18 ?k18 ?w18
                case r18 => simp only [go_sem, kn4, aliveF, repF, Try.ntmps4, reduceIte, reduceCtorEq, Nat.reduceAdd, Nat.reduceEqDiff, Nat.reduceLT, Nat.reduceLeDiff, Nat.reduceSub, Nat.reduceMul, Nat.reduceBEq, Int.reduceToNat, Int.reduceLE, Int.reduceLT, Int.reducePow]; rfl
                case h18 => first | exact True.intro | omega | (simp only [go_sem, kn4, aliveF, repF, Try.ntmps4, reduceIte, reduceCtorEq, Nat.reduceAdd, Nat.reduceEqDiff, Nat.reduceLT, Nat.reduceLeDiff, Nat.reduceSub, Nat.reduceMul, Nat.reduceBEq, Int.reduceToNat, Int.reduceLE, Int.reduceLT, Int.reducePow]; done) | (simp only [go_sem, kn4, aliveF, repF, Try.ntmps4, reduceIte, reduceCtorEq, Nat.reduceAdd, Nat.reduceEqDiff, Nat.reduceLT, Nat.reduceLeDiff, Nat.reduceSub, Nat.reduceMul, Nat.reduceBEq, Int.reduceToNat, Int.reduceLE, Int.reduceLT, Int.reducePow]; omega)
                case k18 => simp only [go_sem, kn4, aliveF, repF, Try.ntmps4, reduceIte, reduceCtorEq, Nat.reduceAdd, Nat.reduceEqDiff, Nat.reduceLT, Nat.reduceLeDiff, Nat.reduceSub, Nat.reduceMul, Nat.reduceBEq, Int.reduceToNat, Int.reduceLE, Int.reduceLT, Int.reducePow]; rfl
                exact ⟨nChunks 1000 s.length + 1 - (i + 1), _, by omega, Conv.refl _, i + 1, by omega, by omega, by rw [hA]; rfl⟩
          case f11 =>
            intro hb3
            refine AWp.exit ?_
            refine thenA_exit ?_
            refine thenA_exit ?_
            refine inB_eq ?_
            refine AWp.seq ?_
            refine AWp.reg (S1 := ?S19) (ob := ?o19) (S' := ?K19) tab_ok (knowL_ok kn4_ok) mixed [4] ?r19 ?h19 ?k19 ?w19
            case r19 => simp only [go_sem, kn4, aliveF, repF, Try.ntmps4, reduceIte, reduceCtorEq, Nat.reduceAdd, Nat.reduceEqDiff, Nat.reduceLT, Nat.reduceLeDiff, Nat.reduceSub, Nat.reduceMul, Nat.reduceBEq, Int.reduceToNat, Int.reduceLE, Int.reduceLT, Int.reducePow]; rfl
            case h19 => first | exact True.intro | omega | (simp only [go_sem, kn4, aliveF, repF, Try.ntmps4, reduceIte, reduceCtorEq, Nat.reduceAdd, Nat.reduceEqDiff, Nat.reduceLT, Nat.reduceLeDiff, Nat.reduceSub, Nat.reduceMul, Nat.reduceBEq, Int.reduceToNat, Int.reduceLE, Int.reduceLT, Int.reducePow]; done) | (simp only [go_sem, kn4, aliveF, repF, Try.ntmps4, reduceIte, reduceCtorEq, Nat.reduceAdd, Nat.reduceEqDiff, Nat.reduceLT, Nat.reduceLeDiff, Nat.reduceSub, Nat.reduceMul, Nat.reduceBEq, Int.reduceToNat, Int.reduceLE, Int.reduceLT, Int.reducePow]; omega)
            case k19 => simp only [go_sem, kn4, aliveF, repF, Try.ntmps4, reduceIte, reduceCtorEq, Nat.reduceAdd, Nat.reduceEqDiff, Nat.reduceLT, Nat.reduceLeDiff, Nat.reduceSub, Nat.reduceMul, Nat.reduceBEq, Int.reduceToNat, Int.reduceLE, Int.reduceLT, Int.reducePow]; rfl
            refine AWp.ret ?_
            refine ends_p (vs := ?vs2) (ob := ?ro2) (vs' := ?ws2) (ks := ?ks2) (ob2 := ?rp2) tab_ok (by simp) ?er2 ?eo2 ?ef2 ?eg2 ?en2 ?ek2 ?ev2
            case er2 => simp only [go_sem, kn4, aliveF, repF, Try.ntmps4, reduceIte, reduceCtorEq, Nat.reduceAdd, Nat.reduceEqDiff, Nat.reduceLT, Nat.reduceLeDiff, Nat.reduceSub, Nat.reduceMul, Nat.reduceBEq, Int.reduceToNat, Int.reduceLE, Int.reduceLT, Int.reducePow, Try.results4]; rfl
            case eo2 => first | exact True.intro | simp only [go_sem, kn4, aliveF, repF, Try.ntmps4, reduceIte, reduceCtorEq, Nat.reduceAdd, Nat.reduceEqDiff, Nat.reduceLT, Nat.reduceLeDiff, Nat.reduceSub, Nat.reduceMul, Nat.reduceBEq, Int.reduceToNat, Int.reduceLE, Int.reduceLT, Int.reducePow]
            case ef2 => simp only [go_sem, kn4, aliveF, repF, Try.ntmps4, reduceIte, reduceCtorEq, Nat.reduceAdd, Nat.reduceEqDiff, Nat.reduceLT, Nat.reduceLeDiff, Nat.reduceSub, Nat.reduceMul, Nat.reduceBEq, Int.reduceToNat, Int.reduceLE, Int.reduceLT, Int.reducePow]; rfl
            case eg2 => first | exact True.intro | simp only [go_sem, kn4, aliveF, repF, Try.ntmps4, reduceIte, reduceCtorEq, Nat.reduceAdd, Nat.reduceEqDiff, Nat.reduceLT, Nat.reduceLeDiff, Nat.reduceSub, Nat.reduceMul, Nat.reduceBEq, Int.reduceToNat, Int.reduceLE, Int.reduceLT, Int.reducePow]
            case en2 => simp only [go_sem, kn4, aliveF, repF, Try.ntmps4, reduceIte, reduceCtorEq, Nat.reduceAdd, Nat.reduceEqDiff, Nat.reduceLT, Nat.reduceLeDiff, Nat.reduceSub, Nat.reduceMul, Nat.reduceBEq, Int.reduceToNat, Int.reduceLE, Int.reduceLT, Int.reducePow]
            case ek2 => simp only [go_sem, kn4, aliveF, repF, Try.ntmps4, reduceIte, reduceCtorEq, Nat.reduceAdd, Nat.reduceEqDiff, Nat.reduceLT, Nat.reduceLeDiff, Nat.reduceSub, Nat.reduceMul, Nat.reduceBEq, Int.reduceToNat, Int.reduceLE, Int.reduceLT, Int.reducePow]
            case ev2 =>
              have : s.take (1000 * i) = s := List.take_of_length_le (by rw [hL] at hb3; simp only [decide_eq_false_iff_not] at hb3; omega)
              rw [this]
              simp [pack]
  · cases hq

end Go.Proofs.Hg
