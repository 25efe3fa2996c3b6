import Derived.Test.YtcicjmhealkigaaCF1
set_option linter.unusedSimpArgs false
set_option linter.unusedVariables false
set_option maxHeartbeats 4000000
namespace Go.Proofs.Hg
open Go.RowKit
set_option maxRecDepth 100000
abbrev FileL := List UInt8 × Int × List UInt8
def fileD (f : FileL) : List D := [.str f.1, .int .i64 f.2.1, .str f.2.2]
def fdrow (l : List FileL) : List (List D) := l.map fileD
def unf1 : List D → FileL
  | [.str p, .int _ v, .str c] => (p, v, c)
  | _ => ([], 0, [])
def unf (es : List (List D)) : List FileL := es.map unf1
@[simp] theorem unf_fdrow (l : List FileL) : unf (fdrow l) = l := by
  simp only [unf, fdrow, List.map_map]
  conv => rhs; rw [← List.map_id l]
  exact List.map_congr_left fun _ _ => rfl
theorem fdrow_len (l : List FileL) : (fdrow l).length = l.length := by simp [fdrow]
def f0L : FileL := ([], 0, [])
theorem fdrow_get (l : List FileL) (i : Nat) : (fdrow l).getD i [.str [], .int .i64 0, .str []] = fileD (l.getD i f0L) := by
  simp only [fdrow, List.getD_eq_getElem?_getD, List.getElem?_map]
  cases l[i]? <;> rfl
def fileOk (l : List FileL) (i : Nat) : Bool :=
  pathB (l.getD i f0L).1 && (decide (0 ≤ (l.getD i f0L).2.1) && (decide ((l.getD i f0L).2.1 ≤ 1099511627776) && (decide (((l.getD i f0L).2.2.length : Int) ≤ 65536) && (decide ((i : Int) = 0) || ltS (l.getD ((i : Int) - 1).toNat f0L).1 (l.getD i f0L).1))))
theorem step20 (b : Bool) (l : List FileL) (i : Nat) : (b && (List.range i).all (fileOk l) && pathB (l.getD i f0L).1 && decide (0 ≤ (l.getD i f0L).2.1) && decide ((l.getD i f0L).2.1 ≤ 1099511627776) && decide (((l.getD i f0L).2.2.length : Int) ≤ 65536) && (decide ((i : Int) = 0) || ltS (l.getD ((i : Int) - 1).toNat f0L).1 (l.getD i f0L).1)) = (b && (List.range (i + 1)).all (fileOk l)) := by
  simp only [List.range_succ, List.all_append, List.all_cons, List.all_nil, fileOk, Bool.and_true, Bool.and_assoc]
def headOk (n : Int) (l : List FileL) : Bool := decide (0 ≤ n) && (decide (n ≤ 1099511627776) && decide ((l.length : Int) ≤ 1024))
def rightL (n : Int) (l : List FileL) : Bool := headOk n l && (List.range l.length).all (fileOk l)
def FilesOk (l : List FileL) : Prop := l.length ≤ 1000000 ∧ ∀ f ∈ l, f.1.length ≤ 1000000
theorem FilesOk.path {l : List FileL} (h : FilesOk l) {i : Nat} (hi : i < l.length) : (l.getD i f0L).1.length ≤ 1000000 := h.2 _ (by rw [getD_lt (by omega)]; exact List.getElem_mem _)
theorem rightL_all (n : Int) (l : List FileL) : rightL n l = (headOk n l && (List.range l.length).all (fileOk l)) := rfl
def rightF : List AV → Option (AVal × Prop)
  | [.agg [.d (.int .i64 n), .d (.slice z e fs)]] => some (.one (dv (.bool (rightL n (unf fs)))), e = 3 ∧ fs = fdrow (unf fs) ∧ FilesOk (unf fs))
  | _ => none
def kn20 : List (Nat × Cont) := [(34, pureK pathF)]
theorem kn20_ok : ∀ p ∈ kn20, ContOk Try.prog p.1 p.2 := by
  intro p hp
  simp only [kn20, List.mem_cons, List.not_mem_nil, or_false] at hp
  rcases hp with rfl
  · exact pathF_ok
theorem rightF_ok : ContOk Try.prog 20 (pureK rightF) := by
  refine pure_ok (nargs := 1) Try.func20 rfl (by kernel_rfl) (Nat.le_of_ble_eq_true (by kernel_rfl)) ?_
  intro args q hq hob
  unfold rightF at hq
  split at hq
  · rename_i n z e fs
    injection hq with hq
    subst hq
    obtain ⟨h1, h2, h3⟩ : e = 3 ∧ fs = fdrow (unf fs) ∧ FilesOk (unf fs) := hob
    generalize unf fs = fl at *
    subst h1 h2
    refine ⟨rfl, by simp [AV.ids, Sc.ids], by simp [AVal.ids, AV.ids, Sc.ids], by simp, ?_⟩
    refine AWp.seq ?_
    refine AWp.reg (S1 := ?S1) (ob := ?o1) (S' := ?K1) tab_ok (knowL_ok kn20_ok) mixed [1] ?r1 ?h1 ?k1 ?w1
    case r1 => simp only [go_sem, kn20, pathF, fdrow_get, fdrow_len, fileD, Try.ntmps20, reduceIte, reduceCtorEq, Nat.reduceAdd, Nat.reduceEqDiff, Nat.reduceLT, Nat.reduceLeDiff, Nat.reduceSub, Nat.reduceMul, Nat.reduceBEq, Int.reduceToNat, Int.reduceLE, Int.reduceLT, Int.reducePow]; rfl
    case h1 => first | exact True.intro | omega | (simp only [go_sem, kn20, pathF, fdrow_get, fdrow_len, fileD, Try.ntmps20, reduceIte, reduceCtorEq, Nat.reduceAdd, Nat.reduceEqDiff, Nat.reduceLT, Nat.reduceLeDiff, Nat.reduceSub, Nat.reduceMul, Nat.reduceBEq, Int.reduceToNat, Int.reduceLE, Int.reduceLT, Int.reducePow]; done) | (simp only [go_sem, kn20, pathF, fdrow_get, fdrow_len, fileD, Try.ntmps20, reduceIte, reduceCtorEq, Nat.reduceAdd, Nat.reduceEqDiff, Nat.reduceLT, Nat.reduceLeDiff, Nat.reduceSub, Nat.reduceMul, Nat.reduceBEq, Int.reduceToNat, Int.reduceLE, Int.reduceLT, Int.reducePow]; omega)
    case k1 => simp only [go_sem, kn20, pathF, fdrow_get, fdrow_len, fileD, Try.ntmps20, reduceIte, reduceCtorEq, Nat.reduceAdd, Nat.reduceEqDiff, Nat.reduceLT, Nat.reduceLeDiff, Nat.reduceSub, Nat.reduceMul, Nat.reduceBEq, Int.reduceToNat, Int.reduceLE, Int.reduceLT, Int.reducePow]; rfl
    refine AWp.seq ?_
    refine AWp.reg (S1 := ?S2) (ob := ?o2) (S' := ?K2) tab_ok (knowL_ok kn20_ok) mixed [1, 3] ?r2 ?h2 ?k2 ?w2
    case r2 => simp only [go_sem, kn20, pathF, fdrow_get, fdrow_len, fileD, Try.ntmps20, reduceIte, reduceCtorEq, Nat.reduceAdd, Nat.reduceEqDiff, Nat.reduceLT, Nat.reduceLeDiff, Nat.reduceSub, Nat.reduceMul, Nat.reduceBEq, Int.reduceToNat, Int.reduceLE, Int.reduceLT, Int.reducePow]; rfl
    case h2 => first | exact True.intro | omega | (simp only [go_sem, kn20, pathF, fdrow_get, fdrow_len, fileD, Try.ntmps20, reduceIte, reduceCtorEq, Nat.reduceAdd, Nat.reduceEqDiff, Nat.reduceLT, Nat.reduceLeDiff, Nat.reduceSub, Nat.reduceMul, Nat.reduceBEq, Int.reduceToNat, Int.reduceLE, Int.reduceLT, Int.reducePow]; done) | (simp only [go_sem, kn20, pathF, fdrow_get, fdrow_len, fileD, Try.ntmps20, reduceIte, reduceCtorEq, Nat.reduceAdd, Nat.reduceEqDiff, Nat.reduceLT, Nat.reduceLeDiff, Nat.reduceSub, Nat.reduceMul, Nat.reduceBEq, Int.reduceToNat, Int.reduceLE, Int.reduceLT, Int.reducePow]; omega)
    case k2 => simp only [go_sem, kn20, pathF, fdrow_get, fdrow_len, fileD, Try.ntmps20, reduceIte, reduceCtorEq, Nat.reduceAdd, Nat.reduceEqDiff, Nat.reduceLT, Nat.reduceLeDiff, Nat.reduceSub, Nat.reduceMul, Nat.reduceBEq, Int.reduceToNat, Int.reduceLE, Int.reduceLT, Int.reducePow]; rfl
    refine AWp.seq ?_
    refine AWp.seq ?_
    refine AWp.reg (S1 := ?S3) (ob := ?o3) (S' := ?K3) tab_ok (knowL_ok kn20_ok) mixed [1, 3, 21, 22, 23] ?r3 ?h3 ?k3 ?w3
    case r3 => simp only [go_sem, kn20, pathF, fdrow_get, fdrow_len, fileD, Try.ntmps20, reduceIte, reduceCtorEq, Nat.reduceAdd, Nat.reduceEqDiff, Nat.reduceLT, Nat.reduceLeDiff, Nat.reduceSub, Nat.reduceMul, Nat.reduceBEq, Int.reduceToNat, Int.reduceLE, Int.reduceLT, Int.reducePow]; rfl
    case h3 => first | exact True.intro | omega | (simp only [go_sem, kn20, pathF, fdrow_get, fdrow_len, fileD, Try.ntmps20, reduceIte, reduceCtorEq, Nat.reduceAdd, Nat.reduceEqDiff, Nat.reduceLT, Nat.reduceLeDiff, Nat.reduceSub, Nat.reduceMul, Nat.reduceBEq, Int.reduceToNat, Int.reduceLE, Int.reduceLT, Int.reducePow]; done) | (simp only [go_sem, kn20, pathF, fdrow_get, fdrow_len, fileD, Try.ntmps20, reduceIte, reduceCtorEq, Nat.reduceAdd, Nat.reduceEqDiff, Nat.reduceLT, Nat.reduceLeDiff, Nat.reduceSub, Nat.reduceMul, Nat.reduceBEq, Int.reduceToNat, Int.reduceLE, Int.reduceLT, Int.reducePow]; omega)
    case k3 => simp only [go_sem, kn20, pathF, fdrow_get, fdrow_len, fileD, Try.ntmps20, reduceIte, reduceCtorEq, Nat.reduceAdd, Nat.reduceEqDiff, Nat.reduceLT, Nat.reduceLeDiff, Nat.reduceSub, Nat.reduceMul, Nat.reduceBEq, Int.reduceToNat, Int.reduceLE, Int.reduceLT, Int.reducePow]; rfl
    refine AWp.block ?_
    refine AWp.loop (fun k S => ∃ i : Nat, i ≤ fl.length ∧ k = fl.length - i ∧ S = ⟨[(1, .one (.s (.ptr 0 0))), (3, .one (dv (.bool (headOk n fl && (List.range i).all (fileOk fl))))), (21, .one (.s (.d (.slice z 3 (fdrow fl))))), (22, .one (dv (.int .i64 (fl.length : Int)))), (23, .one (dv (.int .i64 (i : Int))))], [(0, .cells [.d (.int .i64 n), .d (.slice z 3 (fdrow fl))] 32)], 1⟩) fl.length ?i1 ?n1
    case i1 =>
      exact ⟨0, by omega, rfl, by simp [headOk, Bool.and_assoc]⟩
    case n1 =>
      rintro k S ⟨i, hi0, rfl, rfl⟩
      refine AWp.seq ?_
      refine AWp.reg (S1 := ?S4) (ob := ?o4) (S' := ?K4) tab_ok (knowL_ok kn20_ok) mixed [1, 3, 21, 22, 23, 24] ?r4 ?h4 ?k4 ?w4
      case r4 => simp only [go_sem, kn20, pathF, fdrow_get, fdrow_len, fileD, Try.ntmps20, reduceIte, reduceCtorEq, Nat.reduceAdd, Nat.reduceEqDiff, Nat.reduceLT, Nat.reduceLeDiff, Nat.reduceSub, Nat.reduceMul, Nat.reduceBEq, Int.reduceToNat, Int.reduceLE, Int.reduceLT, Int.reducePow]; rfl
      case h4 => first | exact True.intro | omega | (simp only [go_sem, kn20, pathF, fdrow_get, fdrow_len, fileD, Try.ntmps20, reduceIte, reduceCtorEq, Nat.reduceAdd, Nat.reduceEqDiff, Nat.reduceLT, Nat.reduceLeDiff, Nat.reduceSub, Nat.reduceMul, Nat.reduceBEq, Int.reduceToNat, Int.reduceLE, Int.reduceLT, Int.reducePow]; done) | (simp only [go_sem, kn20, pathF, fdrow_get, fdrow_len, fileD, Try.ntmps20, reduceIte, reduceCtorEq, Nat.reduceAdd, Nat.reduceEqDiff, Nat.reduceLT, Nat.reduceLeDiff, Nat.reduceSub, Nat.reduceMul, Nat.reduceBEq, Int.reduceToNat, Int.reduceLE, Int.reduceLT, Int.reducePow]; omega)
      case k4 => simp only [go_sem, kn20, pathF, fdrow_get, fdrow_len, fileD, Try.ntmps20, reduceIte, reduceCtorEq, Nat.reduceAdd, Nat.reduceEqDiff, Nat.reduceLT, Nat.reduceLeDiff, Nat.reduceSub, Nat.reduceMul, Nat.reduceBEq, Int.reduceToNat, Int.reduceLE, Int.reduceLT, Int.reducePow]; rfl
      refine AWp.seq ?_
      refine AWp.cond (b := ?b5) ?c5 ?t5 ?f5
      case c5 => simp only [go_sem, kn20, pathF, fdrow_get, fdrow_len, fileD, Try.ntmps20, reduceIte, reduceCtorEq, Nat.reduceAdd, Nat.reduceEqDiff, Nat.reduceLT, Nat.reduceLeDiff, Nat.reduceSub, Nat.reduceMul, Nat.reduceBEq, Int.reduceToNat, Int.reduceLE, Int.reduceLT, Int.reducePow]; rfl
      case t5 =>
        intro hb1
        have hi : i < fl.length := by simp at hb1; omega
        have hp := h3.path hi
        have hl := h3.1
        refine AWp.skip ?_
        refine AWp.seq ?_
        refine AWp.block ?_
        refine AWp.seq ?_
        refine AWp.reg (S1 := ?S6) (ob := ?o6) (S' := ?K6) tab_ok (knowL_ok kn20_ok) mixed [1, 3, 4, 5, 21, 22, 23] ?r6 ?h6 ?k6 ?w6
        case r6 => simp only [go_sem, kn20, pathF, fdrow_get, fdrow_len, fileD, Try.ntmps20, reduceIte, reduceCtorEq, Nat.reduceAdd, Nat.reduceEqDiff, Nat.reduceLT, Nat.reduceLeDiff, Nat.reduceSub, Nat.reduceMul, Nat.reduceBEq, Int.reduceToNat, Int.reduceLE, Int.reduceLT, Int.reducePow]; rfl
        case h6 => first | exact True.intro | omega | (simp only [go_sem, kn20, pathF, fdrow_get, fdrow_len, fileD, Try.ntmps20, reduceIte, reduceCtorEq, Nat.reduceAdd, Nat.reduceEqDiff, Nat.reduceLT, Nat.reduceLeDiff, Nat.reduceSub, Nat.reduceMul, Nat.reduceBEq, Int.reduceToNat, Int.reduceLE, Int.reduceLT, Int.reducePow]; done) | (simp only [go_sem, kn20, pathF, fdrow_get, fdrow_len, fileD, Try.ntmps20, reduceIte, reduceCtorEq, Nat.reduceAdd, Nat.reduceEqDiff, Nat.reduceLT, Nat.reduceLeDiff, Nat.reduceSub, Nat.reduceMul, Nat.reduceBEq, Int.reduceToNat, Int.reduceLE, Int.reduceLT, Int.reducePow]; omega)
        case k6 => simp only [go_sem, kn20, pathF, fdrow_get, fdrow_len, fileD, Try.ntmps20, reduceIte, reduceCtorEq, Nat.reduceAdd, Nat.reduceEqDiff, Nat.reduceLT, Nat.reduceLeDiff, Nat.reduceSub, Nat.reduceMul, Nat.reduceBEq, Int.reduceToNat, Int.reduceLE, Int.reduceLT, Int.reducePow]; rfl
        refine AWp.drw (S1 := ?S7) (ob := ?o7) (lts := ?t7) (S' := ?K7) tab_ok (knowL_ok kn20_ok) mixed [1, 3, 21, 22, 23] ?r7 ?d7 ?h7 ?k7 ?w7
        case r7 => simp only [go_sem, kn20, pathF, fdrow_get, fdrow_len, fileD, Try.ntmps20, reduceIte, reduceCtorEq, Nat.reduceAdd, Nat.reduceEqDiff, Nat.reduceLT, Nat.reduceLeDiff, Nat.reduceSub, Nat.reduceMul, Nat.reduceBEq, Int.reduceToNat, Int.reduceLE, Int.reduceLT, Int.reducePow, step20]; rfl
        case d7 => first | kernel_rfl | rfl
        case h7 =>
          refine ⟨fun _ => by omega, fun _ => ⟨by omega, by omega⟩, fun h => ?_, fun hX => ⟨fun _ => by rw [hX]; rfl, fun hi0 _ => by rw [hX, hi0]; rfl⟩⟩
          have : ¬ (i : Int) = 0 := by simp only [Bool.and_eq_true, Bool.not_eq_true', decide_eq_false_iff_not] at h; exact h.2
          omega
        case k7 => simp only [go_sem, kn20, pathF, fdrow_get, fdrow_len, fileD, Try.ntmps20, reduceIte, reduceCtorEq, Nat.reduceAdd, Nat.reduceEqDiff, Nat.reduceLT, Nat.reduceLeDiff, Nat.reduceSub, Nat.reduceMul, Nat.reduceBEq, Int.reduceToNat, Int.reduceLE, Int.reduceLT, Int.reducePow]; rfl
        refine AWp.reg (S1 := ?S8) (ob := ?o8) (S' := ?K8) tab_ok (knowL_ok kn20_ok) mixed [1, 3, 21, 22, 23] ?r8 ?h8 ?k8 ?w8
        case r8 => simp only [go_sem, kn20, pathF, fdrow_get, fdrow_len, fileD, Try.ntmps20, reduceIte, reduceCtorEq, Nat.reduceAdd, Nat.reduceEqDiff, Nat.reduceLT, Nat.reduceLeDiff, Nat.reduceSub, Nat.reduceMul, Nat.reduceBEq, Int.reduceToNat, Int.reduceLE, Int.reduceLT, Int.reducePow]; rfl
        case h8 =>
          have hl := h3.1
          omega
        case k8 => simp only [go_sem, kn20, pathF, fdrow_get, fdrow_len, fileD, Try.ntmps20, reduceIte, reduceCtorEq, Nat.reduceAdd, Nat.reduceEqDiff, Nat.reduceLT, Nat.reduceLeDiff, Nat.reduceSub, Nat.reduceMul, Nat.reduceBEq, Int.reduceToNat, Int.reduceLE, Int.reduceLT, Int.reducePow]; rfl
        exact ⟨fl.length - (i + 1), _, by omega, (Conv.keep [1, 3, 21, 22, 23] [0] (by simp)).trans (Conv.rename (S' := ⟨[(1, .one (.s (.ptr 0 0))), (3, .one (dv (.bool (headOk n fl && (List.range (i + 1)).all (fileOk fl))))), (21, .one (.s (.d (.slice z 3 (fdrow fl))))), (22, .one (dv (.int .i64 (fl.length : Int)))), (23, .one (dv (.int .i64 ((i + 1 : Nat) : Int))))], [(0, .cells [.d (.int .i64 n), .d (.slice z 3 (fdrow fl))] 32)], 1⟩) id (by simp) (by simp) (by simp [St.keep, keepE, lookN, AVal.ren, AV.ren, Sc.ren, AVal.ids, AV.ids, Sc.ids, List.range_succ]) (by simp [St.keep, keepE, lookN, AObj.ren, AObj.ids, Sc.ids, Sc.ren]) (by simp)), i + 1, by omega, rfl, rfl⟩
      case f5 =>
        intro hb1
        have hi : i = fl.length := by simp at hb1; omega
        subst hi
        have hl := h3.1
        refine AWp.exit ?_
        refine thenA_exit ?_
        refine thenA_exit ?_
        refine inB_eq ?_
        refine AWp.seq ?_
        refine AWp.reg (S1 := ?S9) (ob := ?o9) (S' := ?K9) tab_ok (knowL_ok kn20_ok) mixed [2] ?r9 ?h9 ?k9 ?w9
        case r9 => simp only [go_sem, kn20, pathF, fdrow_get, fdrow_len, fileD, Try.ntmps20, reduceIte, reduceCtorEq, Nat.reduceAdd, Nat.reduceEqDiff, Nat.reduceLT, Nat.reduceLeDiff, Nat.reduceSub, Nat.reduceMul, Nat.reduceBEq, Int.reduceToNat, Int.reduceLE, Int.reduceLT, Int.reducePow]; rfl
        case h9 => first | exact True.intro | omega | (simp only [go_sem, kn20, pathF, fdrow_get, fdrow_len, fileD, Try.ntmps20, reduceIte, reduceCtorEq, Nat.reduceAdd, Nat.reduceEqDiff, Nat.reduceLT, Nat.reduceLeDiff, Nat.reduceSub, Nat.reduceMul, Nat.reduceBEq, Int.reduceToNat, Int.reduceLE, Int.reduceLT, Int.reducePow]; done) | (simp only [go_sem, kn20, pathF, fdrow_get, fdrow_len, fileD, Try.ntmps20, reduceIte, reduceCtorEq, Nat.reduceAdd, Nat.reduceEqDiff, Nat.reduceLT, Nat.reduceLeDiff, Nat.reduceSub, Nat.reduceMul, Nat.reduceBEq, Int.reduceToNat, Int.reduceLE, Int.reduceLT, Int.reducePow]; omega)
        case k9 => simp only [go_sem, kn20, pathF, fdrow_get, fdrow_len, fileD, Try.ntmps20, reduceIte, reduceCtorEq, Nat.reduceAdd, Nat.reduceEqDiff, Nat.reduceLT, Nat.reduceLeDiff, Nat.reduceSub, Nat.reduceMul, Nat.reduceBEq, Int.reduceToNat, Int.reduceLE, Int.reduceLT, Int.reducePow]; rfl
        refine AWp.ret ?_
        refine ends_p (vs := ?vs1) (ob := ?ro1) (vs' := ?ws1) (ks := ?ks1) (ob2 := ?rp1) tab_ok (by simp) ?er1 ?eo1 ?ef1 ?eg1 ?en1 ?ek1 ?ev1
        case er1 => simp only [go_sem, kn20, pathF, fdrow_get, fdrow_len, fileD, Try.ntmps20, reduceIte, reduceCtorEq, Nat.reduceAdd, Nat.reduceEqDiff, Nat.reduceLT, Nat.reduceLeDiff, Nat.reduceSub, Nat.reduceMul, Nat.reduceBEq, Int.reduceToNat, Int.reduceLE, Int.reduceLT, Int.reducePow, Try.results20]; rfl
        case eo1 => first | exact True.intro | simp only [go_sem, kn20, pathF, fdrow_get, fdrow_len, fileD, Try.ntmps20, reduceIte, reduceCtorEq, Nat.reduceAdd, Nat.reduceEqDiff, Nat.reduceLT, Nat.reduceLeDiff, Nat.reduceSub, Nat.reduceMul, Nat.reduceBEq, Int.reduceToNat, Int.reduceLE, Int.reduceLT, Int.reducePow]
        case ef1 => simp only [go_sem, kn20, pathF, fdrow_get, fdrow_len, fileD, Try.ntmps20, reduceIte, reduceCtorEq, Nat.reduceAdd, Nat.reduceEqDiff, Nat.reduceLT, Nat.reduceLeDiff, Nat.reduceSub, Nat.reduceMul, Nat.reduceBEq, Int.reduceToNat, Int.reduceLE, Int.reduceLT, Int.reducePow]; rfl
        case eg1 => first | exact True.intro | simp only [go_sem, kn20, pathF, fdrow_get, fdrow_len, fileD, Try.ntmps20, reduceIte, reduceCtorEq, Nat.reduceAdd, Nat.reduceEqDiff, Nat.reduceLT, Nat.reduceLeDiff, Nat.reduceSub, Nat.reduceMul, Nat.reduceBEq, Int.reduceToNat, Int.reduceLE, Int.reduceLT, Int.reducePow]
        case en1 => simp only [go_sem, kn20, pathF, fdrow_get, fdrow_len, fileD, Try.ntmps20, reduceIte, reduceCtorEq, Nat.reduceAdd, Nat.reduceEqDiff, Nat.reduceLT, Nat.reduceLeDiff, Nat.reduceSub, Nat.reduceMul, Nat.reduceBEq, Int.reduceToNat, Int.reduceLE, Int.reduceLT, Int.reducePow]
        case ek1 => simp only [go_sem, kn20, pathF, fdrow_get, fdrow_len, fileD, Try.ntmps20, reduceIte, reduceCtorEq, Nat.reduceAdd, Nat.reduceEqDiff, Nat.reduceLT, Nat.reduceLeDiff, Nat.reduceSub, Nat.reduceMul, Nat.reduceBEq, Int.reduceToNat, Int.reduceLE, Int.reduceLT, Int.reducePow]
        case ev1 =>
          rfl
  · cases hq

end Go.Proofs.Hg
