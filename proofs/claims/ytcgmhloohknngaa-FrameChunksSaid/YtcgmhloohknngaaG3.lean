import Derived.Test.YtcgmhloohknngaaG2
set_option linter.unusedSimpArgs false
set_option linter.unusedVariables false
namespace Go.Proofs.Hg
open Go.RowKit
set_option maxRecDepth 100000
def repOk (id er : Int) (re im : Nat) : Bool := decide (0 ≤ id) && decide (id ≤ 65535) && decide (0 ≤ er) && decide (er ≤ 65535) && wholeB re && wholeB im
def frow (id kind : Int) (b : List UInt8) : List D := [.int .i64 id, .int .i64 kind, .slice none 1 (brow b)]
def chunkRows (id : Int) (s : List UInt8) (n : Nat) : List (List D) := (List.range n).map fun j => frow id 2 (chunkAt 1000 s j)
def two2 (n : Int) : List UInt8 := [u8 (n / 256), u8 n]
def endL (er : Int) (re im : Nat) : List Int := [er, fintV .f64 re, fintV .f64 im]
def endPart (er : Int) (re im : Nat) (i : Nat) : List UInt8 := ((endL er re im).take i).flatMap two2
def repRows (id er : Int) (re im : Nat) (s : List UInt8) : List (List D) := chunkRows id s (nChunks 1000 s.length) ++ [frow id 3 (endPart er re im 3)]
def repV (id er : Int) (re im : Nat) (s : List UInt8) : AVal :=
  if repOk id er re im then .tup [dv (.slice none 3 (repRows id er re im s)), dv (.int .i64 0)] else .tup [dv (.slice (some true) 0 []), dv (.int .i64 231)]
theorem repV_ids (id er : Int) (re im : Nat) (s : List UInt8) : (repV id er re im s).ids = [] ∧ ∀ b x, repV id er re im s ≠ .opt b x := by
  unfold repV
  split <;> simp [AVal.ids, AV.ids, Sc.ids]
theorem chunkRows_len (id : Int) (s : List UInt8) (n : Nat) : (chunkRows id s n).length = n := by simp [chunkRows]
theorem chunkRows_succ (id : Int) (s : List UInt8) (n : Nat) : chunkRows id s (n + 1) = chunkRows id s n ++ [frow id 2 (chunkAt 1000 s n)] := by simp [chunkRows, List.range_succ]
def irow (l : List Int) : List (List D) := l.map fun n => [.int .i64 n]
theorem irow_len (l : List Int) : (irow l).length = l.length := by simp [irow]
theorem irow_get (l : List Int) (i : Nat) : ((irow l).getD i [.int .i64 0]).getD 0 .nilp = .int .i64 (l.getD i 0) := by
  simp only [irow, List.getD_eq_getElem?_getD, List.getElem?_map]
  cases l[i]? <;> rfl
theorem irow_len1 (l : List Int) (i : Nat) : ((irow l).getD i [.int .i64 0]).length = 1 := by
  simp only [irow, List.getD_eq_getElem?_getD, List.getElem?_map]
  cases l[i]? <;> rfl
def repF : List AV → Option (AVal × Prop)
  | [.agg [.d (.int .i64 id), .d (.int .i64 er), .d (.complex .f64 re im), .d (.str s)]] => some (repV id er re im s, s.length ≤ 1000000)
  | _ => none
def kn16 : List (Nat × Cont) := [(34, pureK wholeF), (35, viewK chunkF), (27, twoK)]
theorem kn16_ok : ∀ p ∈ kn16, ContOk Try.prog p.1 p.2 := by
  intro p hp
  simp only [kn16, List.mem_cons, List.not_mem_nil, or_false] at hp
  rcases hp with rfl | rfl | rfl
  · exact wholeF_ok
  · exact viewK_ok chunkF_ok
  · exact twoK_ok
theorem repF_ok : ContOk Try.prog 16 (pureK repF) := by
  refine pure_okM (nargs := 1) Try.func16 rfl (by kernel_rfl) (Nat.le_of_ble_eq_true (by kernel_rfl)) ?_
  intro args q hq hob
  unfold repF at hq
  split at hq
  · rename_i id er re im s
    injection hq with hq
    subst hq
    have hs : s.length ≤ 1000000 := hob
    refine ⟨rfl, by simp [AV.ids, Sc.ids], (repV_ids _ _ _ _ _).1, (repV_ids _ _ _ _ _).2, ?_⟩
    refine AWpM.seq ?_
    refine AWpM.of ?_
    refine AWp.reg (S1 := ?S1) (ob := ?o1) (S' := ?K1) tab_ok (knowL_ok kn16_ok) mixed [1] ?r1 ?h1 ?k1 ?w1
    case r1 => simp only [go_sem, kn16, wholeF, chunkF, twoK, irow_get, irow_len, irow_len1, Try.ntmps16, reduceIte, reduceCtorEq, Nat.reduceAdd, Nat.reduceEqDiff, Nat.reduceLT, Nat.reduceLeDiff, Nat.reduceSub, Nat.reduceMul, Nat.reduceBEq, Int.reduceToNat, Int.reduceLE, Int.reduceLT, Int.reducePow]; rfl
    case h1 => first | exact True.intro | omega | (simp only [go_sem, kn16, wholeF, chunkF, twoK, irow_get, irow_len, irow_len1, Try.ntmps16, reduceIte, reduceCtorEq, Nat.reduceAdd, Nat.reduceEqDiff, Nat.reduceLT, Nat.reduceLeDiff, Nat.reduceSub, Nat.reduceMul, Nat.reduceBEq, Int.reduceToNat, Int.reduceLE, Int.reduceLT, Int.reducePow]; done) | (simp only [go_sem, kn16, wholeF, chunkF, twoK, irow_get, irow_len, irow_len1, Try.ntmps16, reduceIte, reduceCtorEq, Nat.reduceAdd, Nat.reduceEqDiff, Nat.reduceLT, Nat.reduceLeDiff, Nat.reduceSub, Nat.reduceMul, Nat.reduceBEq, Int.reduceToNat, Int.reduceLE, Int.reduceLT, Int.reducePow]; omega)
    case k1 => simp only [go_sem, kn16, wholeF, chunkF, twoK, irow_get, irow_len, irow_len1, Try.ntmps16, reduceIte, reduceCtorEq, Nat.reduceAdd, Nat.reduceEqDiff, Nat.reduceLT, Nat.reduceLeDiff, Nat.reduceSub, Nat.reduceMul, Nat.reduceBEq, Int.reduceToNat, Int.reduceLE, Int.reduceLT, Int.reducePow]; rfl
    refine AWpM.seq ?_
    refine AWpM.of ?_
    refine AWp.seq ?_
    refine AWp.reg (S1 := ?S2) (ob := ?o2) (S' := ?K2) tab_ok (knowL_ok kn16_ok) mixed [1, 40] ?r2 ?h2 ?k2 ?w2
    case r2 => simp only [go_sem, kn16, wholeF, chunkF, twoK, irow_get, irow_len, irow_len1, Try.ntmps16, reduceIte, reduceCtorEq, Nat.reduceAdd, Nat.reduceEqDiff, Nat.reduceLT, Nat.reduceLeDiff, Nat.reduceSub, Nat.reduceMul, Nat.reduceBEq, Int.reduceToNat, Int.reduceLE, Int.reduceLT, Int.reducePow]; rfl
    case h2 => first | exact True.intro | omega | (simp only [go_sem, kn16, wholeF, chunkF, twoK, irow_get, irow_len, irow_len1, Try.ntmps16, reduceIte, reduceCtorEq, Nat.reduceAdd, Nat.reduceEqDiff, Nat.reduceLT, Nat.reduceLeDiff, Nat.reduceSub, Nat.reduceMul, Nat.reduceBEq, Int.reduceToNat, Int.reduceLE, Int.reduceLT, Int.reducePow]; done) | (simp only [go_sem, kn16, wholeF, chunkF, twoK, irow_get, irow_len, irow_len1, Try.ntmps16, reduceIte, reduceCtorEq, Nat.reduceAdd, Nat.reduceEqDiff, Nat.reduceLT, Nat.reduceLeDiff, Nat.reduceSub, Nat.reduceMul, Nat.reduceBEq, Int.reduceToNat, Int.reduceLE, Int.reduceLT, Int.reducePow]; omega)
    case k2 => simp only [go_sem, kn16, wholeF, chunkF, twoK, irow_get, irow_len, irow_len1, Try.ntmps16, reduceIte, reduceCtorEq, Nat.reduceAdd, Nat.reduceEqDiff, Nat.reduceLT, Nat.reduceLeDiff, Nat.reduceSub, Nat.reduceMul, Nat.reduceBEq, Int.reduceToNat, Int.reduceLE, Int.reduceLT, Int.reducePow]; rfl
    refine AWp.cond (b := ?b3) ?c3 ?t3 ?f3
    case c3 => simp only [go_sem, kn16, wholeF, chunkF, twoK, irow_get, irow_len, irow_len1, Try.ntmps16, reduceIte, reduceCtorEq, Nat.reduceAdd, Nat.reduceEqDiff, Nat.reduceLT, Nat.reduceLeDiff, Nat.reduceSub, Nat.reduceMul, Nat.reduceBEq, Int.reduceToNat, Int.reduceLE, Int.reduceLT, Int.reducePow]; rfl
    case t3 =>
      intro hb1
      have hr : ¬ repOk id er re im = true := by
        intro h
        simp only [repOk, Bool.and_eq_true, decide_eq_true_eq] at h
        simp [h.1.2, h.2] at hb1
        omega
      refine AWp.seq ?_
      refine AWp.reg (S1 := ?S4) (ob := ?o4) (S' := ?K4) tab_ok (knowL_ok kn16_ok) mixed [2, 3] ?r4 ?h4 ?k4 ?w4
      case r4 => simp only [go_sem, kn16, wholeF, chunkF, twoK, irow_get, irow_len, irow_len1, Try.ntmps16, reduceIte, reduceCtorEq, Nat.reduceAdd, Nat.reduceEqDiff, Nat.reduceLT, Nat.reduceLeDiff, Nat.reduceSub, Nat.reduceMul, Nat.reduceBEq, Int.reduceToNat, Int.reduceLE, Int.reduceLT, Int.reducePow]; rfl
      case h4 => first | exact True.intro | omega | (simp only [go_sem, kn16, wholeF, chunkF, twoK, irow_get, irow_len, irow_len1, Try.ntmps16, reduceIte, reduceCtorEq, Nat.reduceAdd, Nat.reduceEqDiff, Nat.reduceLT, Nat.reduceLeDiff, Nat.reduceSub, Nat.reduceMul, Nat.reduceBEq, Int.reduceToNat, Int.reduceLE, Int.reduceLT, Int.reducePow]; done) | (simp only [go_sem, kn16, wholeF, chunkF, twoK, irow_get, irow_len, irow_len1, Try.ntmps16, reduceIte, reduceCtorEq, Nat.reduceAdd, Nat.reduceEqDiff, Nat.reduceLT, Nat.reduceLeDiff, Nat.reduceSub, Nat.reduceMul, Nat.reduceBEq, Int.reduceToNat, Int.reduceLE, Int.reduceLT, Int.reducePow]; omega)
      case k4 => simp only [go_sem, kn16, wholeF, chunkF, twoK, irow_get, irow_len, irow_len1, Try.ntmps16, reduceIte, reduceCtorEq, Nat.reduceAdd, Nat.reduceEqDiff, Nat.reduceLT, Nat.reduceLeDiff, Nat.reduceSub, Nat.reduceMul, Nat.reduceBEq, Int.reduceToNat, Int.reduceLE, Int.reduceLT, Int.reducePow]; rfl
      refine AWp.ret ?_
      refine ends_p (vs := ?vs1) (ob := ?ro1) (vs' := ?ws1) (ks := ?ks1) (ob2 := ?rp1) tab_ok (by simp) ?er1 ?eo1 ?ef1 ?eg1 ?en1 ?ek1 ?ev1
      case er1 => simp only [go_sem, kn16, wholeF, chunkF, twoK, irow_get, irow_len, irow_len1, Try.ntmps16, reduceIte, reduceCtorEq, Nat.reduceAdd, Nat.reduceEqDiff, Nat.reduceLT, Nat.reduceLeDiff, Nat.reduceSub, Nat.reduceMul, Nat.reduceBEq, Int.reduceToNat, Int.reduceLE, Int.reduceLT, Int.reducePow, Try.results16]; rfl
      case eo1 => first | exact True.intro | simp only [go_sem, kn16, wholeF, chunkF, twoK, irow_get, irow_len, irow_len1, Try.ntmps16, reduceIte, reduceCtorEq, Nat.reduceAdd, Nat.reduceEqDiff, Nat.reduceLT, Nat.reduceLeDiff, Nat.reduceSub, Nat.reduceMul, Nat.reduceBEq, Int.reduceToNat, Int.reduceLE, Int.reduceLT, Int.reducePow]
      case ef1 => simp only [go_sem, kn16, wholeF, chunkF, twoK, irow_get, irow_len, irow_len1, Try.ntmps16, reduceIte, reduceCtorEq, Nat.reduceAdd, Nat.reduceEqDiff, Nat.reduceLT, Nat.reduceLeDiff, Nat.reduceSub, Nat.reduceMul, Nat.reduceBEq, Int.reduceToNat, Int.reduceLE, Int.reduceLT, Int.reducePow]; rfl
      case eg1 => first | exact True.intro | simp only [go_sem, kn16, wholeF, chunkF, twoK, irow_get, irow_len, irow_len1, Try.ntmps16, reduceIte, reduceCtorEq, Nat.reduceAdd, Nat.reduceEqDiff, Nat.reduceLT, Nat.reduceLeDiff, Nat.reduceSub, Nat.reduceMul, Nat.reduceBEq, Int.reduceToNat, Int.reduceLE, Int.reduceLT, Int.reducePow]
      case en1 => simp only [go_sem, kn16, wholeF, chunkF, twoK, irow_get, irow_len, irow_len1, Try.ntmps16, reduceIte, reduceCtorEq, Nat.reduceAdd, Nat.reduceEqDiff, Nat.reduceLT, Nat.reduceLeDiff, Nat.reduceSub, Nat.reduceMul, Nat.reduceBEq, Int.reduceToNat, Int.reduceLE, Int.reduceLT, Int.reducePow]
      case ek1 => simp only [go_sem, kn16, wholeF, chunkF, twoK, irow_get, irow_len, irow_len1, Try.ntmps16, reduceIte, reduceCtorEq, Nat.reduceAdd, Nat.reduceEqDiff, Nat.reduceLT, Nat.reduceLeDiff, Nat.reduceSub, Nat.reduceMul, Nat.reduceBEq, Int.reduceToNat, Int.reduceLE, Int.reduceLT, Int.reducePow]
      case ev1 =>
        unfold repV
        rw [if_neg hr]; rfl
    case f3 =>
      intro hb1
      have hr : (0 ≤ id ∧ id ≤ 65535 ∧ 0 ≤ er ∧ er ≤ 65535) ∧ wholeB re = true ∧ wholeB im = true := by simp only [Bool.or_eq_false_iff, decide_eq_false_iff_not, Bool.not_eq_false'] at hb1; exact ⟨by omega, hb1.1.2, hb1.2⟩
      obtain ⟨hr1, hr2, hr3⟩ := hr
      have hok : repOk id er re im = true := by simp [repOk, hr1, hr2, hr3]
      obtain ⟨f1, f2, f3, f4, f5⟩ := float_ob (b := re) (by simp only [wholeB, Bool.and_eq_true] at hr2 ⊢; exact hr2.1)
      obtain ⟨g1, g2, g3, g4, g5⟩ := float_ob (b := im) (by simp only [wholeB, Bool.and_eq_true] at hr3 ⊢; exact hr3.1)
      have hnc : nChunks 1000 s.length ≤ 1001 := by unfold nChunks; omega
      refine AWp.skip ?_
      refine AWpM.seq ?_
      refine AWpM.of ?_
      refine AWp.reg (S1 := ?S5) (ob := ?o5) (S' := ?K5) tab_ok (knowL_ok kn16_ok) mixed [1, 4] ?r5 ?h5 ?k5 ?w5
      case r5 => simp only [go_sem, kn16, wholeF, chunkF, twoK, irow_get, irow_len, irow_len1, Try.ntmps16, reduceIte, reduceCtorEq, Nat.reduceAdd, Nat.reduceEqDiff, Nat.reduceLT, Nat.reduceLeDiff, Nat.reduceSub, Nat.reduceMul, Nat.reduceBEq, Int.reduceToNat, Int.reduceLE, Int.reduceLT, Int.reducePow]; rfl
      case h5 => first | exact True.intro | omega | (simp only [go_sem, kn16, wholeF, chunkF, twoK, irow_get, irow_len, irow_len1, Try.ntmps16, reduceIte, reduceCtorEq, Nat.reduceAdd, Nat.reduceEqDiff, Nat.reduceLT, Nat.reduceLeDiff, Nat.reduceSub, Nat.reduceMul, Nat.reduceBEq, Int.reduceToNat, Int.reduceLE, Int.reduceLT, Int.reducePow]; done) | (simp only [go_sem, kn16, wholeF, chunkF, twoK, irow_get, irow_len, irow_len1, Try.ntmps16, reduceIte, reduceCtorEq, Nat.reduceAdd, Nat.reduceEqDiff, Nat.reduceLT, Nat.reduceLeDiff, Nat.reduceSub, Nat.reduceMul, Nat.reduceBEq, Int.reduceToNat, Int.reduceLE, Int.reduceLT, Int.reducePow]; omega)
      case k5 => simp only [go_sem, kn16, wholeF, chunkF, twoK, irow_get, irow_len, irow_len1, Try.ntmps16, reduceIte, reduceCtorEq, Nat.reduceAdd, Nat.reduceEqDiff, Nat.reduceLT, Nat.reduceLeDiff, Nat.reduceSub, Nat.reduceMul, Nat.reduceBEq, Int.reduceToNat, Int.reduceLE, Int.reduceLT, Int.reducePow]; rfl
      refine AWpM.seq ?_
      refine AWpM.seq ?_
      refine AWpM.of ?_
      refine AWp.reg (S1 := ?S6) (ob := ?o6) (S' := ?K6) tab_ok (knowL_ok kn16_ok) mixed [1, 4, 44] ?r6 ?h6 ?k6 ?w6
      case r6 => simp only [go_sem, kn16, wholeF, chunkF, twoK, irow_get, irow_len, irow_len1, Try.ntmps16, reduceIte, reduceCtorEq, Nat.reduceAdd, Nat.reduceEqDiff, Nat.reduceLT, Nat.reduceLeDiff, Nat.reduceSub, Nat.reduceMul, Nat.reduceBEq, Int.reduceToNat, Int.reduceLE, Int.reduceLT, Int.reducePow]; rfl
      case h6 => first | exact True.intro | omega | (simp only [go_sem, kn16, wholeF, chunkF, twoK, irow_get, irow_len, irow_len1, Try.ntmps16, reduceIte, reduceCtorEq, Nat.reduceAdd, Nat.reduceEqDiff, Nat.reduceLT, Nat.reduceLeDiff, Nat.reduceSub, Nat.reduceMul, Nat.reduceBEq, Int.reduceToNat, Int.reduceLE, Int.reduceLT, Int.reducePow]; done) | (simp only [go_sem, kn16, wholeF, chunkF, twoK, irow_get, irow_len, irow_len1, Try.ntmps16, reduceIte, reduceCtorEq, Nat.reduceAdd, Nat.reduceEqDiff, Nat.reduceLT, Nat.reduceLeDiff, Nat.reduceSub, Nat.reduceMul, Nat.reduceBEq, Int.reduceToNat, Int.reduceLE, Int.reduceLT, Int.reducePow]; omega)
      case k6 => simp only [go_sem, kn16, wholeF, chunkF, twoK, irow_get, irow_len, irow_len1, Try.ntmps16, reduceIte, reduceCtorEq, Nat.reduceAdd, Nat.reduceEqDiff, Nat.reduceLT, Nat.reduceLeDiff, Nat.reduceSub, Nat.reduceMul, Nat.reduceBEq, Int.reduceToNat, Int.reduceLE, Int.reduceLT, Int.reducePow]; rfl
      refine AWpM.block ?_
      refine AWpM.conv (Conv.nilCell 1 0 (e := 3) (ety := 30) rfl (by simp) rfl rfl) ?_
      refine AWpM.range (gf := 42) (caps := [.ptr [.slice none 1 (brow s)], .ptr [.int .i64 1000]]) (xs := chunkDs none 1000 s) 2 [(1, .one (.s (.ptr 0 0))), (4, .one (.s (.ptr 1 0)))] (fun i => ([(3, .row (chunkRows id s i) 30), (1, .cells [.row 3 3 0 i none] 43), (0, .cells [.d (.int .i64 id), .d (.int .i64 er), .d (.complex .f64 re im), .d (.str s)] 48)], 4)) (by decide) (by omega) ?g ?it ?h0 ?hE ?rd ?q
      case g => simp only [go_sem, kn16, wholeF, chunkF, twoK, irow_get, irow_len, irow_len1, Try.ntmps16, reduceIte, reduceCtorEq, Nat.reduceAdd, Nat.reduceEqDiff, Nat.reduceLT, Nat.reduceLeDiff, Nat.reduceSub, Nat.reduceMul, Nat.reduceBEq, Int.reduceToNat, Int.reduceLE, Int.reduceLT, Int.reducePow] <;> rfl
      case it => exact iter42 none s 1000 (by omega) (by omega)
      case h0 =>
        exact (Conv.keepT [1, 4] rfl).trans (Conv.eq rfl)
      case hE => simp [AVal.ids, AV.ids, Sc.ids]
      case rd =>
        intro i x hx
        have hi : i < nChunks 1000 s.length := by have := (List.getElem?_eq_some_iff.1 hx).1; rwa [chunkDs_len] at this
        rw [chunkDs_get hi] at hx
        injection hx with hx
        subst hx
        refine AWp.reg (S1 := ?S7) (ob := ?o7) (S' := ?K7) tab_ok (knowL_ok kn16_ok) mixed [1, 4, 5] ?r7 ?h7 ?k7 ?w7
        case r7 => simp only [go_sem, kn16, wholeF, chunkF, twoK, irow_get, irow_len, irow_len1, Try.ntmps16, reduceIte, reduceCtorEq, Nat.reduceAdd, Nat.reduceEqDiff, Nat.reduceLT, Nat.reduceLeDiff, Nat.reduceSub, Nat.reduceMul, Nat.reduceBEq, Int.reduceToNat, Int.reduceLE, Int.reduceLT, Int.reducePow]; rfl
        case h7 => first | exact True.intro | omega | (simp only [go_sem, kn16, wholeF, chunkF, twoK, irow_get, irow_len, irow_len1, Try.ntmps16, reduceIte, reduceCtorEq, Nat.reduceAdd, Nat.reduceEqDiff, Nat.reduceLT, Nat.reduceLeDiff, Nat.reduceSub, Nat.reduceMul, Nat.reduceBEq, Int.reduceToNat, Int.reduceLE, Int.reduceLT, Int.reducePow]; done) | (simp only [go_sem, kn16, wholeF, chunkF, twoK, irow_get, irow_len, irow_len1, Try.ntmps16, reduceIte, reduceCtorEq, Nat.reduceAdd, Nat.reduceEqDiff, Nat.reduceLT, Nat.reduceLeDiff, Nat.reduceSub, Nat.reduceMul, Nat.reduceBEq, Int.reduceToNat, Int.reduceLE, Int.reduceLT, Int.reducePow]; omega)
        case k7 => simp only [go_sem, kn16, wholeF, chunkF, twoK, irow_get, irow_len, irow_len1, Try.ntmps16, reduceIte, reduceCtorEq, Nat.reduceAdd, Nat.reduceEqDiff, Nat.reduceLT, Nat.reduceLeDiff, Nat.reduceSub, Nat.reduceMul, Nat.reduceBEq, Int.reduceToNat, Int.reduceLE, Int.reduceLT, Int.reducePow]; rfl
        refine ⟨rfl, ?_⟩
        refine AWp.block ?_
        refine AWp.reg (S1 := ?S8) (ob := ?o8) (S' := ?K8) tab_ok (knowL_ok kn16_ok) mixed [] ?r8 ?h8 ?k8 ?w8
        case r8 => simp only [go_sem, kn16, wholeF, chunkF, twoK, irow_get, irow_len, irow_len1, Try.ntmps16, reduceIte, reduceCtorEq, Nat.reduceAdd, Nat.reduceEqDiff, Nat.reduceLT, Nat.reduceLeDiff, Nat.reduceSub, Nat.reduceMul, Nat.reduceBEq, Int.reduceToNat, Int.reduceLE, Int.reduceLT, Int.reducePow]; rfl
        case h8 =>
          exact ⟨(chunkRows_len _ _ _).symm, by rw [chunkRows_len]; omega, by rw [chunkRows_len]; omega⟩
        case k8 => simp only [go_sem, kn16, wholeF, chunkF, twoK, irow_get, irow_len, irow_len1, Try.ntmps16, reduceIte, reduceCtorEq, Nat.reduceAdd, Nat.reduceEqDiff, Nat.reduceLT, Nat.reduceLeDiff, Nat.reduceSub, Nat.reduceMul, Nat.reduceBEq, Int.reduceToNat, Int.reduceLE, Int.reduceLT, Int.reducePow]; rfl
        refine ⟨rfl, ⟨[], ((fun i => ([(3, .row (chunkRows id s i) 30), (1, .cells [.row 3 3 0 i none] 43), (0, .cells [.d (.int .i64 id), .d (.int .i64 er), .d (.complex .f64 re im), .d (.str s)] 48)], 4)) (i + 1)).1, 4⟩, Conv.rename (fun j => if j = 3 then 5 else j) (by simp; omega) (by simp) (by simp) ?_ ?_, rfl, rfl⟩
        · simp [lookN, AObj.ren, AObj.ids, Sc.ids, Sc.ren, chunkRows_succ, chunkRows_len, frow]
        · simp
      case q =>
        refine AWpM.of ?_
        refine AWp.seq ?_
        refine AWp.reg (S1 := ?S9) (ob := ?o9) (S' := ?K9) tab_ok (knowL_ok kn16_ok) mixed [1, 4, 6] ?r9 ?h9 ?k9 ?w9
        case r9 => simp only [go_sem, kn16, wholeF, chunkF, twoK, irow_get, irow_len, irow_len1, Try.ntmps16, reduceIte, reduceCtorEq, Nat.reduceAdd, Nat.reduceEqDiff, Nat.reduceLT, Nat.reduceLeDiff, Nat.reduceSub, Nat.reduceMul, Nat.reduceBEq, Int.reduceToNat, Int.reduceLE, Int.reduceLT, Int.reducePow]; rfl
        case h9 => first | exact True.intro | omega | (simp only [go_sem, kn16, wholeF, chunkF, twoK, irow_get, irow_len, irow_len1, Try.ntmps16, reduceIte, reduceCtorEq, Nat.reduceAdd, Nat.reduceEqDiff, Nat.reduceLT, Nat.reduceLeDiff, Nat.reduceSub, Nat.reduceMul, Nat.reduceBEq, Int.reduceToNat, Int.reduceLE, Int.reduceLT, Int.reducePow]; done) | (simp only [go_sem, kn16, wholeF, chunkF, twoK, irow_get, irow_len, irow_len1, Try.ntmps16, reduceIte, reduceCtorEq, Nat.reduceAdd, Nat.reduceEqDiff, Nat.reduceLT, Nat.reduceLeDiff, Nat.reduceSub, Nat.reduceMul, Nat.reduceBEq, Int.reduceToNat, Int.reduceLE, Int.reduceLT, Int.reducePow]; omega)
        case k9 => simp only [go_sem, kn16, wholeF, chunkF, twoK, irow_get, irow_len, irow_len1, Try.ntmps16, reduceIte, reduceCtorEq, Nat.reduceAdd, Nat.reduceEqDiff, Nat.reduceLT, Nat.reduceLeDiff, Nat.reduceSub, Nat.reduceMul, Nat.reduceBEq, Int.reduceToNat, Int.reduceLE, Int.reduceLT, Int.reducePow]; rfl
        refine AWp.seq ?_
        refine AWp.seq ?_
        refine AWp.reg (S1 := ?S10) (ob := ?o10) (S' := ?K10) tab_ok (knowL_ok kn16_ok) mixed [1, 4, 6, 63, 64, 65] ?r10 ?h10 ?k10 ?w10
        case r10 => simp only [go_sem, kn16, wholeF, chunkF, twoK, irow_get, irow_len, irow_len1, Try.ntmps16, reduceIte, reduceCtorEq, Nat.reduceAdd, Nat.reduceEqDiff, Nat.reduceLT, Nat.reduceLeDiff, Nat.reduceSub, Nat.reduceMul, Nat.reduceBEq, Int.reduceToNat, Int.reduceLE, Int.reduceLT, Int.reducePow]; rfl
        case h10 =>
          simp only [go_sem, kn16, wholeF, chunkF, twoK, irow_get, irow_len, irow_len1, Try.ntmps16, reduceIte, reduceCtorEq, Nat.reduceAdd, Nat.reduceEqDiff, Nat.reduceLT, Nat.reduceLeDiff, Nat.reduceSub, Nat.reduceMul, Nat.reduceBEq, Int.reduceToNat, Int.reduceLE, Int.reduceLT, Int.reducePow]
          exact ⟨⟨f1, f2, f3⟩, g1, g2, g3⟩
        case k10 => simp only [go_sem, kn16, wholeF, chunkF, twoK, irow_get, irow_len, irow_len1, Try.ntmps16, reduceIte, reduceCtorEq, Nat.reduceAdd, Nat.reduceEqDiff, Nat.reduceLT, Nat.reduceLeDiff, Nat.reduceSub, Nat.reduceMul, Nat.reduceBEq, Int.reduceToNat, Int.reduceLE, Int.reduceLT, Int.reducePow]; rfl
        refine AWp.block ?_
        refine AWp.conv (Conv.nilT 6 (e := 1) (ety := 5) rfl rfl) ?_
        refine AWp.conv (Conv.keep [1, 4, 6, 63, 64, 65] [5, 4, 3, 1, 0] (by simp [St.nilT])) ?_
        refine AWp.loop (fun k S => ∃ i : Nat, i ≤ 3 ∧ k = 3 - i ∧ S = ⟨[(1, .one (.s (.ptr 0 0))), (4, .one (.s (.ptr 1 0))), (6, .one (.s (.row 5 1 0 (endPart er re im i).length none))), (63, .one (.s (.row 4 1 0 3 none))), (64, .one (dv (.int .i64 3))), (65, .one (dv (.int .i64 (i : Int))))], [(5, .row (brow (endPart er re im i)) 5), (4, .row (irow (endL er re im)) 3), (3, .row (chunkRows id s (nChunks 1000 s.length)) 30), (1, .cells [.row 3 3 0 (nChunks 1000 s.length) none] 43), (0, .cells [.d (.int .i64 id), .d (.int .i64 er), .d (.complex .f64 re im), .d (.str s)] 48)], 6⟩) 3 ?i1 ?n1
        case i1 =>
          exact ⟨0, by omega, rfl, by simp [St.nilT, St.keep, keepE, lookN, endPart, irow, endL, brow, chunkDs_len]⟩
        case n1 =>
          rintro k S ⟨i, hi0, rfl, rfl⟩
          refine AWp.seq ?_
          refine AWp.reg (S1 := ?S11) (ob := ?o11) (S' := ?K11) tab_ok (knowL_ok kn16_ok) mixed [1, 4, 6, 63, 64, 65, 66] ?r11 ?h11 ?k11 ?w11
          case r11 => simp only [go_sem, kn16, wholeF, chunkF, twoK, irow_get, irow_len, irow_len1, Try.ntmps16, reduceIte, reduceCtorEq, Nat.reduceAdd, Nat.reduceEqDiff, Nat.reduceLT, Nat.reduceLeDiff, Nat.reduceSub, Nat.reduceMul, Nat.reduceBEq, Int.reduceToNat, Int.reduceLE, Int.reduceLT, Int.reducePow]; rfl
          case h11 => first | exact True.intro | omega | (simp only [go_sem, kn16, wholeF, chunkF, twoK, irow_get, irow_len, irow_len1, Try.ntmps16, reduceIte, reduceCtorEq, Nat.reduceAdd, Nat.reduceEqDiff, Nat.reduceLT, Nat.reduceLeDiff, Nat.reduceSub, Nat.reduceMul, Nat.reduceBEq, Int.reduceToNat, Int.reduceLE, Int.reduceLT, Int.reducePow]; done) | (simp only [go_sem, kn16, wholeF, chunkF, twoK, irow_get, irow_len, irow_len1, Try.ntmps16, reduceIte, reduceCtorEq, Nat.reduceAdd, Nat.reduceEqDiff, Nat.reduceLT, Nat.reduceLeDiff, Nat.reduceSub, Nat.reduceMul, Nat.reduceBEq, Int.reduceToNat, Int.reduceLE, Int.reduceLT, Int.reducePow]; omega)
          case k11 => simp only [go_sem, kn16, wholeF, chunkF, twoK, irow_get, irow_len, irow_len1, Try.ntmps16, reduceIte, reduceCtorEq, Nat.reduceAdd, Nat.reduceEqDiff, Nat.reduceLT, Nat.reduceLeDiff, Nat.reduceSub, Nat.reduceMul, Nat.reduceBEq, Int.reduceToNat, Int.reduceLE, Int.reduceLT, Int.reducePow]; rfl
          refine AWp.seq ?_
          refine AWp.cond (b := ?b12) ?c12 ?t12 ?f12
          case c12 => simp only [go_sem, kn16, wholeF, chunkF, twoK, irow_get, irow_len, irow_len1, Try.ntmps16, reduceIte, reduceCtorEq, Nat.reduceAdd, Nat.reduceEqDiff, Nat.reduceLT, Nat.reduceLeDiff, Nat.reduceSub, Nat.reduceMul, Nat.reduceBEq, Int.reduceToNat, Int.reduceLE, Int.reduceLT, Int.reducePow]; rfl
          case t12 =>
            intro hb2
            have hi : i < 3 := by simp at hb2; omega
            refine AWp.skip ?_
            refine AWp.seq ?_
            refine AWp.block ?_
            refine AWp.seq ?_
            refine AWp.reg (S1 := ?S13) (ob := ?o13) (S' := ?K13) tab_ok (knowL_ok kn16_ok) mixed [1, 4, 6, 8, 63, 64, 65] ?r13 ?h13 ?k13 ?w13
            case r13 => simp only [go_sem, kn16, wholeF, chunkF, twoK, irow_get, irow_len, irow_len1, Try.ntmps16, reduceIte, reduceCtorEq, Nat.reduceAdd, Nat.reduceEqDiff, Nat.reduceLT, Nat.reduceLeDiff, Nat.reduceSub, Nat.reduceMul, Nat.reduceBEq, Int.reduceToNat, Int.reduceLE, Int.reduceLT, Int.reducePow]; rfl
            case h13 =>
              exact ⟨⟨by omega, by omega⟩, by simp [endL]; omega⟩
            case k13 => simp only [go_sem, kn16, wholeF, chunkF, twoK, irow_get, irow_len, irow_len1, Try.ntmps16, reduceIte, reduceCtorEq, Nat.reduceAdd, Nat.reduceEqDiff, Nat.reduceLT, Nat.reduceLeDiff, Nat.reduceSub, Nat.reduceMul, Nat.reduceBEq, Int.reduceToNat, Int.reduceLE, Int.reduceLT, Int.reducePow]; rfl
            refine AWp.reg (S1 := ?S14) (ob := ?o14) (S' := ?K14) tab_ok (knowL_ok kn16_ok) mixed [1, 4, 6, 63, 64, 65] ?r14 ?h14 ?k14 ?w14
            case r14 => simp only [go_sem, kn16, wholeF, chunkF, twoK, irow_get, irow_len, irow_len1, Try.ntmps16, reduceIte, reduceCtorEq, Nat.reduceAdd, Nat.reduceEqDiff, Nat.reduceLT, Nat.reduceLeDiff, Nat.reduceSub, Nat.reduceMul, Nat.reduceBEq, Int.reduceToNat, Int.reduceLE, Int.reduceLT, Int.reducePow]; rfl
            case h14 =>
              have h3 : i = 0 ∨ i = 1 ∨ i = 2 := by omega
              rcases h3 with rfl | rfl | rfl <;> simp [endL, endPart, two2] <;> omega
            case k14 => simp only [go_sem, kn16, wholeF, chunkF, twoK, irow_get, irow_len, irow_len1, Try.ntmps16, reduceIte, reduceCtorEq, Nat.reduceAdd, Nat.reduceEqDiff, Nat.reduceLT, Nat.reduceLeDiff, Nat.reduceSub, Nat.reduceMul, Nat.reduceBEq, Int.reduceToNat, Int.reduceLE, Int.reduceLT, Int.reducePow]; rfl
            refine AWp.reg (S1 := ?S15) (ob := ?o15) (S' := ?K15) tab_ok (knowL_ok kn16_ok) mixed [1, 4, 6, 63, 64, 65] ?r15 ?h15 ?k15 ?w15
            case r15 => simp only [go_sem, kn16, wholeF, chunkF, twoK, irow_get, irow_len, irow_len1, Try.ntmps16, reduceIte, reduceCtorEq, Nat.reduceAdd, Nat.reduceEqDiff, Nat.reduceLT, Nat.reduceLeDiff, Nat.reduceSub, Nat.reduceMul, Nat.reduceBEq, Int.reduceToNat, Int.reduceLE, Int.reduceLT, Int.reducePow]; rfl
            case h15 => first | exact True.intro | omega | (simp only [go_sem, kn16, wholeF, chunkF, twoK, irow_get, irow_len, irow_len1, Try.ntmps16, reduceIte, reduceCtorEq, Nat.reduceAdd, Nat.reduceEqDiff, Nat.reduceLT, Nat.reduceLeDiff, Nat.reduceSub, Nat.reduceMul, Nat.reduceBEq, Int.reduceToNat, Int.reduceLE, Int.reduceLT, Int.reducePow]; done) | (simp only [go_sem, kn16, wholeF, chunkF, twoK, irow_get, irow_len, irow_len1, Try.ntmps16, reduceIte, reduceCtorEq, Nat.reduceAdd, Nat.reduceEqDiff, Nat.reduceLT, Nat.reduceLeDiff, Nat.reduceSub, Nat.reduceMul, Nat.reduceBEq, Int.reduceToNat, Int.reduceLE, Int.reduceLT, Int.reducePow]; omega)
            case k15 => simp only [go_sem, kn16, wholeF, chunkF, twoK, irow_get, irow_len, irow_len1, Try.ntmps16, reduceIte, reduceCtorEq, Nat.reduceAdd, Nat.reduceEqDiff, Nat.reduceLT, Nat.reduceLeDiff, Nat.reduceSub, Nat.reduceMul, Nat.reduceBEq, Int.reduceToNat, Int.reduceLE, Int.reduceLT, Int.reducePow]; rfl
            have hT : endPart er re im (i + 1) = (endPart er re im i ++ [u8 ((endL er re im).getD i 0 / 256), u8 ((endL er re im).getD i 0)]) := by simp only [endPart]; rw [take_one (l := endL er re im) (i := i) (by simp [endL]; omega) 0]; simp [two2]
            refine ⟨3 - (i + 1), ⟨[(1, .one (.s (.ptr 0 0))), (4, .one (.s (.ptr 1 0))), (6, .one (.s (.row 5 1 0 (endPart er re im i ++ [u8 ((endL er re im).getD i 0 / 256), u8 ((endL er re im).getD i 0)]).length none))), (63, .one (.s (.row 4 1 0 3 none))), (64, .one (dv (.int .i64 3))), (65, .one (dv (.int .i64 ((i + 1 : Nat) : Int))))], [(5, .row (brow (endPart er re im i ++ [u8 ((endL er re im).getD i 0 / 256), u8 ((endL er re im).getD i 0)])) 5), (4, .row (irow (endL er re im)) 3), (3, .row (chunkRows id s (nChunks 1000 s.length)) 30), (1, .cells [.row 3 3 0 (nChunks 1000 s.length) none] 43), (0, .cells [.d (.int .i64 id), .d (.int .i64 er), .d (.complex .f64 re im), .d (.str s)] 48)], 6⟩, by omega, ?_, i + 1, by omega, rfl, by rw [hT]⟩
            · refine Conv.rename (fun j => if j = 5 then 6 else j) (by simp) (by simp) ?_ ?_ ?_
              · simp [lookN, AVal.ren, AV.ren, Sc.ren, AVal.ids, AV.ids, Sc.ids]
              · simp [lookN, AObj.ren, AObj.ids, Sc.ids, Sc.ren, brow_append]
              · simp
          case f12 =>
            intro hb2
            have hi : i = 3 := by simp at hb2; omega
            subst hi
            refine AWp.exit ?_
            refine thenA_exit ?_
            refine thenA_exit ?_
            refine inB_eq ?_
            refine AWp.seq ?_
            refine AWp.reg (S1 := ?S16) (ob := ?o16) (S' := ?K16) tab_ok (knowL_ok kn16_ok) mixed [2, 3] ?r16 ?h16 ?k16 ?w16
            case r16 => simp only [go_sem, kn16, wholeF, chunkF, twoK, irow_get, irow_len, irow_len1, Try.ntmps16, reduceIte, reduceCtorEq, Nat.reduceAdd, Nat.reduceEqDiff, Nat.reduceLT, Nat.reduceLeDiff, Nat.reduceSub, Nat.reduceMul, Nat.reduceBEq, Int.reduceToNat, Int.reduceLE, Int.reduceLT, Int.reducePow]; rfl
            case h16 =>
              rw [chunkRows_len]
              exact ⟨rfl, by omega, by omega⟩
            case k16 => simp only [go_sem, kn16, wholeF, chunkF, twoK, irow_get, irow_len, irow_len1, Try.ntmps16, reduceIte, reduceCtorEq, Nat.reduceAdd, Nat.reduceEqDiff, Nat.reduceLT, Nat.reduceLeDiff, Nat.reduceSub, Nat.reduceMul, Nat.reduceBEq, Int.reduceToNat, Int.reduceLE, Int.reduceLT, Int.reducePow]; rfl
            refine AWp.ret ?_
            refine ends_p (vs := ?vs2) (ob := ?ro2) (vs' := ?ws2) (ks := ?ks2) (ob2 := ?rp2) tab_ok (by simp) ?er2 ?eo2 ?ef2 ?eg2 ?en2 ?ek2 ?ev2
            case er2 => simp only [go_sem, kn16, wholeF, chunkF, twoK, irow_get, irow_len, irow_len1, Try.ntmps16, reduceIte, reduceCtorEq, Nat.reduceAdd, Nat.reduceEqDiff, Nat.reduceLT, Nat.reduceLeDiff, Nat.reduceSub, Nat.reduceMul, Nat.reduceBEq, Int.reduceToNat, Int.reduceLE, Int.reduceLT, Int.reducePow, Try.results16]; rfl
            case eo2 => first | exact True.intro | simp only [go_sem, kn16, wholeF, chunkF, twoK, irow_get, irow_len, irow_len1, Try.ntmps16, reduceIte, reduceCtorEq, Nat.reduceAdd, Nat.reduceEqDiff, Nat.reduceLT, Nat.reduceLeDiff, Nat.reduceSub, Nat.reduceMul, Nat.reduceBEq, Int.reduceToNat, Int.reduceLE, Int.reduceLT, Int.reducePow]
            case ef2 => simp only [go_sem, kn16, wholeF, chunkF, twoK, irow_get, irow_len, irow_len1, Try.ntmps16, reduceIte, reduceCtorEq, Nat.reduceAdd, Nat.reduceEqDiff, Nat.reduceLT, Nat.reduceLeDiff, Nat.reduceSub, Nat.reduceMul, Nat.reduceBEq, Int.reduceToNat, Int.reduceLE, Int.reduceLT, Int.reducePow]; rfl
            case eg2 => first | exact True.intro | simp only [go_sem, kn16, wholeF, chunkF, twoK, irow_get, irow_len, irow_len1, Try.ntmps16, reduceIte, reduceCtorEq, Nat.reduceAdd, Nat.reduceEqDiff, Nat.reduceLT, Nat.reduceLeDiff, Nat.reduceSub, Nat.reduceMul, Nat.reduceBEq, Int.reduceToNat, Int.reduceLE, Int.reduceLT, Int.reducePow]
            case en2 => simp only [go_sem, kn16, wholeF, chunkF, twoK, irow_get, irow_len, irow_len1, Try.ntmps16, reduceIte, reduceCtorEq, Nat.reduceAdd, Nat.reduceEqDiff, Nat.reduceLT, Nat.reduceLeDiff, Nat.reduceSub, Nat.reduceMul, Nat.reduceBEq, Int.reduceToNat, Int.reduceLE, Int.reduceLT, Int.reducePow]
            case ek2 => simp only [go_sem, kn16, wholeF, chunkF, twoK, irow_get, irow_len, irow_len1, Try.ntmps16, reduceIte, reduceCtorEq, Nat.reduceAdd, Nat.reduceEqDiff, Nat.reduceLT, Nat.reduceLeDiff, Nat.reduceSub, Nat.reduceMul, Nat.reduceBEq, Int.reduceToNat, Int.reduceLE, Int.reduceLT, Int.reducePow]
            case ev2 =>
              unfold repV
              rw [if_pos hok]; rfl
  · cases hq

end Go.Proofs.Hg
