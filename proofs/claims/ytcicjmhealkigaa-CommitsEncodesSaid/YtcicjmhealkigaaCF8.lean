/- slices.Chunk's iterator. -/
import Derived.Test.YtcicjmhealkigaaCF7
set_option linter.unusedSimpArgs false
set_option linter.unusedVariables false
namespace Go.Proofs.Hg
open Go.RowKit
set_option maxRecDepth 100000

def chunkAt (k : Nat) (s : List UInt8) (j : Nat) : List UInt8 := (s.drop (k * j)).take k
def nChunks (k len : Nat) : Nat := (len + k - 1) / k
def chunkDs (z : Option Bool) (k : Nat) (s : List UInt8) : List D := (List.range (nChunks k s.length)).map fun j => .slice z 1 (brow (chunkAt k s j))
theorem nChunks_lt {k len j : Nat} (hk : 1 ≤ k) : k * j < len ↔ j < nChunks k len := by
  unfold nChunks
  rw [Nat.lt_div_iff_mul_lt (by omega)]
  rw [Nat.mul_comm]
  omega
theorem chunkDs_len (z : Option Bool) (k : Nat) (s : List UInt8) : (chunkDs z k s).length = nChunks k s.length := by simp [chunkDs]
theorem chunkDs_get {z : Option Bool} {k : Nat} {s : List UInt8} {j : Nat} (hj : j < nChunks k s.length) : (chunkDs z k s)[j]? = some (.slice z 1 (brow (chunkAt k s j))) := by
  simp [chunkDs, List.getElem?_map, List.getElem?_range hj]

theorem iter36 (z : Option Bool) (s : List UInt8) (k : Nat) (hk : 1 ≤ k) (hb : k + s.length ≤ 9223372036854775807) : IterOk Try.prog 36 [.ptr [.slice z 1 (brow s)], .ptr [.int .i64 (k : Int)]] (chunkDs z k s) := by
  refine iter_ok Try.func36 rfl (by kernel_rfl) (Nat.le_of_ble_eq_true (by kernel_rfl)) rfl ?_
  intro n l G hG hY
  refine AWpG.seq (AWpG.plain hG ?_)
  refine AWp.reg (S1 := ?S1) (ob := ?o1) (S' := ?K1) tab_ok (noKnow _) mixed [0, 1, 2, 4] ?r1 ?h1 ?k1 ?w1
  case r1 => simp only [go_sem, Try.ntmps36, reduceIte, reduceCtorEq, Nat.reduceAdd, Nat.reduceEqDiff, Nat.reduceLT, Nat.reduceLeDiff, Nat.reduceSub, Nat.reduceMul, Nat.reduceBEq, Int.reduceToNat, Int.reduceLE, Int.reduceLT, Int.reducePow]; rfl
  case h1 => first | exact True.intro | (simp only [go_sem, Try.ntmps36, reduceIte, reduceCtorEq, Nat.reduceAdd, Nat.reduceEqDiff, Nat.reduceLT, Nat.reduceLeDiff, Nat.reduceSub, Nat.reduceMul, Nat.reduceBEq, Int.reduceToNat, Int.reduceLE, Int.reduceLT, Int.reducePow]; done)
  case k1 => simp only [go_sem, Try.ntmps36, reduceIte, reduceCtorEq, Nat.reduceAdd, Nat.reduceEqDiff, Nat.reduceLT, Nat.reduceLeDiff, Nat.reduceSub, Nat.reduceMul, Nat.reduceBEq, Int.reduceToNat, Int.reduceLE, Int.reduceLT, Int.reducePow]; rfl
  refine ⟨rfl, ?_⟩
  refine AWpG.block ?_
  refine AWpG.loop (fun q i S => ∃ j : Nat, j ≤ nChunks k s.length ∧ q = nChunks k s.length - j ∧ i = j ∧ S = ⟨[(0, .one (.s (.yield 0))), (1, .one (dv (.ptr [.slice z 1 (brow s)]))), (2, .one (dv (.ptr [.int .i64 (k : Int)]))), (4, .one (dv (.int .i64 ((k * j : Nat) : Int))))], [], 1⟩) (nChunks k s.length) ⟨0, by omega, by omega, rfl, by simp⟩ ?_
  rintro q i S ⟨j, hj, rfl, rfl, rfl⟩
  refine AWpG.seq (AWpG.seq (AWpG.plain hG ?_))
  refine AWp.reg (S1 := ?S2) (ob := ?o2) (S' := ?K2) tab_ok (noKnow _) mixed [0, 1, 2, 4, 9] ?r2 ?h2 ?k2 ?w2
  case r2 => simp only [go_sem, Try.ntmps36, reduceIte, reduceCtorEq, Nat.reduceAdd, Nat.reduceEqDiff, Nat.reduceLT, Nat.reduceLeDiff, Nat.reduceSub, Nat.reduceMul, Nat.reduceBEq, Int.reduceToNat, Int.reduceLE, Int.reduceLT, Int.reducePow]; rfl
  case h2 => first | exact True.intro | (simp only [go_sem, Try.ntmps36, reduceIte, reduceCtorEq, Nat.reduceAdd, Nat.reduceEqDiff, Nat.reduceLT, Nat.reduceLeDiff, Nat.reduceSub, Nat.reduceMul, Nat.reduceBEq, Int.reduceToNat, Int.reduceLE, Int.reduceLT, Int.reducePow]; done) | (simp only [go_sem, Try.ntmps36, reduceIte, reduceCtorEq, Nat.reduceAdd, Nat.reduceEqDiff, Nat.reduceLT, Nat.reduceLeDiff, Nat.reduceSub, Nat.reduceMul, Nat.reduceBEq, Int.reduceToNat, Int.reduceLE, Int.reduceLT, Int.reducePow]; omega)
  case k2 => simp only [go_sem, Try.ntmps36, reduceIte, reduceCtorEq, Nat.reduceAdd, Nat.reduceEqDiff, Nat.reduceLT, Nat.reduceLeDiff, Nat.reduceSub, Nat.reduceMul, Nat.reduceBEq, Int.reduceToNat, Int.reduceLE, Int.reduceLT, Int.reducePow]; rfl
  refine ⟨rfl, ?_⟩
  refine AWpG.cond (b := ?b3) ?c3 ?t3 ?f3
  case c3 => simp only [go_sem, Try.ntmps36, reduceIte, reduceCtorEq, Nat.reduceAdd, Nat.reduceEqDiff, Nat.reduceLT, Nat.reduceLeDiff, Nat.reduceSub, Nat.reduceMul, Nat.reduceBEq, Int.reduceToNat, Int.reduceLE, Int.reduceLT, Int.reducePow]; rfl
  case f3 =>
    intro hb1
    have hge : ¬ k * i < s.length := by simp only [decide_eq_false_iff_not] at hb1; omega
    have hje : i = nChunks k s.length := by
      have h2 : ¬ i < nChunks k s.length := fun h => hge ((nChunks_lt hk).2 h)
      omega
    refine AWpG.plain hG (AWp.exit ⟨rfl, ?_⟩)
    simp only [thenG, inBlockG, reduceIte]
    exact ⟨.inl trivial, by rw [chunkDs_len]; exact hje⟩
  case t3 =>
    intro hb1
    have hlt : k * i < s.length := by simp only [decide_eq_true_eq] at hb1; omega
    have hjn := (nChunks_lt hk).1 hlt
    refine AWpG.plain hG (AWp.skip ⟨rfl, ?_⟩)
    refine AWpG.seq (AWpG.block (AWpG.seq (AWpG.plain hG ?_)))
    refine AWp.drw (S1 := ?S4) (ob := ?o4) (lts := ?t4) (S' := ?K4) tab_ok (noKnow _) mixed [0, 1, 2, 4, 5] ?r4 ?d4 ?h4 ?k4 ?w4
    case r4 => simp only [go_sem, Try.ntmps36, reduceIte, reduceCtorEq, Nat.reduceAdd, Nat.reduceEqDiff, Nat.reduceLT, Nat.reduceLeDiff, Nat.reduceSub, Nat.reduceMul, Nat.reduceBEq, Int.reduceToNat, Int.reduceLE, Int.reduceLT, Int.reducePow]; rfl
    case d4 => rfl
    case h4 =>
      simp only [go_sem, Try.ntmps36, reduceIte, reduceCtorEq, Nat.reduceAdd, Nat.reduceEqDiff, Nat.reduceLT, Nat.reduceLeDiff, Nat.reduceSub, Nat.reduceMul, Nat.reduceBEq, Int.reduceToNat, Int.reduceLE, Int.reduceLT, Int.reducePow]
      omega
    case k4 => simp only [go_sem, Try.ntmps36, reduceIte, reduceCtorEq, Nat.reduceAdd, Nat.reduceEqDiff, Nat.reduceLT, Nat.reduceLeDiff, Nat.reduceSub, Nat.reduceMul, Nat.reduceBEq, Int.reduceToNat, Int.reduceLE, Int.reduceLT, Int.reducePow]; rfl
    refine ⟨rfl, ?_⟩
    refine AWpG.seq ?_
    refine AWpG.yreg (t := ?tt) (u := ?tu) (d := ?td) (ats := ?ta) (ty := ?tty) (pos := ?tp) (after := ?taf) (S1 := ?S5) (S2 := ?S6) (ob1 := ?o5) (ob2 := ?o6) (x := ?x5) tab_ok (noKnow _) hG hY 10 (hop := ?hop) ?hd ?r5 ?h5 ?n5 ?t5 ?u5 ?x5' ?r6 ?h6 ?n6 ?w6
    case hop => rfl
    case hd => decide
    case r5 => simp only [go_sem, Try.ntmps36, reduceIte, reduceCtorEq, Nat.reduceAdd, Nat.reduceEqDiff, Nat.reduceLT, Nat.reduceLeDiff, Nat.reduceSub, Nat.reduceMul, Nat.reduceBEq, Int.reduceToNat, Int.reduceLE, Int.reduceLT, Int.reducePow]; rfl
    case h5 =>
      generalize hL : (if ((s.drop (k * i)).length : Int) < (k : Int) then ((s.drop (k * i)).length : Int) else (k : Int)) = L
      have : 0 ≤ L ∧ ((k * i : Nat) : Int) + L ≤ (s.length : Int) := by
        rw [← hL]
        simp only [List.length_drop]
        split <;> omega
      omega
    case n5 => rfl
    case t5 => simp only [go_sem, Try.ntmps36, reduceIte, reduceCtorEq, Nat.reduceAdd, Nat.reduceEqDiff, Nat.reduceLT, Nat.reduceLeDiff, Nat.reduceSub, Nat.reduceMul, Nat.reduceBEq, Int.reduceToNat, Int.reduceLE, Int.reduceLT, Int.reducePow]
    case u5 => simp only [go_sem, Try.ntmps36, reduceIte, reduceCtorEq, Nat.reduceAdd, Nat.reduceEqDiff, Nat.reduceLT, Nat.reduceLeDiff, Nat.reduceSub, Nat.reduceMul, Nat.reduceBEq, Int.reduceToNat, Int.reduceLE, Int.reduceLT, Int.reducePow]; rfl
    case x5' =>
      rw [chunkDs_get hjn]
      have hmin : ((((k * i : Nat) : Int) + if ((s.drop (k * i)).length : Int) < (k : Int) then ((s.drop (k * i)).length : Int) else (k : Int)).toNat - k * i) = min k (s.drop (k * i)).length := by
        simp only [List.length_drop]
        split <;> omega
      rw [hmin]
      simp only [chunkAt]
      rw [Nat.min_def]
      split
      · rfl
      · rw [List.take_of_length_le (by omega), List.take_of_length_le (Nat.le_refl _)]
    case r6 => simp only [go_sem, Try.ntmps36, reduceIte, reduceCtorEq, Nat.reduceAdd, Nat.reduceEqDiff, Nat.reduceLT, Nat.reduceLeDiff, Nat.reduceSub, Nat.reduceMul, Nat.reduceBEq, Int.reduceToNat, Int.reduceLE, Int.reduceLT, Int.reducePow]; rfl
    case h6 => first | exact True.intro | (simp only [go_sem, Try.ntmps36, reduceIte, reduceCtorEq, Nat.reduceAdd, Nat.reduceEqDiff, Nat.reduceLT, Nat.reduceLeDiff, Nat.reduceSub, Nat.reduceMul, Nat.reduceBEq, Int.reduceToNat, Int.reduceLE, Int.reduceLT, Int.reducePow]; done)
    case n6 => rfl
    refine AWpG.conv (S' := ?S7) hG (Conv.keepT [0, 1, 2, 4, 30] ?k7) ?n7 ?w7
    case k7 => simp only [go_sem, Try.ntmps36, reduceIte, reduceCtorEq, Nat.reduceAdd, Nat.reduceEqDiff, Nat.reduceLT, Nat.reduceLeDiff, Nat.reduceSub, Nat.reduceMul, Nat.reduceBEq, Int.reduceToNat, Int.reduceLE, Int.reduceLT, Int.reducePow]; rfl
    case n7 => rfl
    refine AWpG.cond (b := ?b8) ?c8 ?t8 ?f8
    case c8 => simp only [go_sem, Try.ntmps36, reduceIte, reduceCtorEq, Nat.reduceAdd, Nat.reduceEqDiff, Nat.reduceLT, Nat.reduceLeDiff, Nat.reduceSub, Nat.reduceMul, Nat.reduceBEq, Int.reduceToNat, Int.reduceLE, Int.reduceLT, Int.reducePow]; rfl
    case t8 => intro h; cases h
    case f8 =>
      intro _
      refine AWpG.plain hG (AWp.skip ⟨rfl, ?_⟩)
      refine AWpG.plain hG ?_
      refine AWp.reg (S1 := ?S9) (ob := ?o9) (S' := ?K9) tab_ok (noKnow _) mixed [0, 1, 2, 4] ?r9 ?h9 ?k9 ?w9
      case r9 => simp only [go_sem, Try.ntmps36, reduceIte, reduceCtorEq, Nat.reduceAdd, Nat.reduceEqDiff, Nat.reduceLT, Nat.reduceLeDiff, Nat.reduceSub, Nat.reduceMul, Nat.reduceBEq, Int.reduceToNat, Int.reduceLE, Int.reduceLT, Int.reducePow]; rfl
      case h9 =>
        omega
      case k9 => simp only [go_sem, Try.ntmps36, reduceIte, reduceCtorEq, Nat.reduceAdd, Nat.reduceEqDiff, Nat.reduceLT, Nat.reduceLeDiff, Nat.reduceSub, Nat.reduceMul, Nat.reduceBEq, Int.reduceToNat, Int.reduceLE, Int.reduceLT, Int.reducePow]; rfl
      refine ⟨rfl, nChunks k s.length - (i + 1), by omega, i + 1, by omega, rfl, rfl, ?_⟩
      rw [Nat.mul_add, Nat.mul_one, Int.natCast_add]
end Go.Proofs.Hg
