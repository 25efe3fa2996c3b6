import Derived.Test.YtcicjmhealkigaaCF8
set_option linter.unusedSimpArgs false
set_option linter.unusedVariables false
set_option maxHeartbeats 4000000
namespace Go.Proofs.Hg
open Go.RowKit
set_option maxRecDepth 100000
def chunkF : List AV → Option (AVal × Prop)
  | [.s (.d (.slice z e es)), .s (.d (.int .i64 n))] => some (.one (dv (.func 36 [.ptr [.slice z e es], .ptr [.int .i64 n]])), 1 ≤ n)
  | _ => none
theorem chunkF_ok : ContOk Try.prog 22 (pureK chunkF) := by
  refine pure_ok (nargs := 2) Try.func22 rfl (by kernel_rfl) (Nat.le_of_ble_eq_true (by kernel_rfl)) ?_
  intro args q hq hob
  unfold chunkF at hq
  split at hq
  · rename_i z e es n
    injection hq with hq
    subst hq
    have hn : 1 ≤ n := hob
    refine ⟨rfl, by simp [AV.ids, Sc.ids], by simp [AVal.ids, AV.ids, Sc.ids], by simp, ?_⟩
    refine AWp.seq ?_
    refine AWp.reg (S1 := ?S1) (ob := ?o1) (S' := ?K1) tab_ok (noKnow _) mixed [2, 3] ?r1 ?h1 ?k1 ?w1
    case r1 => simp only [go_sem, Try.ntmps22, reduceIte, reduceCtorEq, Nat.reduceAdd, Nat.reduceEqDiff, Nat.reduceLT, Nat.reduceLeDiff, Nat.reduceSub, Nat.reduceMul, Nat.reduceBEq, Int.reduceToNat, Int.reduceLE, Int.reduceLT, Int.reducePow]; rfl
    case h1 => first | exact True.intro | omega | (simp only [go_sem, Try.ntmps22, reduceIte, reduceCtorEq, Nat.reduceAdd, Nat.reduceEqDiff, Nat.reduceLT, Nat.reduceLeDiff, Nat.reduceSub, Nat.reduceMul, Nat.reduceBEq, Int.reduceToNat, Int.reduceLE, Int.reduceLT, Int.reducePow]; done) | (simp only [go_sem, Try.ntmps22, reduceIte, reduceCtorEq, Nat.reduceAdd, Nat.reduceEqDiff, Nat.reduceLT, Nat.reduceLeDiff, Nat.reduceSub, Nat.reduceMul, Nat.reduceBEq, Int.reduceToNat, Int.reduceLE, Int.reduceLT, Int.reducePow]; omega)
    case k1 => simp only [go_sem, Try.ntmps22, reduceIte, reduceCtorEq, Nat.reduceAdd, Nat.reduceEqDiff, Nat.reduceLT, Nat.reduceLeDiff, Nat.reduceSub, Nat.reduceMul, Nat.reduceBEq, Int.reduceToNat, Int.reduceLE, Int.reduceLT, Int.reducePow]; rfl
    refine AWp.seq ?_
    refine AWp.seq ?_
    refine AWp.reg (S1 := ?S2) (ob := ?o2) (S' := ?K2) tab_ok (noKnow _) mixed [2, 3, 6] ?r2 ?h2 ?k2 ?w2
    case r2 => simp only [go_sem, Try.ntmps22, reduceIte, reduceCtorEq, Nat.reduceAdd, Nat.reduceEqDiff, Nat.reduceLT, Nat.reduceLeDiff, Nat.reduceSub, Nat.reduceMul, Nat.reduceBEq, Int.reduceToNat, Int.reduceLE, Int.reduceLT, Int.reducePow]; rfl
    case h2 => first | exact True.intro | omega | (simp only [go_sem, Try.ntmps22, reduceIte, reduceCtorEq, Nat.reduceAdd, Nat.reduceEqDiff, Nat.reduceLT, Nat.reduceLeDiff, Nat.reduceSub, Nat.reduceMul, Nat.reduceBEq, Int.reduceToNat, Int.reduceLE, Int.reduceLT, Int.reducePow]; done) | (simp only [go_sem, Try.ntmps22, reduceIte, reduceCtorEq, Nat.reduceAdd, Nat.reduceEqDiff, Nat.reduceLT, Nat.reduceLeDiff, Nat.reduceSub, Nat.reduceMul, Nat.reduceBEq, Int.reduceToNat, Int.reduceLE, Int.reduceLT, Int.reducePow]; omega)
    case k2 => simp only [go_sem, Try.ntmps22, reduceIte, reduceCtorEq, Nat.reduceAdd, Nat.reduceEqDiff, Nat.reduceLT, Nat.reduceLeDiff, Nat.reduceSub, Nat.reduceMul, Nat.reduceBEq, Int.reduceToNat, Int.reduceLE, Int.reduceLT, Int.reducePow]; rfl
    refine AWp.cond (b := ?b3) ?c3 ?t3 ?f3
    case c3 => simp only [go_sem, Try.ntmps22, reduceIte, reduceCtorEq, Nat.reduceAdd, Nat.reduceEqDiff, Nat.reduceLT, Nat.reduceLeDiff, Nat.reduceSub, Nat.reduceMul, Nat.reduceBEq, Int.reduceToNat, Int.reduceLE, Int.reduceLT, Int.reducePow]; rfl
    case t3 =>
      intro hb1
      exfalso; simp at hb1; omega
    case f3 =>
      intro hb1
      refine AWp.skip ?_
      refine AWp.seq ?_
      refine AWp.reg (S1 := ?S4) (ob := ?o4) (S' := ?K4) tab_ok (noKnow _) mixed [4] ?r4 ?h4 ?k4 ?w4
      case r4 => simp only [go_sem, Try.ntmps22, reduceIte, reduceCtorEq, Nat.reduceAdd, Nat.reduceEqDiff, Nat.reduceLT, Nat.reduceLeDiff, Nat.reduceSub, Nat.reduceMul, Nat.reduceBEq, Int.reduceToNat, Int.reduceLE, Int.reduceLT, Int.reducePow]; rfl
      case h4 => first | exact True.intro | omega | (simp only [go_sem, Try.ntmps22, reduceIte, reduceCtorEq, Nat.reduceAdd, Nat.reduceEqDiff, Nat.reduceLT, Nat.reduceLeDiff, Nat.reduceSub, Nat.reduceMul, Nat.reduceBEq, Int.reduceToNat, Int.reduceLE, Int.reduceLT, Int.reducePow]; done) | (simp only [go_sem, Try.ntmps22, reduceIte, reduceCtorEq, Nat.reduceAdd, Nat.reduceEqDiff, Nat.reduceLT, Nat.reduceLeDiff, Nat.reduceSub, Nat.reduceMul, Nat.reduceBEq, Int.reduceToNat, Int.reduceLE, Int.reduceLT, Int.reducePow]; omega)
      case k4 => simp only [go_sem, Try.ntmps22, reduceIte, reduceCtorEq, Nat.reduceAdd, Nat.reduceEqDiff, Nat.reduceLT, Nat.reduceLeDiff, Nat.reduceSub, Nat.reduceMul, Nat.reduceBEq, Int.reduceToNat, Int.reduceLE, Int.reduceLT, Int.reducePow]; rfl
      refine AWp.conv (Conv.funcAt 4 rfl rfl (by simp) (by simp)) ?_
      refine AWp.ret ?_
      refine ends_p (vs := ?vs1) (ob := ?ro1) (vs' := ?ws1) (ks := ?ks1) (ob2 := ?rp1) tab_ok (by simp) ?er1 ?eo1 ?ef1 ?eg1 ?en1 ?ek1 ?ev1
      case er1 => simp only [go_sem, Try.ntmps22, reduceIte, reduceCtorEq, Nat.reduceAdd, Nat.reduceEqDiff, Nat.reduceLT, Nat.reduceLeDiff, Nat.reduceSub, Nat.reduceMul, Nat.reduceBEq, Int.reduceToNat, Int.reduceLE, Int.reduceLT, Int.reducePow, Try.results22]; rfl
      case eo1 => first | exact True.intro | simp only [go_sem, Try.ntmps22, reduceIte, reduceCtorEq, Nat.reduceAdd, Nat.reduceEqDiff, Nat.reduceLT, Nat.reduceLeDiff, Nat.reduceSub, Nat.reduceMul, Nat.reduceBEq, Int.reduceToNat, Int.reduceLE, Int.reduceLT, Int.reducePow]
      case ef1 => simp only [go_sem, Try.ntmps22, reduceIte, reduceCtorEq, Nat.reduceAdd, Nat.reduceEqDiff, Nat.reduceLT, Nat.reduceLeDiff, Nat.reduceSub, Nat.reduceMul, Nat.reduceBEq, Int.reduceToNat, Int.reduceLE, Int.reduceLT, Int.reducePow]; rfl
      case eg1 => first | exact True.intro | simp only [go_sem, Try.ntmps22, reduceIte, reduceCtorEq, Nat.reduceAdd, Nat.reduceEqDiff, Nat.reduceLT, Nat.reduceLeDiff, Nat.reduceSub, Nat.reduceMul, Nat.reduceBEq, Int.reduceToNat, Int.reduceLE, Int.reduceLT, Int.reducePow]
      case en1 => simp only [go_sem, Try.ntmps22, reduceIte, reduceCtorEq, Nat.reduceAdd, Nat.reduceEqDiff, Nat.reduceLT, Nat.reduceLeDiff, Nat.reduceSub, Nat.reduceMul, Nat.reduceBEq, Int.reduceToNat, Int.reduceLE, Int.reduceLT, Int.reducePow]
      case ek1 => simp only [go_sem, Try.ntmps22, reduceIte, reduceCtorEq, Nat.reduceAdd, Nat.reduceEqDiff, Nat.reduceLT, Nat.reduceLeDiff, Nat.reduceSub, Nat.reduceMul, Nat.reduceBEq, Int.reduceToNat, Int.reduceLE, Int.reduceLT, Int.reducePow]
      case ev1 =>
        first | rfl | simp only [go_sem, Try.ntmps22, reduceIte, reduceCtorEq, Nat.reduceAdd, Nat.reduceEqDiff, Nat.reduceLT, Nat.reduceLeDiff, Nat.reduceSub, Nat.reduceMul, Nat.reduceBEq, Int.reduceToNat, Int.reduceLE, Int.reduceLT, Int.reducePow]
  · cases hq

def crow (z : Option Bool) (k : Nat) (s : List UInt8) (n : Nat) : List (List D) := (List.range n).map fun j => [.slice z 1 (brow (chunkAt k s j))]
theorem crow_len (z : Option Bool) (k : Nat) (s : List UInt8) (n : Nat) : (crow z k s n).length = n := by simp [crow]
theorem crow_succ (z : Option Bool) (k : Nat) (s : List UInt8) (n : Nat) : crow z k s (n + 1) = crow z k s n ++ [[.slice z 1 (brow (chunkAt k s n))]] := by simp [crow, List.range_succ]
def pieceD (z : Option Bool) (k : Int) (es : List (List D)) : D := .slice none 1 (crow z k.toNat (unb es) (nChunks k.toNat es.length))
def appF : List AV → Option (AVal × Prop)
  | [.s (.d (.slice (some true) e0 [])), .s (.d (.func 36 [.ptr [.slice z e es], .ptr [.int .i64 k]]))] => some (.one (dv (pieceD z k es)), e = 1 ∧ es = brow (unb es) ∧ es.length ≤ 1000000000 ∧ 1 ≤ k ∧ k ≤ 1000000000)
  | _ => none
theorem appF_ok : ContOk Try.prog 35 (pureK appF) := by
  refine pure_okM (nargs := 2) Try.func35 rfl (by kernel_rfl) (Nat.le_of_ble_eq_true (by kernel_rfl)) ?_
  intro args q hq hob
  unfold appF at hq
  split at hq
  · rename_i e0 z e es k
    injection hq with hq
    subst hq
    obtain ⟨h1, h2, h3, h4, h5⟩ : e = 1 ∧ es = brow (unb es) ∧ es.length ≤ 1000000000 ∧ 1 ≤ k ∧ k ≤ 1000000000 := hob
    subst h1
    have hbl : es.length = (unb es).length := by simp [unb]
    have hkk : (k.toNat : Int) = k := by omega
    have hnc : nChunks k.toNat (unb es).length ≤ 1000000000 := by
      unfold nChunks
      refine Nat.div_le_of_le_mul ?_
      have : 1 * 1000000000 ≤ k.toNat * 1000000000 := Nat.mul_le_mul_right _ (by omega)
      have : k.toNat * 1000000000 = k.toNat * 999999999 + k.toNat := by omega
      omega
    refine ⟨rfl, by simp [AV.ids, Sc.ids], by simp [AVal.ids, AV.ids, Sc.ids], by simp, ?_⟩
    refine AWpM.seq ?_
    refine AWpM.of ?_
    refine AWp.reg (S1 := ?S1) (ob := ?o1) (S' := ?K1) tab_ok (noKnow _) mixed [1, 2] ?r1 ?h1 ?k1 ?w1
    case r1 => simp only [go_sem, Try.ntmps35, reduceIte, reduceCtorEq, Nat.reduceAdd, Nat.reduceEqDiff, Nat.reduceLT, Nat.reduceLeDiff, Nat.reduceSub, Nat.reduceMul, Nat.reduceBEq, Int.reduceToNat, Int.reduceLE, Int.reduceLT, Int.reducePow]; rfl
    case h1 => first | exact True.intro | omega | (simp only [go_sem, Try.ntmps35, reduceIte, reduceCtorEq, Nat.reduceAdd, Nat.reduceEqDiff, Nat.reduceLT, Nat.reduceLeDiff, Nat.reduceSub, Nat.reduceMul, Nat.reduceBEq, Int.reduceToNat, Int.reduceLE, Int.reduceLT, Int.reducePow]; done) | (simp only [go_sem, Try.ntmps35, reduceIte, reduceCtorEq, Nat.reduceAdd, Nat.reduceEqDiff, Nat.reduceLT, Nat.reduceLeDiff, Nat.reduceSub, Nat.reduceMul, Nat.reduceBEq, Int.reduceToNat, Int.reduceLE, Int.reduceLT, Int.reducePow]; omega)
    case k1 => simp only [go_sem, Try.ntmps35, reduceIte, reduceCtorEq, Nat.reduceAdd, Nat.reduceEqDiff, Nat.reduceLT, Nat.reduceLeDiff, Nat.reduceSub, Nat.reduceMul, Nat.reduceBEq, Int.reduceToNat, Int.reduceLE, Int.reduceLT, Int.reducePow]; rfl
    refine AWpM.seq ?_
    refine AWpM.seq ?_
    refine AWpM.of ?_
    refine AWp.reg (S1 := ?S2) (ob := ?o2) (S' := ?K2) tab_ok (noKnow _) mixed [2, 6] ?r2 ?h2 ?k2 ?w2
    case r2 => simp only [go_sem, Try.ntmps35, reduceIte, reduceCtorEq, Nat.reduceAdd, Nat.reduceEqDiff, Nat.reduceLT, Nat.reduceLeDiff, Nat.reduceSub, Nat.reduceMul, Nat.reduceBEq, Int.reduceToNat, Int.reduceLE, Int.reduceLT, Int.reducePow]; rfl
    case h2 => first | exact True.intro | omega | (simp only [go_sem, Try.ntmps35, reduceIte, reduceCtorEq, Nat.reduceAdd, Nat.reduceEqDiff, Nat.reduceLT, Nat.reduceLeDiff, Nat.reduceSub, Nat.reduceMul, Nat.reduceBEq, Int.reduceToNat, Int.reduceLE, Int.reduceLT, Int.reducePow]; done) | (simp only [go_sem, Try.ntmps35, reduceIte, reduceCtorEq, Nat.reduceAdd, Nat.reduceEqDiff, Nat.reduceLT, Nat.reduceLeDiff, Nat.reduceSub, Nat.reduceMul, Nat.reduceBEq, Int.reduceToNat, Int.reduceLE, Int.reduceLT, Int.reducePow]; omega)
    case k2 => simp only [go_sem, Try.ntmps35, reduceIte, reduceCtorEq, Nat.reduceAdd, Nat.reduceEqDiff, Nat.reduceLT, Nat.reduceLeDiff, Nat.reduceSub, Nat.reduceMul, Nat.reduceBEq, Int.reduceToNat, Int.reduceLE, Int.reduceLT, Int.reducePow]; rfl
    refine AWpM.block ?_
    refine AWpM.conv (Conv.nilCell 0 0 (e := 1) (ety := 38) rfl (by simp) rfl rfl) ?_
    refine AWpM.range (gf := 36) (caps := [.ptr [.slice z 1 es], .ptr [.int .i64 k]]) (xs := chunkDs z k.toNat (unb es)) 1 [(2, .one (.s (.ptr 0 0)))] (fun i => ([(1, .row (crow z k.toNat (unb es) i) 38), (0, .cells [.row 1 1 0 i none] 27)], 2)) (by decide) (by omega) ?g ?it ?h0 ?hE ?rd ?q
    case g => simp only [go_sem, Try.ntmps35, reduceIte, reduceCtorEq, Nat.reduceAdd, Nat.reduceEqDiff, Nat.reduceLT, Nat.reduceLeDiff, Nat.reduceSub, Nat.reduceMul, Nat.reduceBEq, Int.reduceToNat, Int.reduceLE, Int.reduceLT, Int.reducePow] <;> rfl
    case it => have := iter36 z (unb es) k.toNat (by omega) (by omega); rw [← h2, hkk] at this; exact this
    case h0 =>
      exact (Conv.keepT [2] rfl).trans (Conv.eq rfl)
    case hE => simp [AVal.ids, AV.ids, Sc.ids]
    case rd =>
      intro i x hx
      have hi : i < nChunks k.toNat (unb es).length := by have := (List.getElem?_eq_some_iff.1 hx).1; rwa [chunkDs_len] at this
      rw [chunkDs_get hi] at hx
      injection hx with hx
      subst hx
      refine AWp.reg (S1 := ?S3) (ob := ?o3) (S' := ?K3) tab_ok (noKnow _) mixed [2, 5] ?r3 ?h3 ?k3 ?w3
      case r3 => simp only [go_sem, Try.ntmps35, reduceIte, reduceCtorEq, Nat.reduceAdd, Nat.reduceEqDiff, Nat.reduceLT, Nat.reduceLeDiff, Nat.reduceSub, Nat.reduceMul, Nat.reduceBEq, Int.reduceToNat, Int.reduceLE, Int.reduceLT, Int.reducePow]; rfl
      case h3 => first | exact True.intro | omega | (simp only [go_sem, Try.ntmps35, reduceIte, reduceCtorEq, Nat.reduceAdd, Nat.reduceEqDiff, Nat.reduceLT, Nat.reduceLeDiff, Nat.reduceSub, Nat.reduceMul, Nat.reduceBEq, Int.reduceToNat, Int.reduceLE, Int.reduceLT, Int.reducePow]; done) | (simp only [go_sem, Try.ntmps35, reduceIte, reduceCtorEq, Nat.reduceAdd, Nat.reduceEqDiff, Nat.reduceLT, Nat.reduceLeDiff, Nat.reduceSub, Nat.reduceMul, Nat.reduceBEq, Int.reduceToNat, Int.reduceLE, Int.reduceLT, Int.reducePow]; omega)
      case k3 => simp only [go_sem, Try.ntmps35, reduceIte, reduceCtorEq, Nat.reduceAdd, Nat.reduceEqDiff, Nat.reduceLT, Nat.reduceLeDiff, Nat.reduceSub, Nat.reduceMul, Nat.reduceBEq, Int.reduceToNat, Int.reduceLE, Int.reduceLT, Int.reducePow]; rfl
      refine ⟨rfl, ?_⟩
      refine AWp.block ?_
      refine AWp.reg (S1 := ?S4) (ob := ?o4) (S' := ?K4) tab_ok (noKnow _) mixed [] ?r4 ?h4 ?k4 ?w4
      case r4 => simp only [go_sem, Try.ntmps35, reduceIte, reduceCtorEq, Nat.reduceAdd, Nat.reduceEqDiff, Nat.reduceLT, Nat.reduceLeDiff, Nat.reduceSub, Nat.reduceMul, Nat.reduceBEq, Int.reduceToNat, Int.reduceLE, Int.reduceLT, Int.reducePow]; rfl
      case h4 =>
        rw [crow_len]
        exact ⟨rfl, by omega, by omega⟩
      case k4 => simp only [go_sem, Try.ntmps35, reduceIte, reduceCtorEq, Nat.reduceAdd, Nat.reduceEqDiff, Nat.reduceLT, Nat.reduceLeDiff, Nat.reduceSub, Nat.reduceMul, Nat.reduceBEq, Int.reduceToNat, Int.reduceLE, Int.reduceLT, Int.reducePow]; rfl
      refine ⟨rfl, ⟨[], ((fun i => ([(1, .row (crow z k.toNat (unb es) i) 38), (0, .cells [.row 1 1 0 i none] 27)], 2)) (i + 1)).1, 2⟩, Conv.rename (fun j => if j = 1 then 3 else j) (by first | (simp; done) | (simp; omega)) (by simp) (by simp) ?_ ?_, rfl, rfl⟩
      · simp [lookN, AObj.ren, AObj.ids, Sc.ids, Sc.ren, crow_succ, crow_len]
      · simp
    case q =>
      refine AWpM.of ?_
      refine AWp.seq ?_
      refine AWp.reg (S1 := ?S5) (ob := ?o5) (S' := ?K5) tab_ok (noKnow _) mixed [4] ?r5 ?h5 ?k5 ?w5
      case r5 => simp only [go_sem, Try.ntmps35, reduceIte, reduceCtorEq, Nat.reduceAdd, Nat.reduceEqDiff, Nat.reduceLT, Nat.reduceLeDiff, Nat.reduceSub, Nat.reduceMul, Nat.reduceBEq, Int.reduceToNat, Int.reduceLE, Int.reduceLT, Int.reducePow]; rfl
      case h5 => first | exact True.intro | omega | (simp only [go_sem, Try.ntmps35, reduceIte, reduceCtorEq, Nat.reduceAdd, Nat.reduceEqDiff, Nat.reduceLT, Nat.reduceLeDiff, Nat.reduceSub, Nat.reduceMul, Nat.reduceBEq, Int.reduceToNat, Int.reduceLE, Int.reduceLT, Int.reducePow]; done) | (simp only [go_sem, Try.ntmps35, reduceIte, reduceCtorEq, Nat.reduceAdd, Nat.reduceEqDiff, Nat.reduceLT, Nat.reduceLeDiff, Nat.reduceSub, Nat.reduceMul, Nat.reduceBEq, Int.reduceToNat, Int.reduceLE, Int.reduceLT, Int.reducePow]; omega)
      case k5 => simp only [go_sem, Try.ntmps35, reduceIte, reduceCtorEq, Nat.reduceAdd, Nat.reduceEqDiff, Nat.reduceLT, Nat.reduceLeDiff, Nat.reduceSub, Nat.reduceMul, Nat.reduceBEq, Int.reduceToNat, Int.reduceLE, Int.reduceLT, Int.reducePow]; rfl
      refine AWp.ret ?_
      refine ends_p (vs := ?vs1) (ob := ?ro1) (vs' := ?ws1) (ks := ?ks1) (ob2 := ?rp1) tab_ok (by simp) ?er1 ?eo1 ?ef1 ?eg1 ?en1 ?ek1 ?ev1
      case er1 => simp only [go_sem, Try.ntmps35, reduceIte, reduceCtorEq, Nat.reduceAdd, Nat.reduceEqDiff, Nat.reduceLT, Nat.reduceLeDiff, Nat.reduceSub, Nat.reduceMul, Nat.reduceBEq, Int.reduceToNat, Int.reduceLE, Int.reduceLT, Int.reducePow, Try.results35]; rfl
      case eo1 => first | exact True.intro | simp only [go_sem, Try.ntmps35, reduceIte, reduceCtorEq, Nat.reduceAdd, Nat.reduceEqDiff, Nat.reduceLT, Nat.reduceLeDiff, Nat.reduceSub, Nat.reduceMul, Nat.reduceBEq, Int.reduceToNat, Int.reduceLE, Int.reduceLT, Int.reducePow]
      case ef1 => simp only [go_sem, Try.ntmps35, reduceIte, reduceCtorEq, Nat.reduceAdd, Nat.reduceEqDiff, Nat.reduceLT, Nat.reduceLeDiff, Nat.reduceSub, Nat.reduceMul, Nat.reduceBEq, Int.reduceToNat, Int.reduceLE, Int.reduceLT, Int.reducePow]; rfl
      case eg1 => simp [crow_len, chunkDs_len]
      case en1 => simp only [go_sem, Try.ntmps35, reduceIte, reduceCtorEq, Nat.reduceAdd, Nat.reduceEqDiff, Nat.reduceLT, Nat.reduceLeDiff, Nat.reduceSub, Nat.reduceMul, Nat.reduceBEq, Int.reduceToNat, Int.reduceLE, Int.reduceLT, Int.reducePow]
      case ek1 => simp only [go_sem, Try.ntmps35, reduceIte, reduceCtorEq, Nat.reduceAdd, Nat.reduceEqDiff, Nat.reduceLT, Nat.reduceLeDiff, Nat.reduceSub, Nat.reduceMul, Nat.reduceBEq, Int.reduceToNat, Int.reduceLE, Int.reduceLT, Int.reducePow]
      case ev1 =>
        rw [chunkDs_len, ← hbl]; rfl
  · cases hq

def collF : List AV → Option (AVal × Prop)
  | [.s (.d (.func 36 [.ptr [.slice z e es], .ptr [.int .i64 k]]))] => some (.one (dv (pieceD z k es)), e = 1 ∧ es = brow (unb es) ∧ es.length ≤ 1000000000 ∧ 1 ≤ k ∧ k ≤ 1000000000)
  | _ => none
def kn21 : List (Nat × Cont) := [(35, pureK appF)]
theorem kn21_ok : ∀ p ∈ kn21, ContOk Try.prog p.1 p.2 := by
  intro p hp
  simp only [kn21, List.mem_cons, List.not_mem_nil, or_false] at hp
  rcases hp with rfl
  · exact appF_ok
theorem collF_ok : ContOk Try.prog 21 (pureK collF) := by
  refine pure_ok (nargs := 1) Try.func21 rfl (by kernel_rfl) (Nat.le_of_ble_eq_true (by kernel_rfl)) ?_
  intro args q hq hob
  unfold collF at hq
  split at hq
  · rename_i z e es k
    injection hq with hq
    subst hq
    refine ⟨rfl, by simp [AV.ids, Sc.ids], by simp [AVal.ids, AV.ids, Sc.ids], by simp, ?_⟩
    refine AWp.seq ?_
    refine AWp.reg (S1 := ?S1) (ob := ?o1) (S' := ?K1) tab_ok (knowL_ok kn21_ok) mixed [0] ?r1 ?h1 ?k1 ?w1
    case r1 => simp only [go_sem, kn21, appF, Try.ntmps21, reduceIte, reduceCtorEq, Nat.reduceAdd, Nat.reduceEqDiff, Nat.reduceLT, Nat.reduceLeDiff, Nat.reduceSub, Nat.reduceMul, Nat.reduceBEq, Int.reduceToNat, Int.reduceLE, Int.reduceLT, Int.reducePow]; rfl
    case h1 => first | exact True.intro | omega | (simp only [go_sem, kn21, appF, Try.ntmps21, reduceIte, reduceCtorEq, Nat.reduceAdd, Nat.reduceEqDiff, Nat.reduceLT, Nat.reduceLeDiff, Nat.reduceSub, Nat.reduceMul, Nat.reduceBEq, Int.reduceToNat, Int.reduceLE, Int.reduceLT, Int.reducePow]; done) | (simp only [go_sem, kn21, appF, Try.ntmps21, reduceIte, reduceCtorEq, Nat.reduceAdd, Nat.reduceEqDiff, Nat.reduceLT, Nat.reduceLeDiff, Nat.reduceSub, Nat.reduceMul, Nat.reduceBEq, Int.reduceToNat, Int.reduceLE, Int.reduceLT, Int.reducePow]; omega)
    case k1 => simp only [go_sem, kn21, appF, Try.ntmps21, reduceIte, reduceCtorEq, Nat.reduceAdd, Nat.reduceEqDiff, Nat.reduceLT, Nat.reduceLeDiff, Nat.reduceSub, Nat.reduceMul, Nat.reduceBEq, Int.reduceToNat, Int.reduceLE, Int.reduceLT, Int.reducePow]; rfl
    refine AWp.seq ?_
    refine AWp.reg (S1 := ?S2) (ob := ?o2) (S' := ?K2) tab_ok (knowL_ok kn21_ok) mixed [2] ?r2 ?h2 ?k2 ?w2
    case r2 => simp only [go_sem, kn21, appF, Try.ntmps21, reduceIte, reduceCtorEq, Nat.reduceAdd, Nat.reduceEqDiff, Nat.reduceLT, Nat.reduceLeDiff, Nat.reduceSub, Nat.reduceMul, Nat.reduceBEq, Int.reduceToNat, Int.reduceLE, Int.reduceLT, Int.reducePow]; rfl
    case h2 => first | exact True.intro | omega | (simp only [go_sem, kn21, appF, Try.ntmps21, reduceIte, reduceCtorEq, Nat.reduceAdd, Nat.reduceEqDiff, Nat.reduceLT, Nat.reduceLeDiff, Nat.reduceSub, Nat.reduceMul, Nat.reduceBEq, Int.reduceToNat, Int.reduceLE, Int.reduceLT, Int.reducePow]; done) | (simp only [go_sem, kn21, appF, Try.ntmps21, reduceIte, reduceCtorEq, Nat.reduceAdd, Nat.reduceEqDiff, Nat.reduceLT, Nat.reduceLeDiff, Nat.reduceSub, Nat.reduceMul, Nat.reduceBEq, Int.reduceToNat, Int.reduceLE, Int.reduceLT, Int.reducePow]; omega)
    case k2 => simp only [go_sem, kn21, appF, Try.ntmps21, reduceIte, reduceCtorEq, Nat.reduceAdd, Nat.reduceEqDiff, Nat.reduceLT, Nat.reduceLeDiff, Nat.reduceSub, Nat.reduceMul, Nat.reduceBEq, Int.reduceToNat, Int.reduceLE, Int.reduceLT, Int.reducePow]; rfl
    refine AWp.ret ?_
    refine ends_p (vs := ?vs1) (ob := ?ro1) (vs' := ?ws1) (ks := ?ks1) (ob2 := ?rp1) tab_ok (by simp) ?er1 ?eo1 ?ef1 ?eg1 ?en1 ?ek1 ?ev1
    case er1 => simp only [go_sem, kn21, appF, Try.ntmps21, reduceIte, reduceCtorEq, Nat.reduceAdd, Nat.reduceEqDiff, Nat.reduceLT, Nat.reduceLeDiff, Nat.reduceSub, Nat.reduceMul, Nat.reduceBEq, Int.reduceToNat, Int.reduceLE, Int.reduceLT, Int.reducePow, Try.results21]; rfl
    case eo1 => first | exact True.intro | simp only [go_sem, kn21, appF, Try.ntmps21, reduceIte, reduceCtorEq, Nat.reduceAdd, Nat.reduceEqDiff, Nat.reduceLT, Nat.reduceLeDiff, Nat.reduceSub, Nat.reduceMul, Nat.reduceBEq, Int.reduceToNat, Int.reduceLE, Int.reduceLT, Int.reducePow]
    case ef1 => simp only [go_sem, kn21, appF, Try.ntmps21, reduceIte, reduceCtorEq, Nat.reduceAdd, Nat.reduceEqDiff, Nat.reduceLT, Nat.reduceLeDiff, Nat.reduceSub, Nat.reduceMul, Nat.reduceBEq, Int.reduceToNat, Int.reduceLE, Int.reduceLT, Int.reducePow]; rfl
    case eg1 => first | exact True.intro | simp only [go_sem, kn21, appF, Try.ntmps21, reduceIte, reduceCtorEq, Nat.reduceAdd, Nat.reduceEqDiff, Nat.reduceLT, Nat.reduceLeDiff, Nat.reduceSub, Nat.reduceMul, Nat.reduceBEq, Int.reduceToNat, Int.reduceLE, Int.reduceLT, Int.reducePow]
    case en1 => simp only [go_sem, kn21, appF, Try.ntmps21, reduceIte, reduceCtorEq, Nat.reduceAdd, Nat.reduceEqDiff, Nat.reduceLT, Nat.reduceLeDiff, Nat.reduceSub, Nat.reduceMul, Nat.reduceBEq, Int.reduceToNat, Int.reduceLE, Int.reduceLT, Int.reducePow]
    case ek1 => simp only [go_sem, kn21, appF, Try.ntmps21, reduceIte, reduceCtorEq, Nat.reduceAdd, Nat.reduceEqDiff, Nat.reduceLT, Nat.reduceLeDiff, Nat.reduceSub, Nat.reduceMul, Nat.reduceBEq, Int.reduceToNat, Int.reduceLE, Int.reduceLT, Int.reducePow]
    case ev1 =>
      first | rfl | simp only [go_sem, kn21, appF, Try.ntmps21, reduceIte, reduceCtorEq, Nat.reduceAdd, Nat.reduceEqDiff, Nat.reduceLT, Nat.reduceLeDiff, Nat.reduceSub, Nat.reduceMul, Nat.reduceBEq, Int.reduceToNat, Int.reduceLE, Int.reduceLT, Int.reducePow]
  · cases hq

end Go.Proofs.Hg
