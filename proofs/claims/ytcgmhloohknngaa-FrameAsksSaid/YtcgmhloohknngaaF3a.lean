/- Walks of functions: what they do, as contracts. -/
import Derived.Test.YtcgmhloohknngaaAskLaw
set_option linter.unusedSimpArgs false
set_option linter.unusedVariables false
namespace Go.Proofs.Hg
open Go.RowKit
set_option maxRecDepth 100000
def rqI (id : Int) (sc : List UInt8) (qu xt ip : Bool) (fl : List (List UInt8)) : Int := if reqOk id sc qu xt ip fl then id else 0
def rqK (id : Int) (sc : List UInt8) (qu xt ip : Bool) (fl : List (List UInt8)) : Int := if reqOk id sc qu xt ip fl then 1 else 0
def rqZ (id : Int) (sc : List UInt8) (qu xt ip : Bool) (fl : List (List UInt8)) : Option Bool := if reqOk id sc qu xt ip fl then none else some true
def rqB (id : Int) (sc : List UInt8) (qu xt ip : Bool) (fl : List (List UInt8)) : List UInt8 := if reqOk id sc qu xt ip fl then reqBody sc qu xt ip fl else []
def rqE (id : Int) (sc : List UInt8) (qu xt ip : Bool) (fl : List (List UInt8)) : Int := if reqOk id sc qu xt ip fl then 0 else 231
theorem reqV_tup (id : Int) (sc : List UInt8) (qu xt ip : Bool) (fl : List (List UInt8)) : reqV id sc qu xt ip fl = .tup [.agg [.d (.int .i64 (rqI id sc qu xt ip fl)), .d (.int .i64 (rqK id sc qu xt ip fl)), .d (.slice (rqZ id sc qu xt ip fl) 1 (brow (rqB id sc qu xt ip fl)))], dv (.int .i64 (rqE id sc qu xt ip fl))] := by
  unfold reqV rqI rqK rqZ rqB rqE frameV frame0
  split <;> rfl
def akI (id kind : Int) (body : List UInt8) : Int := if askOk id kind body then id else 0
def akS (id kind : Int) (body : List UInt8) : List UInt8 := if askOk id kind body then askS id kind body else []
def akQ (id kind : Int) (body : List UInt8) : Bool := if askOk id kind body then andB (askM id kind body) 1 else false
def akX (id kind : Int) (body : List UInt8) : Bool := if askOk id kind body then andB (askM id kind body) 2 else false
def akP (id kind : Int) (body : List UInt8) : Bool := if askOk id kind body then andB (askM id kind body) 4 else false
def akZ (id kind : Int) (body : List UInt8) : Option Bool := if askOk id kind body then none else some true
def akF (id kind : Int) (body : List UInt8) : List (List UInt8) := if askOk id kind body then (askEnd id kind body).2 else []
def akE (id kind : Int) (body : List UInt8) : Int := if askOk id kind body then 0 else 231
theorem askV_tup (id kind : Int) (body : List UInt8) : askV id kind body = .tup [.agg [.d (.int .i64 (akI id kind body)), .d (.str (akS id kind body)), .d (.bool (akQ id kind body)), .d (.bool (akX id kind body)), .d (.bool (akP id kind body)), .d (.slice (akZ id kind body) 1 (srow (akF id kind body)))], dv (.int .i64 (akE id kind body))] := by
  unfold askV akI akS akQ akX akP akZ akF akE reqOf
  split <;> rfl
theorem filesP_len : ∀ (n : Nat) (p : RS) (fs : List (List UInt8)), (filesP n p fs).2.length ≤ fs.length + n
  | 0, p, fs => Nat.le_refl _
  | n + 1, p, fs => by
    simp only [filesP]
    split
    · have := filesP_len n (nxt (((got 1 p).getD 0 0).toNat : Int) (nxt 1 p)) (fs ++ [got (((got 1 p).getD 0 0).toNat : Int) (nxt 1 p)])
      simp only [List.length_append, List.length_cons, List.length_nil] at this
      omega
    · simp only; omega
theorem akF_len (id kind : Int) (body : List UInt8) : (akF id kind body).length ≤ 255 := by
  unfold akF
  split
  · have := filesP_len (askC id kind body).toNat (askP4 id kind body) []
    have h := (askC id kind body).toNat_lt
    simp only [List.length_nil] at this
    unfold askEnd
    omega
  · simp
def asksF : List AV → Option (AVal × Prop)
  | [.agg [.d (.int .i64 id), .d (.str sc), .d (.bool qu), .d (.bool xt), .d (.bool ip), .d (.slice z e fs)], .agg [.d (.int .i64 id2), .d (.int .i64 kind2), .d (.slice z2 e2 es)]] => some (.one (dv (.bool true)), e = 1 ∧ fs = srow (uns fs) ∧ e2 = 1 ∧ es = brow (unb es))
  | _ => none
def kn3 : List (Nat × Cont) := [(8, pureK fewF), (9, pureK aliveF), (10, pureK reqF), (11, pureK rReqF), (12, pureK askF), (13, pureK rAskF), (14, pureK sameF), (15, pureK sameRF)]
theorem kn3_ok : ∀ p ∈ kn3, ContOk Try.prog p.1 p.2 := by
  intro p hp
  simp only [kn3, List.mem_cons, List.not_mem_nil, or_false] at hp
  rcases hp with rfl | rfl | rfl | rfl | rfl | rfl | rfl | rfl
  · exact fewF_ok
  · exact aliveF_ok
  · exact reqF_ok
  · exact rReqF_ok
  · exact askF_ok
  · exact rAskF_ok
  · exact sameF_ok
  · exact sameRF_ok
theorem asksF_ok : ContOk Try.prog 3 (pureK asksF) := by
  refine pure_ok (nargs := 2) Try.func3 rfl (by kernel_rfl) (Nat.le_of_ble_eq_true (by kernel_rfl)) ?_
  intro args q hq hob
  unfold asksF at hq
  split at hq
  · rename_i id sc qu xt ip z e fs id2 kind2 z2 e2 es
    injection hq with hq
    subst hq
    obtain ⟨h1, h2, h3, h4⟩ : e = 1 ∧ fs = srow (uns fs) ∧ e2 = 1 ∧ es = brow (unb es) := hob
    generalize uns fs = fl at *
    generalize unb es = body at *
    subst h1 h2 h3 h4
    refine ⟨rfl, by simp [AV.ids, Sc.ids], by simp [AVal.ids, AV.ids, Sc.ids], by simp, ?_⟩
    refine AWp.seq ?_
    refine AWp.reg (S1 := ?S1) (ob := ?o1) (S' := ?K1) tab_ok (knowL_ok kn3_ok) mixed [2, 3] ?r1 ?h1 ?k1 ?w1
    case r1 => simp only [go_sem, kn3, fewF, aliveF, reqF, rReqF, askF, rAskF, sameF, sameRF, reqV_tup, ← ask_eq, askV_tup, Try.ntmps3, reduceIte, reduceCtorEq, Nat.reduceAdd, Nat.reduceEqDiff, Nat.reduceLT, Nat.reduceLeDiff, Nat.reduceSub, Nat.reduceMul, Nat.reduceBEq, Int.reduceToNat, Int.reduceLE, Int.reduceLT, Int.reducePow]; rfl
    case h1 => first | exact True.intro | omega | (simp only [go_sem, kn3, fewF, aliveF, reqF, rReqF, askF, rAskF, sameF, sameRF, reqV_tup, ← ask_eq, askV_tup, Try.ntmps3, reduceIte, reduceCtorEq, Nat.reduceAdd, Nat.reduceEqDiff, Nat.reduceLT, Nat.reduceLeDiff, Nat.reduceSub, Nat.reduceMul, Nat.reduceBEq, Int.reduceToNat, Int.reduceLE, Int.reduceLT, Int.reducePow]; done) | (simp only [go_sem, kn3, fewF, aliveF, reqF, rReqF, askF, rAskF, sameF, sameRF, reqV_tup, ← ask_eq, askV_tup, Try.ntmps3, reduceIte, reduceCtorEq, Nat.reduceAdd, Nat.reduceEqDiff, Nat.reduceLT, Nat.reduceLeDiff, Nat.reduceSub, Nat.reduceMul, Nat.reduceBEq, Int.reduceToNat, Int.reduceLE, Int.reduceLT, Int.reducePow]; omega)
    case k1 => simp only [go_sem, kn3, fewF, aliveF, reqF, rReqF, askF, rAskF, sameF, sameRF, reqV_tup, ← ask_eq, askV_tup, Try.ntmps3, reduceIte, reduceCtorEq, Nat.reduceAdd, Nat.reduceEqDiff, Nat.reduceLT, Nat.reduceLeDiff, Nat.reduceSub, Nat.reduceMul, Nat.reduceBEq, Int.reduceToNat, Int.reduceLE, Int.reduceLT, Int.reducePow]; rfl
    refine AWp.seq ?_
    refine AWp.reg (S1 := ?S2) (ob := ?o2) (S' := ?K2) tab_ok (knowL_ok kn3_ok) mixed [2, 3, 5] ?r2 ?h2 ?k2 ?w2
    case r2 => simp only [go_sem, kn3, fewF, aliveF, reqF, rReqF, askF, rAskF, sameF, sameRF, reqV_tup, ← ask_eq, askV_tup, Try.ntmps3, reduceIte, reduceCtorEq, Nat.reduceAdd, Nat.reduceEqDiff, Nat.reduceLT, Nat.reduceLeDiff, Nat.reduceSub, Nat.reduceMul, Nat.reduceBEq, Int.reduceToNat, Int.reduceLE, Int.reduceLT, Int.reducePow]; rfl
    case h2 => first | exact True.intro | omega | (simp only [go_sem, kn3, fewF, aliveF, reqF, rReqF, askF, rAskF, sameF, sameRF, reqV_tup, ← ask_eq, askV_tup, Try.ntmps3, reduceIte, reduceCtorEq, Nat.reduceAdd, Nat.reduceEqDiff, Nat.reduceLT, Nat.reduceLeDiff, Nat.reduceSub, Nat.reduceMul, Nat.reduceBEq, Int.reduceToNat, Int.reduceLE, Int.reduceLT, Int.reducePow]; done) | (simp only [go_sem, kn3, fewF, aliveF, reqF, rReqF, askF, rAskF, sameF, sameRF, reqV_tup, ← ask_eq, askV_tup, Try.ntmps3, reduceIte, reduceCtorEq, Nat.reduceAdd, Nat.reduceEqDiff, Nat.reduceLT, Nat.reduceLeDiff, Nat.reduceSub, Nat.reduceMul, Nat.reduceBEq, Int.reduceToNat, Int.reduceLE, Int.reduceLT, Int.reducePow]; omega)
    case k2 => simp only [go_sem, kn3, fewF, aliveF, reqF, rReqF, askF, rAskF, sameF, sameRF, reqV_tup, ← ask_eq, askV_tup, Try.ntmps3, reduceIte, reduceCtorEq, Nat.reduceAdd, Nat.reduceEqDiff, Nat.reduceLT, Nat.reduceLeDiff, Nat.reduceSub, Nat.reduceMul, Nat.reduceBEq, Int.reduceToNat, Int.reduceLE, Int.reduceLT, Int.reducePow]; rfl
    refine AWp.seq ?_
    refine AWp.seq ?_
    refine AWp.reg (S1 := ?S3) (ob := ?o3) (S' := ?K3) tab_ok (knowL_ok kn3_ok) mixed [2, 3, 25] ?r3 ?h3 ?k3 ?w3
    case r3 => simp only [go_sem, kn3, fewF, aliveF, reqF, rReqF, askF, rAskF, sameF, sameRF, reqV_tup, ← ask_eq, askV_tup, Try.ntmps3, reduceIte, reduceCtorEq, Nat.reduceAdd, Nat.reduceEqDiff, Nat.reduceLT, Nat.reduceLeDiff, Nat.reduceSub, Nat.reduceMul, Nat.reduceBEq, Int.reduceToNat, Int.reduceLE, Int.reduceLT, Int.reducePow]; rfl
    case h3 => first | exact True.intro | omega | (simp only [go_sem, kn3, fewF, aliveF, reqF, rReqF, askF, rAskF, sameF, sameRF, reqV_tup, ← ask_eq, askV_tup, Try.ntmps3, reduceIte, reduceCtorEq, Nat.reduceAdd, Nat.reduceEqDiff, Nat.reduceLT, Nat.reduceLeDiff, Nat.reduceSub, Nat.reduceMul, Nat.reduceBEq, Int.reduceToNat, Int.reduceLE, Int.reduceLT, Int.reducePow]; done) | (simp only [go_sem, kn3, fewF, aliveF, reqF, rReqF, askF, rAskF, sameF, sameRF, reqV_tup, ← ask_eq, askV_tup, Try.ntmps3, reduceIte, reduceCtorEq, Nat.reduceAdd, Nat.reduceEqDiff, Nat.reduceLT, Nat.reduceLeDiff, Nat.reduceSub, Nat.reduceMul, Nat.reduceBEq, Int.reduceToNat, Int.reduceLE, Int.reduceLT, Int.reducePow]; omega)
    case k3 => simp only [go_sem, kn3, fewF, aliveF, reqF, rReqF, askF, rAskF, sameF, sameRF, reqV_tup, ← ask_eq, askV_tup, Try.ntmps3, reduceIte, reduceCtorEq, Nat.reduceAdd, Nat.reduceEqDiff, Nat.reduceLT, Nat.reduceLeDiff, Nat.reduceSub, Nat.reduceMul, Nat.reduceBEq, Int.reduceToNat, Int.reduceLE, Int.reduceLT, Int.reducePow]; rfl
    refine AWp.cond (b := ?b4) ?c4 ?t4 ?f4
    case c4 => simp only [go_sem, kn3, fewF, aliveF, reqF, rReqF, askF, rAskF, sameF, sameRF, reqV_tup, ← ask_eq, askV_tup, Try.ntmps3, reduceIte, reduceCtorEq, Nat.reduceAdd, Nat.reduceEqDiff, Nat.reduceLT, Nat.reduceLeDiff, Nat.reduceSub, Nat.reduceMul, Nat.reduceBEq, Int.reduceToNat, Int.reduceLE, Int.reduceLT, Int.reducePow]; rfl
    case t4 =>
      intro hb1
      refine AWp.seq ?_
      refine AWp.reg (S1 := ?S5) (ob := ?o5) (S' := ?K5) tab_ok (knowL_ok kn3_ok) mixed [4] ?r5 ?h5 ?k5 ?w5
      case r5 => simp only [go_sem, kn3, fewF, aliveF, reqF, rReqF, askF, rAskF, sameF, sameRF, reqV_tup, ← ask_eq, askV_tup, Try.ntmps3, reduceIte, reduceCtorEq, Nat.reduceAdd, Nat.reduceEqDiff, Nat.reduceLT, Nat.reduceLeDiff, Nat.reduceSub, Nat.reduceMul, Nat.reduceBEq, Int.reduceToNat, Int.reduceLE, Int.reduceLT, Int.reducePow]; rfl
      case h5 => first | exact True.intro | omega | (simp only [go_sem, kn3, fewF, aliveF, reqF, rReqF, askF, rAskF, sameF, sameRF, reqV_tup, ← ask_eq, askV_tup, Try.ntmps3, reduceIte, reduceCtorEq, Nat.reduceAdd, Nat.reduceEqDiff, Nat.reduceLT, Nat.reduceLeDiff, Nat.reduceSub, Nat.reduceMul, Nat.reduceBEq, Int.reduceToNat, Int.reduceLE, Int.reduceLT, Int.reducePow]; done) | (simp only [go_sem, kn3, fewF, aliveF, reqF, rReqF, askF, rAskF, sameF, sameRF, reqV_tup, ← ask_eq, askV_tup, Try.ntmps3, reduceIte, reduceCtorEq, Nat.reduceAdd, Nat.reduceEqDiff, Nat.reduceLT, Nat.reduceLeDiff, Nat.reduceSub, Nat.reduceMul, Nat.reduceBEq, Int.reduceToNat, Int.reduceLE, Int.reduceLT, Int.reducePow]; omega)
      case k5 => simp only [go_sem, kn3, fewF, aliveF, reqF, rReqF, askF, rAskF, sameF, sameRF, reqV_tup, ← ask_eq, askV_tup, Try.ntmps3, reduceIte, reduceCtorEq, Nat.reduceAdd, Nat.reduceEqDiff, Nat.reduceLT, Nat.reduceLeDiff, Nat.reduceSub, Nat.reduceMul, Nat.reduceBEq, Int.reduceToNat, Int.reduceLE, Int.reduceLT, Int.reducePow]; rfl
      refine AWp.ret ?_
      refine ends_p (vs := ?vs1) (ob := ?ro1) (vs' := ?ws1) (ks := ?ks1) (ob2 := ?rp1) tab_ok (by simp) ?er1 ?eo1 ?ef1 ?eg1 ?en1 ?ek1 ?ev1
      case er1 => simp only [go_sem, kn3, fewF, aliveF, reqF, rReqF, askF, rAskF, sameF, sameRF, reqV_tup, ← ask_eq, askV_tup, Try.ntmps3, reduceIte, reduceCtorEq, Nat.reduceAdd, Nat.reduceEqDiff, Nat.reduceLT, Nat.reduceLeDiff, Nat.reduceSub, Nat.reduceMul, Nat.reduceBEq, Int.reduceToNat, Int.reduceLE, Int.reduceLT, Int.reducePow, Try.results3]; rfl
      case eo1 => first | exact True.intro | simp only [go_sem, kn3, fewF, aliveF, reqF, rReqF, askF, rAskF, sameF, sameRF, reqV_tup, ← ask_eq, askV_tup, Try.ntmps3, reduceIte, reduceCtorEq, Nat.reduceAdd, Nat.reduceEqDiff, Nat.reduceLT, Nat.reduceLeDiff, Nat.reduceSub, Nat.reduceMul, Nat.reduceBEq, Int.reduceToNat, Int.reduceLE, Int.reduceLT, Int.reducePow]
      case ef1 => simp only [go_sem, kn3, fewF, aliveF, reqF, rReqF, askF, rAskF, sameF, sameRF, reqV_tup, ← ask_eq, askV_tup, Try.ntmps3, reduceIte, reduceCtorEq, Nat.reduceAdd, Nat.reduceEqDiff, Nat.reduceLT, Nat.reduceLeDiff, Nat.reduceSub, Nat.reduceMul, Nat.reduceBEq, Int.reduceToNat, Int.reduceLE, Int.reduceLT, Int.reducePow]; rfl
      case eg1 => first | exact True.intro | simp only [go_sem, kn3, fewF, aliveF, reqF, rReqF, askF, rAskF, sameF, sameRF, reqV_tup, ← ask_eq, askV_tup, Try.ntmps3, reduceIte, reduceCtorEq, Nat.reduceAdd, Nat.reduceEqDiff, Nat.reduceLT, Nat.reduceLeDiff, Nat.reduceSub, Nat.reduceMul, Nat.reduceBEq, Int.reduceToNat, Int.reduceLE, Int.reduceLT, Int.reducePow]
      case en1 => simp only [go_sem, kn3, fewF, aliveF, reqF, rReqF, askF, rAskF, sameF, sameRF, reqV_tup, ← ask_eq, askV_tup, Try.ntmps3, reduceIte, reduceCtorEq, Nat.reduceAdd, Nat.reduceEqDiff, Nat.reduceLT, Nat.reduceLeDiff, Nat.reduceSub, Nat.reduceMul, Nat.reduceBEq, Int.reduceToNat, Int.reduceLE, Int.reduceLT, Int.reducePow]
      case ek1 => simp only [go_sem, kn3, fewF, aliveF, reqF, rReqF, askF, rAskF, sameF, sameRF, reqV_tup, ← ask_eq, askV_tup, Try.ntmps3, reduceIte, reduceCtorEq, Nat.reduceAdd, Nat.reduceEqDiff, Nat.reduceLT, Nat.reduceLeDiff, Nat.reduceSub, Nat.reduceMul, Nat.reduceBEq, Int.reduceToNat, Int.reduceLE, Int.reduceLT, Int.reducePow]
      case ev1 =>
        first | rfl | simp only [go_sem, kn3, fewF, aliveF, reqF, rReqF, askF, rAskF, sameF, sameRF, reqV_tup, ← ask_eq, askV_tup, Try.ntmps3, reduceIte, reduceCtorEq, Nat.reduceAdd, Nat.reduceEqDiff, Nat.reduceLT, Nat.reduceLeDiff, Nat.reduceSub, Nat.reduceMul, Nat.reduceBEq, Int.reduceToNat, Int.reduceLE, Int.reduceLT, Int.reducePow]
    case f4 =>
      intro hb1
      refine AWp.skip ?_
      refine AWp.seq ?_
      refine AWp.reg (S1 := ?S6) (ob := ?o6) (S' := ?K6) tab_ok (knowL_ok kn3_ok) mixed [2, 3, 6, 7] ?r6 ?h6 ?k6 ?w6
      case r6 => simp only [go_sem, kn3, fewF, aliveF, reqF, rReqF, askF, rAskF, sameF, sameRF, reqV_tup, ← ask_eq, askV_tup, Try.ntmps3, reduceIte, reduceCtorEq, Nat.reduceAdd, Nat.reduceEqDiff, Nat.reduceLT, Nat.reduceLeDiff, Nat.reduceSub, Nat.reduceMul, Nat.reduceBEq, Int.reduceToNat, Int.reduceLE, Int.reduceLT, Int.reducePow]; rfl
      case h6 => first | exact True.intro | omega | (simp only [go_sem, kn3, fewF, aliveF, reqF, rReqF, askF, rAskF, sameF, sameRF, reqV_tup, ← ask_eq, askV_tup, Try.ntmps3, reduceIte, reduceCtorEq, Nat.reduceAdd, Nat.reduceEqDiff, Nat.reduceLT, Nat.reduceLeDiff, Nat.reduceSub, Nat.reduceMul, Nat.reduceBEq, Int.reduceToNat, Int.reduceLE, Int.reduceLT, Int.reducePow]; done) | (simp only [go_sem, kn3, fewF, aliveF, reqF, rReqF, askF, rAskF, sameF, sameRF, reqV_tup, ← ask_eq, askV_tup, Try.ntmps3, reduceIte, reduceCtorEq, Nat.reduceAdd, Nat.reduceEqDiff, Nat.reduceLT, Nat.reduceLeDiff, Nat.reduceSub, Nat.reduceMul, Nat.reduceBEq, Int.reduceToNat, Int.reduceLE, Int.reduceLT, Int.reducePow]; omega)
      case k6 => simp only [go_sem, kn3, fewF, aliveF, reqF, rReqF, askF, rAskF, sameF, sameRF, reqV_tup, ← ask_eq, askV_tup, Try.ntmps3, reduceIte, reduceCtorEq, Nat.reduceAdd, Nat.reduceEqDiff, Nat.reduceLT, Nat.reduceLeDiff, Nat.reduceSub, Nat.reduceMul, Nat.reduceBEq, Int.reduceToNat, Int.reduceLE, Int.reduceLT, Int.reducePow]; rfl
      refine AWp.seq ?_
      refine AWp.reg (S1 := ?S7) (ob := ?o7) (S' := ?K7) tab_ok (knowL_ok kn3_ok) mixed [3, 6, 7, 8, 9] ?r7 ?h7 ?k7 ?w7
      case r7 => simp only [go_sem, kn3, fewF, aliveF, reqF, rReqF, askF, rAskF, sameF, sameRF, reqV_tup, ← ask_eq, askV_tup, Try.ntmps3, reduceIte, reduceCtorEq, Nat.reduceAdd, Nat.reduceEqDiff, Nat.reduceLT, Nat.reduceLeDiff, Nat.reduceSub, Nat.reduceMul, Nat.reduceBEq, Int.reduceToNat, Int.reduceLE, Int.reduceLT, Int.reducePow]; rfl
      case h7 => first | exact True.intro | omega | (simp only [go_sem, kn3, fewF, aliveF, reqF, rReqF, askF, rAskF, sameF, sameRF, reqV_tup, ← ask_eq, askV_tup, Try.ntmps3, reduceIte, reduceCtorEq, Nat.reduceAdd, Nat.reduceEqDiff, Nat.reduceLT, Nat.reduceLeDiff, Nat.reduceSub, Nat.reduceMul, Nat.reduceBEq, Int.reduceToNat, Int.reduceLE, Int.reduceLT, Int.reducePow]; done) | (simp only [go_sem, kn3, fewF, aliveF, reqF, rReqF, askF, rAskF, sameF, sameRF, reqV_tup, ← ask_eq, askV_tup, Try.ntmps3, reduceIte, reduceCtorEq, Nat.reduceAdd, Nat.reduceEqDiff, Nat.reduceLT, Nat.reduceLeDiff, Nat.reduceSub, Nat.reduceMul, Nat.reduceBEq, Int.reduceToNat, Int.reduceLE, Int.reduceLT, Int.reducePow]; omega)
      case k7 => simp only [go_sem, kn3, fewF, aliveF, reqF, rReqF, askF, rAskF, sameF, sameRF, reqV_tup, ← ask_eq, askV_tup, Try.ntmps3, reduceIte, reduceCtorEq, Nat.reduceAdd, Nat.reduceEqDiff, Nat.reduceLT, Nat.reduceLeDiff, Nat.reduceSub, Nat.reduceMul, Nat.reduceBEq, Int.reduceToNat, Int.reduceLE, Int.reduceLT, Int.reducePow]; rfl
      refine AWp.seq ?_
      refine AWp.reg (S1 := ?S8) (ob := ?o8) (S' := ?K8) tab_ok (knowL_ok kn3_ok) mixed [3, 6, 7, 8, 9, 10, 11] ?r8 ?h8 ?k8 ?w8
      case r8 => simp only [go_sem, kn3, fewF, aliveF, reqF, rReqF, askF, rAskF, sameF, sameRF, reqV_tup, ← ask_eq, askV_tup, Try.ntmps3, reduceIte, reduceCtorEq, Nat.reduceAdd, Nat.reduceEqDiff, Nat.reduceLT, Nat.reduceLeDiff, Nat.reduceSub, Nat.reduceMul, Nat.reduceBEq, Int.reduceToNat, Int.reduceLE, Int.reduceLT, Int.reducePow]; rfl
      case h8 => first | exact True.intro | omega | (simp only [go_sem, kn3, fewF, aliveF, reqF, rReqF, askF, rAskF, sameF, sameRF, reqV_tup, ← ask_eq, askV_tup, Try.ntmps3, reduceIte, reduceCtorEq, Nat.reduceAdd, Nat.reduceEqDiff, Nat.reduceLT, Nat.reduceLeDiff, Nat.reduceSub, Nat.reduceMul, Nat.reduceBEq, Int.reduceToNat, Int.reduceLE, Int.reduceLT, Int.reducePow]; done) | (simp only [go_sem, kn3, fewF, aliveF, reqF, rReqF, askF, rAskF, sameF, sameRF, reqV_tup, ← ask_eq, askV_tup, Try.ntmps3, reduceIte, reduceCtorEq, Nat.reduceAdd, Nat.reduceEqDiff, Nat.reduceLT, Nat.reduceLeDiff, Nat.reduceSub, Nat.reduceMul, Nat.reduceBEq, Int.reduceToNat, Int.reduceLE, Int.reduceLT, Int.reducePow]; omega)
      case k8 => simp only [go_sem, kn3, fewF, aliveF, reqF, rReqF, askF, rAskF, sameF, sameRF, reqV_tup, ← ask_eq, askV_tup, Try.ntmps3, reduceIte, reduceCtorEq, Nat.reduceAdd, Nat.reduceEqDiff, Nat.reduceLT, Nat.reduceLeDiff, Nat.reduceSub, Nat.reduceMul, Nat.reduceBEq, Int.reduceToNat, Int.reduceLE, Int.reduceLT, Int.reducePow]; rfl
      refine AWp.seq ?_
      refine AWp.reg (S1 := ?S9) (ob := ?o9) (S' := ?K9) tab_ok (knowL_ok kn3_ok) mixed [6, 7, 8, 9, 10, 11, 12, 13] ?r9 ?h9 ?k9 ?w9
      case r9 => simp only [go_sem, kn3, fewF, aliveF, reqF, rReqF, askF, rAskF, sameF, sameRF, reqV_tup, ← ask_eq, askV_tup, Try.ntmps3, reduceIte, reduceCtorEq, Nat.reduceAdd, Nat.reduceEqDiff, Nat.reduceLT, Nat.reduceLeDiff, Nat.reduceSub, Nat.reduceMul, Nat.reduceBEq, Int.reduceToNat, Int.reduceLE, Int.reduceLT, Int.reducePow]; rfl
      case h9 => first | exact True.intro | omega | (simp only [go_sem, kn3, fewF, aliveF, reqF, rReqF, askF, rAskF, sameF, sameRF, reqV_tup, ← ask_eq, askV_tup, Try.ntmps3, reduceIte, reduceCtorEq, Nat.reduceAdd, Nat.reduceEqDiff, Nat.reduceLT, Nat.reduceLeDiff, Nat.reduceSub, Nat.reduceMul, Nat.reduceBEq, Int.reduceToNat, Int.reduceLE, Int.reduceLT, Int.reducePow]; done) | (simp only [go_sem, kn3, fewF, aliveF, reqF, rReqF, askF, rAskF, sameF, sameRF, reqV_tup, ← ask_eq, askV_tup, Try.ntmps3, reduceIte, reduceCtorEq, Nat.reduceAdd, Nat.reduceEqDiff, Nat.reduceLT, Nat.reduceLeDiff, Nat.reduceSub, Nat.reduceMul, Nat.reduceBEq, Int.reduceToNat, Int.reduceLE, Int.reduceLT, Int.reducePow]; omega)
      case k9 => simp only [go_sem, kn3, fewF, aliveF, reqF, rReqF, askF, rAskF, sameF, sameRF, reqV_tup, ← ask_eq, askV_tup, Try.ntmps3, reduceIte, reduceCtorEq, Nat.reduceAdd, Nat.reduceEqDiff, Nat.reduceLT, Nat.reduceLeDiff, Nat.reduceSub, Nat.reduceMul, Nat.reduceBEq, Int.reduceToNat, Int.reduceLE, Int.reduceLT, Int.reducePow]; rfl
      refine AWp.seq ?_
      refine AWp.reg (S1 := ?S10) (ob := ?o10) (S' := ?K10) tab_ok (knowL_ok kn3_ok) mixed [6, 7, 8, 9, 10, 11, 12, 13, 14] ?r10 ?h10 ?k10 ?w10
      case r10 => simp only [go_sem, kn3, fewF, aliveF, reqF, rReqF, askF, rAskF, sameF, sameRF, reqV_tup, ← ask_eq, askV_tup, Try.ntmps3, reduceIte, reduceCtorEq, Nat.reduceAdd, Nat.reduceEqDiff, Nat.reduceLT, Nat.reduceLeDiff, Nat.reduceSub, Nat.reduceMul, Nat.reduceBEq, Int.reduceToNat, Int.reduceLE, Int.reduceLT, Int.reducePow]; rfl
      case h10 => first | exact True.intro | omega | (simp only [go_sem, kn3, fewF, aliveF, reqF, rReqF, askF, rAskF, sameF, sameRF, reqV_tup, ← ask_eq, askV_tup, Try.ntmps3, reduceIte, reduceCtorEq, Nat.reduceAdd, Nat.reduceEqDiff, Nat.reduceLT, Nat.reduceLeDiff, Nat.reduceSub, Nat.reduceMul, Nat.reduceBEq, Int.reduceToNat, Int.reduceLE, Int.reduceLT, Int.reducePow]; done) | (simp only [go_sem, kn3, fewF, aliveF, reqF, rReqF, askF, rAskF, sameF, sameRF, reqV_tup, ← ask_eq, askV_tup, Try.ntmps3, reduceIte, reduceCtorEq, Nat.reduceAdd, Nat.reduceEqDiff, Nat.reduceLT, Nat.reduceLeDiff, Nat.reduceSub, Nat.reduceMul, Nat.reduceBEq, Int.reduceToNat, Int.reduceLE, Int.reduceLT, Int.reducePow]; omega)
      case k10 => simp only [go_sem, kn3, fewF, aliveF, reqF, rReqF, askF, rAskF, sameF, sameRF, reqV_tup, ← ask_eq, askV_tup, Try.ntmps3, reduceIte, reduceCtorEq, Nat.reduceAdd, Nat.reduceEqDiff, Nat.reduceLT, Nat.reduceLeDiff, Nat.reduceSub, Nat.reduceMul, Nat.reduceBEq, Int.reduceToNat, Int.reduceLE, Int.reduceLT, Int.reducePow]; rfl
      refine AWp.seq ?_
      refine AWp.reg (S1 := ?S11) (ob := ?o11) (S' := ?K11) tab_ok (knowL_ok kn3_ok) mixed [6, 7, 8, 9, 11, 13, 14, 15] ?r11 ?h11 ?k11 ?w11
      case r11 => simp only [go_sem, kn3, fewF, aliveF, reqF, rReqF, askF, rAskF, sameF, sameRF, reqV_tup, ← ask_eq, askV_tup, Try.ntmps3, reduceIte, reduceCtorEq, Nat.reduceAdd, Nat.reduceEqDiff, Nat.reduceLT, Nat.reduceLeDiff, Nat.reduceSub, Nat.reduceMul, Nat.reduceBEq, Int.reduceToNat, Int.reduceLE, Int.reduceLT, Int.reducePow]; rfl
      case h11 =>
        have := akF_len id2 kind2 body
        omega
      case k11 => simp only [go_sem, kn3, fewF, aliveF, reqF, rReqF, askF, rAskF, sameF, sameRF, reqV_tup, ← ask_eq, askV_tup, Try.ntmps3, reduceIte, reduceCtorEq, Nat.reduceAdd, Nat.reduceEqDiff, Nat.reduceLT, Nat.reduceLeDiff, Nat.reduceSub, Nat.reduceMul, Nat.reduceBEq, Int.reduceToNat, Int.reduceLE, Int.reduceLT, Int.reducePow]; rfl
      refine AWp.seq ?_
      refine AWp.reg (S1 := ?S12) (ob := ?o12) (S' := ?K12) tab_ok (knowL_ok kn3_ok) mixed [4] ?r12 ?h12 ?k12 ?w12
      case r12 => simp only [go_sem, kn3, fewF, aliveF, reqF, rReqF, askF, rAskF, sameF, sameRF, reqV_tup, ← ask_eq, askV_tup, Try.ntmps3, reduceIte, reduceCtorEq, Nat.reduceAdd, Nat.reduceEqDiff, Nat.reduceLT, Nat.reduceLeDiff, Nat.reduceSub, Nat.reduceMul, Nat.reduceBEq, Int.reduceToNat, Int.reduceLE, Int.reduceLT, Int.reducePow]; rfl
      case h12 => first | exact True.intro | omega | (simp only [go_sem, kn3, fewF, aliveF, reqF, rReqF, askF, rAskF, sameF, sameRF, reqV_tup, ← ask_eq, askV_tup, Try.ntmps3, reduceIte, reduceCtorEq, Nat.reduceAdd, Nat.reduceEqDiff, Nat.reduceLT, Nat.reduceLeDiff, Nat.reduceSub, Nat.reduceMul, Nat.reduceBEq, Int.reduceToNat, Int.reduceLE, Int.reduceLT, Int.reducePow]; done) | (simp only [go_sem, kn3, fewF, aliveF, reqF, rReqF, askF, rAskF, sameF, sameRF, reqV_tup, ← ask_eq, askV_tup, Try.ntmps3, reduceIte, reduceCtorEq, Nat.reduceAdd, Nat.reduceEqDiff, Nat.reduceLT, Nat.reduceLeDiff, Nat.reduceSub, Nat.reduceMul, Nat.reduceBEq, Int.reduceToNat, Int.reduceLE, Int.reduceLT, Int.reducePow]; omega)
      case k12 => simp only [go_sem, kn3, fewF, aliveF, reqF, rReqF, askF, rAskF, sameF, sameRF, reqV_tup, ← ask_eq, askV_tup, Try.ntmps3, reduceIte, reduceCtorEq, Nat.reduceAdd, Nat.reduceEqDiff, Nat.reduceLT, Nat.reduceLeDiff, Nat.reduceSub, Nat.reduceMul, Nat.reduceBEq, Int.reduceToNat, Int.reduceLE, Int.reduceLT, Int.reducePow]; rfl
      refine AWp.ret ?_
      refine ends_p (vs := ?vs2) (ob := ?ro2) (vs' := ?ws2) (ks := ?ks2) (ob2 := ?rp2) tab_ok (by simp) ?er2 ?eo2 ?ef2 ?eg2 ?en2 ?ek2 ?ev2
      case er2 => simp only [go_sem, kn3, fewF, aliveF, reqF, rReqF, askF, rAskF, sameF, sameRF, reqV_tup, ← ask_eq, askV_tup, Try.ntmps3, reduceIte, reduceCtorEq, Nat.reduceAdd, Nat.reduceEqDiff, Nat.reduceLT, Nat.reduceLeDiff, Nat.reduceSub, Nat.reduceMul, Nat.reduceBEq, Int.reduceToNat, Int.reduceLE, Int.reduceLT, Int.reducePow, Try.results3]; rfl
      case eo2 => first | exact True.intro | simp only [go_sem, kn3, fewF, aliveF, reqF, rReqF, askF, rAskF, sameF, sameRF, reqV_tup, ← ask_eq, askV_tup, Try.ntmps3, reduceIte, reduceCtorEq, Nat.reduceAdd, Nat.reduceEqDiff, Nat.reduceLT, Nat.reduceLeDiff, Nat.reduceSub, Nat.reduceMul, Nat.reduceBEq, Int.reduceToNat, Int.reduceLE, Int.reduceLT, Int.reducePow]
      case ef2 => simp only [go_sem, kn3, fewF, aliveF, reqF, rReqF, askF, rAskF, sameF, sameRF, reqV_tup, ← ask_eq, askV_tup, Try.ntmps3, reduceIte, reduceCtorEq, Nat.reduceAdd, Nat.reduceEqDiff, Nat.reduceLT, Nat.reduceLeDiff, Nat.reduceSub, Nat.reduceMul, Nat.reduceBEq, Int.reduceToNat, Int.reduceLE, Int.reduceLT, Int.reducePow]; rfl
      case eg2 => first | exact True.intro | simp only [go_sem, kn3, fewF, aliveF, reqF, rReqF, askF, rAskF, sameF, sameRF, reqV_tup, ← ask_eq, askV_tup, Try.ntmps3, reduceIte, reduceCtorEq, Nat.reduceAdd, Nat.reduceEqDiff, Nat.reduceLT, Nat.reduceLeDiff, Nat.reduceSub, Nat.reduceMul, Nat.reduceBEq, Int.reduceToNat, Int.reduceLE, Int.reduceLT, Int.reducePow]
      case en2 => simp only [go_sem, kn3, fewF, aliveF, reqF, rReqF, askF, rAskF, sameF, sameRF, reqV_tup, ← ask_eq, askV_tup, Try.ntmps3, reduceIte, reduceCtorEq, Nat.reduceAdd, Nat.reduceEqDiff, Nat.reduceLT, Nat.reduceLeDiff, Nat.reduceSub, Nat.reduceMul, Nat.reduceBEq, Int.reduceToNat, Int.reduceLE, Int.reduceLT, Int.reducePow]
      case ek2 => simp only [go_sem, kn3, fewF, aliveF, reqF, rReqF, askF, rAskF, sameF, sameRF, reqV_tup, ← ask_eq, askV_tup, Try.ntmps3, reduceIte, reduceCtorEq, Nat.reduceAdd, Nat.reduceEqDiff, Nat.reduceLT, Nat.reduceLeDiff, Nat.reduceSub, Nat.reduceMul, Nat.reduceBEq, Int.reduceToNat, Int.reduceLE, Int.reduceLT, Int.reducePow]
      case ev2 =>
        first | rfl | simp only [go_sem, kn3, fewF, aliveF, reqF, rReqF, askF, rAskF, sameF, sameRF, reqV_tup, ← ask_eq, askV_tup, Try.ntmps3, reduceIte, reduceCtorEq, Nat.reduceAdd, Nat.reduceEqDiff, Nat.reduceLT, Nat.reduceLeDiff, Nat.reduceSub, Nat.reduceMul, Nat.reduceBEq, Int.reduceToNat, Int.reduceLE, Int.reduceLT, Int.reducePow]
  · cases hq

end Go.Proofs.Hg
