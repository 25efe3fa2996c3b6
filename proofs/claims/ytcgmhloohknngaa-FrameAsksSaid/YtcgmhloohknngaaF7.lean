/- Walks of functions: what they do, as contracts. -/
import Derived.Test.YtcgmhloohknngaaF6
set_option linter.unusedSimpArgs false
set_option linter.unusedVariables false
namespace Go.Proofs.Hg
open Go.RowKit
set_option maxRecDepth 100000
theorem takeL_len (r : Bool) (n : Int) (s : List UInt8) (h0 : 0 ≤ n) (h : n ≤ 2) : n ≤ ((takeL r n s).length : Int) := by
  unfold takeL takeOk
  split
  · rename_i hk
    simp only [Bool.and_eq_true, decide_eq_true_eq] at hk
    simp only [List.length_take]
    omega
  · simp only [List.length_cons, List.length_nil]; omega
theorem numberL_rng (s : List UInt8) : 0 ≤ numberL s ∧ numberL s ≤ 65535 := by
  have h1 := (s.getD 0 0).toNat_lt
  have h2 := (s.getD 1 0).toNat_lt
  unfold numberL
  constructor <;> omega
def fst1 (s : List UInt8) : UInt8 := s.getD 0 0
def andB (m : UInt8) (k : Int) : Bool := !decide (bitsV .and .u8 (m.toNat : Int) k = 0)
def askR0 (id kind : Int) (body : List UInt8) : Bool := (decide (0 ≤ id) && decide (id ≤ 65535) && decide (1 ≤ kind) && decide (kind ≤ 4) && decide ((body.length : Int) ≤ 4096)) && decide (kind = 1)
abbrev RS := Bool × List UInt8
def nxt (n : Int) (p : RS) : RS := (takeOk p.1 n p.2, restL p.1 n p.2)
def got (n : Int) (p : RS) : List UInt8 := takeL p.1 n p.2
def askP0 (id kind : Int) (body : List UInt8) : RS := (askR0 id kind body, body)
def askM (id kind : Int) (body : List UInt8) : UInt8 := (got 1 (askP0 id kind body)).getD 0 0
def askP1 (id kind : Int) (body : List UInt8) : RS := nxt 1 (askP0 id kind body)
def askP2 (id kind : Int) (body : List UInt8) : RS := nxt 2 (askP1 id kind body)
def askN (id kind : Int) (body : List UInt8) : Int := numberL (got 2 (askP1 id kind body))
def askS (id kind : Int) (body : List UInt8) : List UInt8 := got (askN id kind body) (askP2 id kind body)
def askP3 (id kind : Int) (body : List UInt8) : RS := nxt (askN id kind body) (askP2 id kind body)
def askC (id kind : Int) (body : List UInt8) : UInt8 := (got 1 (askP3 id kind body)).getD 0 0
def askP4 (id kind : Int) (body : List UInt8) : RS := nxt 1 (askP3 id kind body)
def filesP : Nat → RS → List (List UInt8) → RS × List (List UInt8)
  | 0, p, fs => (p, fs)
  | n + 1, p, fs => if p.1 then filesP n (nxt (((got 1 p).getD 0 0).toNat : Int) (nxt 1 p)) (fs ++ [got (((got 1 p).getD 0 0).toNat : Int) (nxt 1 p)]) else (p, fs)
theorem filesP_stop (n : Nat) (p : RS) (fs : List (List UInt8)) (h : p.1 = false ∨ n = 0) : filesP n p fs = (p, fs) := by
  cases n with
  | zero => rfl
  | succ n =>
    rcases h with h | h
    · simp [filesP, h]
    · cases h
def askEnd (id kind : Int) (body : List UInt8) : RS × List (List UInt8) := filesP (askC id kind body).toNat (askP4 id kind body) []
def askOk (id kind : Int) (body : List UInt8) : Bool := (askEnd id kind body).1.1 && decide ((askEnd id kind body).1.2.length = 0) && decide ((askM id kind body).toNat ≤ 7)
def reqOf (id : Int) (sc : List UInt8) (qu xt ip : Bool) (fl : List (List UInt8)) : AV := .agg [.d (.int .i64 id), .d (.str sc), .d (.bool qu), .d (.bool xt), .d (.bool ip), .d (.slice none 1 (srow fl))]
def askV (id kind : Int) (body : List UInt8) : AVal :=
  if askOk id kind body then .tup [reqOf id (askS id kind body) (andB (askM id kind body) 1) (andB (askM id kind body) 2) (andB (askM id kind body) 4) (askEnd id kind body).2, dv (.int .i64 0)] else .tup [.agg [.d (.int .i64 0), .d (.str []), .d (.bool false), .d (.bool false), .d (.bool false), .d (.slice (some true) 1 [])], dv (.int .i64 231)]
theorem askV_ids (id kind : Int) (body : List UInt8) : (askV id kind body).ids = [] ∧ ∀ b x, askV id kind body ≠ .opt b x := by
  unfold askV reqOf
  split <;> simp [AVal.ids, AV.ids, Sc.ids]
def askF : List AV → Option (AVal × Prop)
  | [.agg [.d (.int .i64 id), .d (.int .i64 kind), .d (.slice z e es)]] => some (askV id kind (unb es), e = 1 ∧ es = brow (unb es))
  | _ => none
def kn12 : List (Nat × Cont) := [(28, pureK rightF), (31, takeK), (32, pureK numberF)]
theorem kn12_ok : ∀ p ∈ kn12, ContOk Try.prog p.1 p.2 := by
  intro p hp
  simp only [kn12, List.mem_cons, List.not_mem_nil, or_false] at hp
  rcases hp with rfl | rfl | rfl
  · exact rightF_ok
  · exact takeK_ok
  · exact numberF_ok
theorem askF_ok : ContOk Try.prog 12 (pureK askF) := by
  refine pure_ok (nargs := 1) Try.func12 rfl (by kernel_rfl) (Nat.le_of_ble_eq_true (by kernel_rfl)) ?_
  intro args q hq hob
  unfold askF at hq
  split at hq
  · rename_i id kind z e es
    injection hq with hq
    subst hq
    obtain ⟨h1, h2⟩ : e = 1 ∧ es = brow (unb es) := hob
    generalize unb es = body at *
    subst h1 h2
    refine ⟨rfl, by simp [AV.ids, Sc.ids], (askV_ids _ _ _).1, (askV_ids _ _ _).2, ?_⟩
    refine AWp.seq ?_
    refine AWp.reg (S1 := ?S1) (ob := ?o1) (S' := ?K1) tab_ok (knowL_ok kn12_ok) mixed [1, 2] ?r1 ?h1 ?k1 ?w1
    case r1 => simp only [go_sem, kn12, rightF, takeK, numberF, Try.ntmps12, reduceIte, reduceCtorEq, Nat.reduceAdd, Nat.reduceEqDiff, Nat.reduceLT, Nat.reduceLeDiff, Nat.reduceSub, Nat.reduceMul, Nat.reduceBEq, Int.reduceToNat, Int.reduceLE, Int.reduceLT, Int.reducePow]; rfl
    case h1 => first | exact True.intro | omega | (simp only [go_sem, kn12, rightF, takeK, numberF, Try.ntmps12, reduceIte, reduceCtorEq, Nat.reduceAdd, Nat.reduceEqDiff, Nat.reduceLT, Nat.reduceLeDiff, Nat.reduceSub, Nat.reduceMul, Nat.reduceBEq, Int.reduceToNat, Int.reduceLE, Int.reduceLT, Int.reducePow]; done) | (simp only [go_sem, kn12, rightF, takeK, numberF, Try.ntmps12, reduceIte, reduceCtorEq, Nat.reduceAdd, Nat.reduceEqDiff, Nat.reduceLT, Nat.reduceLeDiff, Nat.reduceSub, Nat.reduceMul, Nat.reduceBEq, Int.reduceToNat, Int.reduceLE, Int.reduceLT, Int.reducePow]; omega)
    case k1 => simp only [go_sem, kn12, rightF, takeK, numberF, Try.ntmps12, reduceIte, reduceCtorEq, Nat.reduceAdd, Nat.reduceEqDiff, Nat.reduceLT, Nat.reduceLeDiff, Nat.reduceSub, Nat.reduceMul, Nat.reduceBEq, Int.reduceToNat, Int.reduceLE, Int.reduceLT, Int.reducePow]; rfl
    refine AWp.seq ?_
    refine AWp.reg (S1 := ?S2) (ob := ?o2) (S' := ?K2) tab_ok (knowL_ok kn12_ok) mixed [1, 2, 4] ?r2 ?h2 ?k2 ?w2
    case r2 => simp only [go_sem, kn12, rightF, takeK, numberF, Try.ntmps12, reduceIte, reduceCtorEq, Nat.reduceAdd, Nat.reduceEqDiff, Nat.reduceLT, Nat.reduceLeDiff, Nat.reduceSub, Nat.reduceMul, Nat.reduceBEq, Int.reduceToNat, Int.reduceLE, Int.reduceLT, Int.reducePow]; rfl
    case h2 => first | exact True.intro | omega | (simp only [go_sem, kn12, rightF, takeK, numberF, Try.ntmps12, reduceIte, reduceCtorEq, Nat.reduceAdd, Nat.reduceEqDiff, Nat.reduceLT, Nat.reduceLeDiff, Nat.reduceSub, Nat.reduceMul, Nat.reduceBEq, Int.reduceToNat, Int.reduceLE, Int.reduceLT, Int.reducePow]; done) | (simp only [go_sem, kn12, rightF, takeK, numberF, Try.ntmps12, reduceIte, reduceCtorEq, Nat.reduceAdd, Nat.reduceEqDiff, Nat.reduceLT, Nat.reduceLeDiff, Nat.reduceSub, Nat.reduceMul, Nat.reduceBEq, Int.reduceToNat, Int.reduceLE, Int.reduceLT, Int.reducePow]; omega)
    case k2 => simp only [go_sem, kn12, rightF, takeK, numberF, Try.ntmps12, reduceIte, reduceCtorEq, Nat.reduceAdd, Nat.reduceEqDiff, Nat.reduceLT, Nat.reduceLeDiff, Nat.reduceSub, Nat.reduceMul, Nat.reduceBEq, Int.reduceToNat, Int.reduceLE, Int.reduceLT, Int.reducePow]; rfl
    refine AWp.seq ?_
    refine AWp.reg (S1 := ?S3) (ob := ?o3) (S' := ?K3) tab_ok (knowL_ok kn12_ok) mixed [1, 2, 4, 5] ?r3 ?h3 ?k3 ?w3
    case r3 => simp only [go_sem, kn12, rightF, takeK, numberF, Try.ntmps12, reduceIte, reduceCtorEq, Nat.reduceAdd, Nat.reduceEqDiff, Nat.reduceLT, Nat.reduceLeDiff, Nat.reduceSub, Nat.reduceMul, Nat.reduceBEq, Int.reduceToNat, Int.reduceLE, Int.reduceLT, Int.reducePow]; rfl
    case h3 => first | exact True.intro | omega | (simp only [go_sem, kn12, rightF, takeK, numberF, Try.ntmps12, reduceIte, reduceCtorEq, Nat.reduceAdd, Nat.reduceEqDiff, Nat.reduceLT, Nat.reduceLeDiff, Nat.reduceSub, Nat.reduceMul, Nat.reduceBEq, Int.reduceToNat, Int.reduceLE, Int.reduceLT, Int.reducePow]; done) | (simp only [go_sem, kn12, rightF, takeK, numberF, Try.ntmps12, reduceIte, reduceCtorEq, Nat.reduceAdd, Nat.reduceEqDiff, Nat.reduceLT, Nat.reduceLeDiff, Nat.reduceSub, Nat.reduceMul, Nat.reduceBEq, Int.reduceToNat, Int.reduceLE, Int.reduceLT, Int.reducePow]; omega)
    case k3 => simp only [go_sem, kn12, rightF, takeK, numberF, Try.ntmps12, reduceIte, reduceCtorEq, Nat.reduceAdd, Nat.reduceEqDiff, Nat.reduceLT, Nat.reduceLeDiff, Nat.reduceSub, Nat.reduceMul, Nat.reduceBEq, Int.reduceToNat, Int.reduceLE, Int.reduceLT, Int.reducePow]; rfl
    refine AWp.seq ?_
    refine AWp.reg (S1 := ?S4) (ob := ?o4) (S' := ?K4) tab_ok (knowL_ok kn12_ok) mixed [1, 2, 4, 5, 6] ?r4 ?h4 ?k4 ?w4
    case r4 => simp only [go_sem, kn12, rightF, takeK, numberF, Try.ntmps12, reduceIte, reduceCtorEq, Nat.reduceAdd, Nat.reduceEqDiff, Nat.reduceLT, Nat.reduceLeDiff, Nat.reduceSub, Nat.reduceMul, Nat.reduceBEq, Int.reduceToNat, Int.reduceLE, Int.reduceLT, Int.reducePow]; rfl
    case h4 => first | exact True.intro | omega | (simp only [go_sem, kn12, rightF, takeK, numberF, Try.ntmps12, reduceIte, reduceCtorEq, Nat.reduceAdd, Nat.reduceEqDiff, Nat.reduceLT, Nat.reduceLeDiff, Nat.reduceSub, Nat.reduceMul, Nat.reduceBEq, Int.reduceToNat, Int.reduceLE, Int.reduceLT, Int.reducePow]; done) | (simp only [go_sem, kn12, rightF, takeK, numberF, Try.ntmps12, reduceIte, reduceCtorEq, Nat.reduceAdd, Nat.reduceEqDiff, Nat.reduceLT, Nat.reduceLeDiff, Nat.reduceSub, Nat.reduceMul, Nat.reduceBEq, Int.reduceToNat, Int.reduceLE, Int.reduceLT, Int.reducePow]; omega)
    case k4 => simp only [go_sem, kn12, rightF, takeK, numberF, Try.ntmps12, reduceIte, reduceCtorEq, Nat.reduceAdd, Nat.reduceEqDiff, Nat.reduceLT, Nat.reduceLeDiff, Nat.reduceSub, Nat.reduceMul, Nat.reduceBEq, Int.reduceToNat, Int.reduceLE, Int.reduceLT, Int.reducePow]; rfl
    refine AWp.seq ?_
    refine AWp.reg (S1 := ?S5) (ob := ?o5) (S' := ?K5) tab_ok (knowL_ok kn12_ok) mixed [1, 2, 4, 5, 6, 7] ?r5 ?h5 ?k5 ?w5
    case r5 => simp only [go_sem, kn12, rightF, takeK, numberF, Try.ntmps12, reduceIte, reduceCtorEq, Nat.reduceAdd, Nat.reduceEqDiff, Nat.reduceLT, Nat.reduceLeDiff, Nat.reduceSub, Nat.reduceMul, Nat.reduceBEq, Int.reduceToNat, Int.reduceLE, Int.reduceLT, Int.reducePow]; rfl
    case h5 =>
      exact Int.lt_of_lt_of_le (by omega) (takeL_len _ 1 _ (by omega) (by omega))
    case k5 => simp only [go_sem, kn12, rightF, takeK, numberF, Try.ntmps12, reduceIte, reduceCtorEq, Nat.reduceAdd, Nat.reduceEqDiff, Nat.reduceLT, Nat.reduceLeDiff, Nat.reduceSub, Nat.reduceMul, Nat.reduceBEq, Int.reduceToNat, Int.reduceLE, Int.reduceLT, Int.reducePow]; rfl
    refine AWp.seq ?_
    refine AWp.reg (S1 := ?S6) (ob := ?o6) (S' := ?K6) tab_ok (knowL_ok kn12_ok) mixed [2, 4, 5, 6, 7, 8] ?r6 ?h6 ?k6 ?w6
    case r6 => simp only [go_sem, kn12, rightF, takeK, numberF, Try.ntmps12, reduceIte, reduceCtorEq, Nat.reduceAdd, Nat.reduceEqDiff, Nat.reduceLT, Nat.reduceLeDiff, Nat.reduceSub, Nat.reduceMul, Nat.reduceBEq, Int.reduceToNat, Int.reduceLE, Int.reduceLT, Int.reducePow]; rfl
    case h6 => first | exact True.intro | omega | (simp only [go_sem, kn12, rightF, takeK, numberF, Try.ntmps12, reduceIte, reduceCtorEq, Nat.reduceAdd, Nat.reduceEqDiff, Nat.reduceLT, Nat.reduceLeDiff, Nat.reduceSub, Nat.reduceMul, Nat.reduceBEq, Int.reduceToNat, Int.reduceLE, Int.reduceLT, Int.reducePow]; done) | (simp only [go_sem, kn12, rightF, takeK, numberF, Try.ntmps12, reduceIte, reduceCtorEq, Nat.reduceAdd, Nat.reduceEqDiff, Nat.reduceLT, Nat.reduceLeDiff, Nat.reduceSub, Nat.reduceMul, Nat.reduceBEq, Int.reduceToNat, Int.reduceLE, Int.reduceLT, Int.reducePow]; omega)
    case k6 => simp only [go_sem, kn12, rightF, takeK, numberF, Try.ntmps12, reduceIte, reduceCtorEq, Nat.reduceAdd, Nat.reduceEqDiff, Nat.reduceLT, Nat.reduceLeDiff, Nat.reduceSub, Nat.reduceMul, Nat.reduceBEq, Int.reduceToNat, Int.reduceLE, Int.reduceLT, Int.reducePow]; rfl
    refine AWp.seq ?_
    refine AWp.reg (S1 := ?S7) (ob := ?o7) (S' := ?K7) tab_ok (knowL_ok kn12_ok) mixed [2, 4, 5, 6, 7, 8] ?r7 ?h7 ?k7 ?w7
    case r7 => simp only [go_sem, kn12, rightF, takeK, numberF, Try.ntmps12, reduceIte, reduceCtorEq, Nat.reduceAdd, Nat.reduceEqDiff, Nat.reduceLT, Nat.reduceLeDiff, Nat.reduceSub, Nat.reduceMul, Nat.reduceBEq, Int.reduceToNat, Int.reduceLE, Int.reduceLT, Int.reducePow]; rfl
    case h7 =>
      exact ⟨Int.ofNat_le.1 (takeL_len _ 2 _ (by omega) (by omega)), (numberL_rng _).1⟩
    case k7 => simp only [go_sem, kn12, rightF, takeK, numberF, Try.ntmps12, reduceIte, reduceCtorEq, Nat.reduceAdd, Nat.reduceEqDiff, Nat.reduceLT, Nat.reduceLeDiff, Nat.reduceSub, Nat.reduceMul, Nat.reduceBEq, Int.reduceToNat, Int.reduceLE, Int.reduceLT, Int.reducePow]; rfl
    refine AWp.seq ?_
    refine AWp.seq ?_
    refine AWp.reg (S1 := ?S8) (ob := ?o8) (S' := ?K8) tab_ok (knowL_ok kn12_ok) mixed [2, 4, 5, 6, 7, 8, 9] ?r8 ?h8 ?k8 ?w8
    case r8 => simp only [go_sem, kn12, rightF, takeK, numberF, Try.ntmps12, reduceIte, reduceCtorEq, Nat.reduceAdd, Nat.reduceEqDiff, Nat.reduceLT, Nat.reduceLeDiff, Nat.reduceSub, Nat.reduceMul, Nat.reduceBEq, Int.reduceToNat, Int.reduceLE, Int.reduceLT, Int.reducePow]; rfl
    case h8 =>
      exact Int.lt_of_lt_of_le (by omega) (takeL_len _ 1 _ (by omega) (by omega))
    case k8 => simp only [go_sem, kn12, rightF, takeK, numberF, Try.ntmps12, reduceIte, reduceCtorEq, Nat.reduceAdd, Nat.reduceEqDiff, Nat.reduceLT, Nat.reduceLeDiff, Nat.reduceSub, Nat.reduceMul, Nat.reduceBEq, Int.reduceToNat, Int.reduceLE, Int.reduceLT, Int.reducePow]; rfl
    refine AWp.block ?_
    refine AWp.conv (Conv.nilCell 4 5 (e := 1) (ety := 9) rfl (by simp) rfl rfl) ?_
    refine AWp.conv (Conv.keep [2, 4, 5, 6, 7, 8, 9] [5, 4, 3, 2, 1, 0] (by simp [St.nilCell, eraseN])) ?_
    refine AWp.loop (fun k S => ∃ (n : Nat) (p : RS) (fs : List (List UInt8)), k = n ∧ fs.length + n ≤ 255 ∧ filesP n p fs = askEnd id kind body ∧ S = ⟨[(2, .one (.s (.ptr 1 0))), (4, .one (.s (.ptr 2 0))), (5, .one (.s (.ptr 3 0))), (6, .one (.s (.func 31 [(2, 0), (3, 0)]))), (7, .one (dv (.int .u8 ((askM id kind body).toNat : Int)))), (8, .one (.s (.ptr 4 0))), (9, .one (dv (.int .i64 (n : Int))))], [(5, .row (srow fs) 9), (4, .cells [.d (.int .i64 id), .d (.str (askS id kind body)), .d (.bool (andB (askM id kind body) 1)), .d (.bool (andB (askM id kind body) 2)), .d (.bool (andB (askM id kind body) 4)), .row 5 1 0 fs.length none] 24), (3, .cells [.d (.slice z 1 (brow p.2))] 25), (2, .cells [.d (.bool p.1)] 4), (1, .cells [.d (.int .i64 0), .d (.str []), .d (.bool false), .d (.bool false), .d (.bool false), .d (.slice (some true) 1 [])] 24), (0, .cells [.d (.int .i64 id), .d (.int .i64 kind), .d (.slice z 1 (brow body))] 30)], 6⟩) (askC id kind body).toNat ?i1 ?n1
    case i1 =>
      refine ⟨_, askP4 id kind body, [], rfl, ?_, rfl, ?_⟩
      · have := (askC id kind body).toNat_lt; simp; omega
      · rfl
    case n1 =>
      rintro k S ⟨n, p, fs, rfl, hn, hE, rfl⟩
      refine AWp.seq ?_
      refine AWp.seq ?_
      refine AWp.reg (S1 := ?S9) (ob := ?o9) (S' := ?K9) tab_ok (knowL_ok kn12_ok) mixed [2, 4, 5, 6, 7, 8, 9, 52] ?r9 ?h9 ?k9 ?w9
      case r9 => simp only [go_sem, kn12, rightF, takeK, numberF, Try.ntmps12, reduceIte, reduceCtorEq, Nat.reduceAdd, Nat.reduceEqDiff, Nat.reduceLT, Nat.reduceLeDiff, Nat.reduceSub, Nat.reduceMul, Nat.reduceBEq, Int.reduceToNat, Int.reduceLE, Int.reduceLT, Int.reducePow]; rfl
      case h9 => first | exact True.intro | omega | (simp only [go_sem, kn12, rightF, takeK, numberF, Try.ntmps12, reduceIte, reduceCtorEq, Nat.reduceAdd, Nat.reduceEqDiff, Nat.reduceLT, Nat.reduceLeDiff, Nat.reduceSub, Nat.reduceMul, Nat.reduceBEq, Int.reduceToNat, Int.reduceLE, Int.reduceLT, Int.reducePow]; done) | (simp only [go_sem, kn12, rightF, takeK, numberF, Try.ntmps12, reduceIte, reduceCtorEq, Nat.reduceAdd, Nat.reduceEqDiff, Nat.reduceLT, Nat.reduceLeDiff, Nat.reduceSub, Nat.reduceMul, Nat.reduceBEq, Int.reduceToNat, Int.reduceLE, Int.reduceLT, Int.reducePow]; omega)
      case k9 => simp only [go_sem, kn12, rightF, takeK, numberF, Try.ntmps12, reduceIte, reduceCtorEq, Nat.reduceAdd, Nat.reduceEqDiff, Nat.reduceLT, Nat.reduceLeDiff, Nat.reduceSub, Nat.reduceMul, Nat.reduceBEq, Int.reduceToNat, Int.reduceLE, Int.reduceLT, Int.reducePow]; rfl
      refine AWp.cond (b := ?b10) ?c10 ?t10 ?f10
      case c10 => simp only [go_sem, kn12, rightF, takeK, numberF, Try.ntmps12, reduceIte, reduceCtorEq, Nat.reduceAdd, Nat.reduceEqDiff, Nat.reduceLT, Nat.reduceLeDiff, Nat.reduceSub, Nat.reduceMul, Nat.reduceBEq, Int.reduceToNat, Int.reduceLE, Int.reduceLT, Int.reducePow]; rfl
      case t10 =>
        intro hb1
        refine AWp.skip ?_
        refine AWp.seq ?_
        refine AWp.block ?_
        refine AWp.drw (S1 := ?S11) (ob := ?o11) (lts := ?t11) (S' := ?K11) tab_ok (knowL_ok kn12_ok) mixed [2, 4, 5, 6, 7, 8, 9] ?r11 ?d11 ?h11 ?k11 ?w11
        case r11 => simp only [go_sem, kn12, rightF, takeK, numberF, Try.ntmps12, reduceIte, reduceCtorEq, Nat.reduceAdd, Nat.reduceEqDiff, Nat.reduceLT, Nat.reduceLeDiff, Nat.reduceSub, Nat.reduceMul, Nat.reduceBEq, Int.reduceToNat, Int.reduceLE, Int.reduceLT, Int.reducePow]; rfl
        case d11 => rfl
        case h11 =>
          exact ⟨Int.lt_of_lt_of_le (by omega) (takeL_len _ 1 _ (by omega) (by omega)), by omega, by omega, by omega⟩
        case k11 => simp only [go_sem, kn12, rightF, takeK, numberF, Try.ntmps12, reduceIte, reduceCtorEq, Nat.reduceAdd, Nat.reduceEqDiff, Nat.reduceLT, Nat.reduceLeDiff, Nat.reduceSub, Nat.reduceMul, Nat.reduceBEq, Int.reduceToNat, Int.reduceLE, Int.reduceLT, Int.reducePow]; rfl
        refine AWp.reg (S1 := ?S12) (ob := ?o12) (S' := ?K12) tab_ok (knowL_ok kn12_ok) mixed [2, 4, 5, 6, 7, 8, 9] ?r12 ?h12 ?k12 ?w12
        case r12 => simp only [go_sem, kn12, rightF, takeK, numberF, Try.ntmps12, reduceIte, reduceCtorEq, Nat.reduceAdd, Nat.reduceEqDiff, Nat.reduceLT, Nat.reduceLeDiff, Nat.reduceSub, Nat.reduceMul, Nat.reduceBEq, Int.reduceToNat, Int.reduceLE, Int.reduceLT, Int.reducePow]; rfl
        case h12 => first | exact True.intro | omega | (simp only [go_sem, kn12, rightF, takeK, numberF, Try.ntmps12, reduceIte, reduceCtorEq, Nat.reduceAdd, Nat.reduceEqDiff, Nat.reduceLT, Nat.reduceLeDiff, Nat.reduceSub, Nat.reduceMul, Nat.reduceBEq, Int.reduceToNat, Int.reduceLE, Int.reduceLT, Int.reducePow]; done) | (simp only [go_sem, kn12, rightF, takeK, numberF, Try.ntmps12, reduceIte, reduceCtorEq, Nat.reduceAdd, Nat.reduceEqDiff, Nat.reduceLT, Nat.reduceLeDiff, Nat.reduceSub, Nat.reduceMul, Nat.reduceBEq, Int.reduceToNat, Int.reduceLE, Int.reduceLT, Int.reducePow]; omega)
        case k12 => simp only [go_sem, kn12, rightF, takeK, numberF, Try.ntmps12, reduceIte, reduceCtorEq, Nat.reduceAdd, Nat.reduceEqDiff, Nat.reduceLT, Nat.reduceLeDiff, Nat.reduceSub, Nat.reduceMul, Nat.reduceBEq, Int.reduceToNat, Int.reduceLE, Int.reduceLT, Int.reducePow]; rfl
        have hp : p.1 = true := by simp at hb1; exact hb1.1
        obtain ⟨n', rfl⟩ : ∃ n', k = n' + 1 := ⟨k - 1, by simp at hb1; omega⟩
        refine ⟨n', ⟨[(2, .one (.s (.ptr 1 0))), (4, .one (.s (.ptr 2 0))), (5, .one (.s (.ptr 3 0))), (6, .one (.s (.func 31 [(2, 0), (3, 0)]))), (7, .one (dv (.int .u8 ((askM id kind body).toNat : Int)))), (8, .one (.s (.ptr 4 0))), (9, .one (dv (.int .i64 (n' : Int))))], [(5, .row (srow (fs ++ [got (((got 1 p).getD 0 0).toNat : Int) (nxt 1 p)])) 9), (4, .cells [.d (.int .i64 id), .d (.str (askS id kind body)), .d (.bool (andB (askM id kind body) 1)), .d (.bool (andB (askM id kind body) 2)), .d (.bool (andB (askM id kind body) 4)), .row 5 1 0 (fs ++ [got (((got 1 p).getD 0 0).toNat : Int) (nxt 1 p)]).length none] 24), (3, .cells [.d (.slice z 1 (brow (nxt (((got 1 p).getD 0 0).toNat : Int) (nxt 1 p)).2))] 25), (2, .cells [.d (.bool (nxt (((got 1 p).getD 0 0).toNat : Int) (nxt 1 p)).1)] 4), (1, .cells [.d (.int .i64 0), .d (.str []), .d (.bool false), .d (.bool false), .d (.bool false), .d (.slice (some true) 1 [])] 24), (0, .cells [.d (.int .i64 id), .d (.int .i64 kind), .d (.slice z 1 (brow body))] 30)], 6⟩, by omega, Conv.rename (fun i => if i = 5 then 7 else i) (by simp) (by simp) ?_ ?_ ?_, n', nxt (((got 1 p).getD 0 0).toNat : Int) (nxt 1 p), fs ++ [got (((got 1 p).getD 0 0).toNat : Int) (nxt 1 p)], rfl, by simp; omega, by rw [← hE, filesP, if_pos hp], rfl⟩
        · simp [lookN, AVal.ren, AV.ren, Sc.ren, AVal.ids, AV.ids, Sc.ids]
        · simp [lookN, AObj.ren, AObj.ids, Sc.ids, Sc.ren, srow, nxt, got]
        · simp
      case f10 =>
        intro hb1
        refine AWp.exit ?_
        refine thenA_exit ?_
        refine thenA_exit ?_
        refine inB_eq ?_
        refine AWp.seq ?_
        refine AWp.seq ?_
        refine AWp.reg (S1 := ?S13) (ob := ?o13) (S' := ?K13) tab_ok (knowL_ok kn12_ok) mixed [2, 8, 78] ?r13 ?h13 ?k13 ?w13
        case r13 => simp only [go_sem, kn12, rightF, takeK, numberF, Try.ntmps12, reduceIte, reduceCtorEq, Nat.reduceAdd, Nat.reduceEqDiff, Nat.reduceLT, Nat.reduceLeDiff, Nat.reduceSub, Nat.reduceMul, Nat.reduceBEq, Int.reduceToNat, Int.reduceLE, Int.reduceLT, Int.reducePow]; rfl
        case h13 => first | exact True.intro | omega | (simp only [go_sem, kn12, rightF, takeK, numberF, Try.ntmps12, reduceIte, reduceCtorEq, Nat.reduceAdd, Nat.reduceEqDiff, Nat.reduceLT, Nat.reduceLeDiff, Nat.reduceSub, Nat.reduceMul, Nat.reduceBEq, Int.reduceToNat, Int.reduceLE, Int.reduceLT, Int.reducePow]; done) | (simp only [go_sem, kn12, rightF, takeK, numberF, Try.ntmps12, reduceIte, reduceCtorEq, Nat.reduceAdd, Nat.reduceEqDiff, Nat.reduceLT, Nat.reduceLeDiff, Nat.reduceSub, Nat.reduceMul, Nat.reduceBEq, Int.reduceToNat, Int.reduceLE, Int.reduceLT, Int.reducePow]; omega)
        case k13 => simp only [go_sem, kn12, rightF, takeK, numberF, Try.ntmps12, reduceIte, reduceCtorEq, Nat.reduceAdd, Nat.reduceEqDiff, Nat.reduceLT, Nat.reduceLeDiff, Nat.reduceSub, Nat.reduceMul, Nat.reduceBEq, Int.reduceToNat, Int.reduceLE, Int.reduceLT, Int.reducePow]; rfl
        refine AWp.cond (b := ?b14) ?c14 ?t14 ?f14
        case c14 => simp only [go_sem, kn12, rightF, takeK, numberF, Try.ntmps12, reduceIte, reduceCtorEq, Nat.reduceAdd, Nat.reduceEqDiff, Nat.reduceLT, Nat.reduceLeDiff, Nat.reduceSub, Nat.reduceMul, Nat.reduceBEq, Int.reduceToNat, Int.reduceLE, Int.reduceLT, Int.reducePow]; rfl
        case t14 =>
          intro hb2
          refine AWp.seq ?_
          refine AWp.reg (S1 := ?S15) (ob := ?o15) (S' := ?K15) tab_ok (knowL_ok kn12_ok) mixed [2, 3] ?r15 ?h15 ?k15 ?w15
          case r15 => simp only [go_sem, kn12, rightF, takeK, numberF, Try.ntmps12, reduceIte, reduceCtorEq, Nat.reduceAdd, Nat.reduceEqDiff, Nat.reduceLT, Nat.reduceLeDiff, Nat.reduceSub, Nat.reduceMul, Nat.reduceBEq, Int.reduceToNat, Int.reduceLE, Int.reduceLT, Int.reducePow]; rfl
          case h15 => first | exact True.intro | omega | (simp only [go_sem, kn12, rightF, takeK, numberF, Try.ntmps12, reduceIte, reduceCtorEq, Nat.reduceAdd, Nat.reduceEqDiff, Nat.reduceLT, Nat.reduceLeDiff, Nat.reduceSub, Nat.reduceMul, Nat.reduceBEq, Int.reduceToNat, Int.reduceLE, Int.reduceLT, Int.reducePow]; done) | (simp only [go_sem, kn12, rightF, takeK, numberF, Try.ntmps12, reduceIte, reduceCtorEq, Nat.reduceAdd, Nat.reduceEqDiff, Nat.reduceLT, Nat.reduceLeDiff, Nat.reduceSub, Nat.reduceMul, Nat.reduceBEq, Int.reduceToNat, Int.reduceLE, Int.reduceLT, Int.reducePow]; omega)
          case k15 => simp only [go_sem, kn12, rightF, takeK, numberF, Try.ntmps12, reduceIte, reduceCtorEq, Nat.reduceAdd, Nat.reduceEqDiff, Nat.reduceLT, Nat.reduceLeDiff, Nat.reduceSub, Nat.reduceMul, Nat.reduceBEq, Int.reduceToNat, Int.reduceLE, Int.reduceLT, Int.reducePow]; rfl
          refine AWp.ret ?_
          refine ends_p (vs := ?vs1) (ob := ?ro1) (vs' := ?ws1) (ks := ?ks1) (ob2 := ?rp1) tab_ok (by simp) ?er1 ?eo1 ?ef1 ?eg1 ?en1 ?ek1 ?ev1
          case er1 => simp only [go_sem, kn12, rightF, takeK, numberF, Try.ntmps12, reduceIte, reduceCtorEq, Nat.reduceAdd, Nat.reduceEqDiff, Nat.reduceLT, Nat.reduceLeDiff, Nat.reduceSub, Nat.reduceMul, Nat.reduceBEq, Int.reduceToNat, Int.reduceLE, Int.reduceLT, Int.reducePow, Try.results12]; rfl
          case eo1 => first | exact True.intro | simp only [go_sem, kn12, rightF, takeK, numberF, Try.ntmps12, reduceIte, reduceCtorEq, Nat.reduceAdd, Nat.reduceEqDiff, Nat.reduceLT, Nat.reduceLeDiff, Nat.reduceSub, Nat.reduceMul, Nat.reduceBEq, Int.reduceToNat, Int.reduceLE, Int.reduceLT, Int.reducePow]
          case ef1 => simp only [go_sem, kn12, rightF, takeK, numberF, Try.ntmps12, reduceIte, reduceCtorEq, Nat.reduceAdd, Nat.reduceEqDiff, Nat.reduceLT, Nat.reduceLeDiff, Nat.reduceSub, Nat.reduceMul, Nat.reduceBEq, Int.reduceToNat, Int.reduceLE, Int.reduceLT, Int.reducePow]; rfl
          case eg1 => first | exact True.intro | simp only [go_sem, kn12, rightF, takeK, numberF, Try.ntmps12, reduceIte, reduceCtorEq, Nat.reduceAdd, Nat.reduceEqDiff, Nat.reduceLT, Nat.reduceLeDiff, Nat.reduceSub, Nat.reduceMul, Nat.reduceBEq, Int.reduceToNat, Int.reduceLE, Int.reduceLT, Int.reducePow]
          case en1 => simp only [go_sem, kn12, rightF, takeK, numberF, Try.ntmps12, reduceIte, reduceCtorEq, Nat.reduceAdd, Nat.reduceEqDiff, Nat.reduceLT, Nat.reduceLeDiff, Nat.reduceSub, Nat.reduceMul, Nat.reduceBEq, Int.reduceToNat, Int.reduceLE, Int.reduceLT, Int.reducePow]
          case ek1 => simp only [go_sem, kn12, rightF, takeK, numberF, Try.ntmps12, reduceIte, reduceCtorEq, Nat.reduceAdd, Nat.reduceEqDiff, Nat.reduceLT, Nat.reduceLeDiff, Nat.reduceSub, Nat.reduceMul, Nat.reduceBEq, Int.reduceToNat, Int.reduceLE, Int.reduceLT, Int.reducePow]
          case ev1 =>
            unfold askV
            rw [if_neg]; rfl
            rw [filesP_stop k p fs (by cases hp : p.1; exact .inl rfl; right; simp [hp] at hb1; exact hb1)] at hE
            simp only [askOk, ← hE]
            intro h
            generalize p.2.length = L at h hb2
            cases hp : p.1 <;> simp [hp] at h hb2 <;> omega
        case f14 =>
          intro hb2
          refine AWp.skip ?_
          refine AWp.seq ?_
          refine AWp.reg (S1 := ?S16) (ob := ?o16) (S' := ?K16) tab_ok (knowL_ok kn12_ok) mixed [2, 3] ?r16 ?h16 ?k16 ?w16
          case r16 => simp only [go_sem, kn12, rightF, takeK, numberF, Try.ntmps12, reduceIte, reduceCtorEq, Nat.reduceAdd, Nat.reduceEqDiff, Nat.reduceLT, Nat.reduceLeDiff, Nat.reduceSub, Nat.reduceMul, Nat.reduceBEq, Int.reduceToNat, Int.reduceLE, Int.reduceLT, Int.reducePow]; rfl
          case h16 => first | exact True.intro | omega | (simp only [go_sem, kn12, rightF, takeK, numberF, Try.ntmps12, reduceIte, reduceCtorEq, Nat.reduceAdd, Nat.reduceEqDiff, Nat.reduceLT, Nat.reduceLeDiff, Nat.reduceSub, Nat.reduceMul, Nat.reduceBEq, Int.reduceToNat, Int.reduceLE, Int.reduceLT, Int.reducePow]; done) | (simp only [go_sem, kn12, rightF, takeK, numberF, Try.ntmps12, reduceIte, reduceCtorEq, Nat.reduceAdd, Nat.reduceEqDiff, Nat.reduceLT, Nat.reduceLeDiff, Nat.reduceSub, Nat.reduceMul, Nat.reduceBEq, Int.reduceToNat, Int.reduceLE, Int.reduceLT, Int.reducePow]; omega)
          case k16 => simp only [go_sem, kn12, rightF, takeK, numberF, Try.ntmps12, reduceIte, reduceCtorEq, Nat.reduceAdd, Nat.reduceEqDiff, Nat.reduceLT, Nat.reduceLeDiff, Nat.reduceSub, Nat.reduceMul, Nat.reduceBEq, Int.reduceToNat, Int.reduceLE, Int.reduceLT, Int.reducePow]; rfl
          refine AWp.ret ?_
          refine ends_p (vs := ?vs2) (ob := ?ro2) (vs' := ?ws2) (ks := ?ks2) (ob2 := ?rp2) tab_ok (by simp) ?er2 ?eo2 ?ef2 ?eg2 ?en2 ?ek2 ?ev2
          case er2 => simp only [go_sem, kn12, rightF, takeK, numberF, Try.ntmps12, reduceIte, reduceCtorEq, Nat.reduceAdd, Nat.reduceEqDiff, Nat.reduceLT, Nat.reduceLeDiff, Nat.reduceSub, Nat.reduceMul, Nat.reduceBEq, Int.reduceToNat, Int.reduceLE, Int.reduceLT, Int.reducePow, Try.results12]; rfl
          case eo2 => first | exact True.intro | simp only [go_sem, kn12, rightF, takeK, numberF, Try.ntmps12, reduceIte, reduceCtorEq, Nat.reduceAdd, Nat.reduceEqDiff, Nat.reduceLT, Nat.reduceLeDiff, Nat.reduceSub, Nat.reduceMul, Nat.reduceBEq, Int.reduceToNat, Int.reduceLE, Int.reduceLT, Int.reducePow]
          case ef2 => simp only [go_sem, kn12, rightF, takeK, numberF, Try.ntmps12, reduceIte, reduceCtorEq, Nat.reduceAdd, Nat.reduceEqDiff, Nat.reduceLT, Nat.reduceLeDiff, Nat.reduceSub, Nat.reduceMul, Nat.reduceBEq, Int.reduceToNat, Int.reduceLE, Int.reduceLT, Int.reducePow]; rfl
          case eg2 => first | exact True.intro | simp only [go_sem, kn12, rightF, takeK, numberF, Try.ntmps12, reduceIte, reduceCtorEq, Nat.reduceAdd, Nat.reduceEqDiff, Nat.reduceLT, Nat.reduceLeDiff, Nat.reduceSub, Nat.reduceMul, Nat.reduceBEq, Int.reduceToNat, Int.reduceLE, Int.reduceLT, Int.reducePow]
          case en2 => simp only [go_sem, kn12, rightF, takeK, numberF, Try.ntmps12, reduceIte, reduceCtorEq, Nat.reduceAdd, Nat.reduceEqDiff, Nat.reduceLT, Nat.reduceLeDiff, Nat.reduceSub, Nat.reduceMul, Nat.reduceBEq, Int.reduceToNat, Int.reduceLE, Int.reduceLT, Int.reducePow]
          case ek2 => simp only [go_sem, kn12, rightF, takeK, numberF, Try.ntmps12, reduceIte, reduceCtorEq, Nat.reduceAdd, Nat.reduceEqDiff, Nat.reduceLT, Nat.reduceLeDiff, Nat.reduceSub, Nat.reduceMul, Nat.reduceBEq, Int.reduceToNat, Int.reduceLE, Int.reduceLT, Int.reducePow]
          case ev2 =>
            rw [filesP_stop k p fs (by cases hp : p.1; exact .inl rfl; right; simp [hp] at hb1; exact hb1)] at hE
            unfold askV
            rw [if_pos, ← hE]; rfl
            simp only [askOk, ← hE]
            generalize p.2.length = L at hb2 ⊢
            cases hp : p.1 <;> simp [hp] at hb2 ⊢ <;> omega
  · cases hq

end Go.Proofs.Hg
