/- Walks of functions: what they do, as contracts. -/
import Derived.Test.YtcgmhloohknngaaF4
set_option linter.unusedSimpArgs false
set_option linter.unusedVariables false
namespace Go.Proofs.Hg
open Go.RowKit
set_option maxRecDepth 100000
def takeOk (r : Bool) (n : Int) (s : List UInt8) : Bool := r && decide (n ≤ (s.length : Int))
def takeL (r : Bool) (n : Int) (s : List UInt8) : List UInt8 := if takeOk r n s then s.take n.toNat else [0, 0]
def restL (r : Bool) (n : Int) (s : List UInt8) : List UInt8 := if takeOk r n s then s.drop n.toNat else s
def takeK : Cont := fun fresh H args => match args with
  | [.s (.d (.int .i64 n)), .s (.ptr i oi), .s (.ptr j oj)] => (match H i, H j with
    | some (.cells [.d (.bool r)] ti), some (.cells [.d (.slice z e es)] tj) => some ⟨.one (dv (.slice (if takeOk r n (unb es) then z else none) 1 (brow (takeL r n (unb es))))), [(i, .cells [.d (.bool r)] ti), (j, .cells [.d (.slice z e es)] tj)], false,
        [(i, .o (.cells [.d (.bool (takeOk r n (unb es)))] ti)), (j, .o (.cells [.d (.slice z 1 (brow (restL r n (unb es))))] tj))], oi = 0 ∧ oj = 0 ∧ i ≠ j ∧ e = 1 ∧ 0 ≤ n ∧ ti = 4 ∧ tj = 25 ∧ es = brow (unb es)⟩
    | _, _ => none)
  | _ => none
theorem takeK_ok : ContOk Try.prog 31 takeK := by
  intro fresh H args r0 hr hob
  unfold takeK at hr
  split at hr
  · rename_i n i oi j oj
    split at hr
    · rename_i r ti z e es tj hHi hHj
      injection hr with hr
      subst hr
      obtain ⟨h1, h2, h3, h4, h5, h6, h7, h8⟩ : oi = 0 ∧ oj = 0 ∧ i ≠ j ∧ e = 1 ∧ 0 ≤ n ∧ ti = 4 ∧ tj = 25 ∧ es = brow (unb es) := hob
      generalize unb es = s at *
      subst h1 h2 h4 h6 h7 h8
      have h3' : j ≠ i := fun e => h3 e.symm
      refine fn_gives (i := ⟨Try.f31, _, ⟨[(0, .one (dv (.int .i64 n))), (1, .one (.s (.ptr 0 0))), (2, .one (.s (.ptr 1 0)))], [(0, .cells [.d (.bool r)] 4), (1, .cells [.d (.slice z 1 (brow s))] 25)], 2⟩, 2, fun x => if x = 0 then i else j⟩) (nargs := 3) Try.func31 rfl (by kernel_rfl) ?_ ?_
      rotate_left
      · exact { len := ⟨rfl, Nat.le_of_ble_eq_true (by kernel_rfl)⟩, env := (by simp [AVal.ren, AV.ren, Sc.ren, AVal.ids, AV.ids, Sc.ids]), heap := (by simp [AObj.ren, AObj.ids, Sc.ren, Sc.ids]), nxt := rfl, inj := (by simp [h3, h3']) }
      show AWp Try.prog Try.f31.ntmps 2 _ _ _
      refine AWp.seq ?_
      refine AWp.reg (S1 := ?S1) (ob := ?o1) (S' := ?K1) tab_ok (noKnow _) mixed [0, 1, 2] ?r1 ?h1 ?k1 ?w1
      case r1 => simp only [go_sem, Try.ntmps31, reduceIte, reduceCtorEq, Nat.reduceAdd, Nat.reduceEqDiff, Nat.reduceLT, Nat.reduceLeDiff, Nat.reduceSub, Nat.reduceMul, Nat.reduceBEq, Int.reduceToNat, Int.reduceLE, Int.reduceLT, Int.reducePow]; rfl
      case h1 => first | exact True.intro | omega | (simp only [go_sem, Try.ntmps31, reduceIte, reduceCtorEq, Nat.reduceAdd, Nat.reduceEqDiff, Nat.reduceLT, Nat.reduceLeDiff, Nat.reduceSub, Nat.reduceMul, Nat.reduceBEq, Int.reduceToNat, Int.reduceLE, Int.reduceLT, Int.reducePow]; done) | (simp only [go_sem, Try.ntmps31, reduceIte, reduceCtorEq, Nat.reduceAdd, Nat.reduceEqDiff, Nat.reduceLT, Nat.reduceLeDiff, Nat.reduceSub, Nat.reduceMul, Nat.reduceBEq, Int.reduceToNat, Int.reduceLE, Int.reduceLT, Int.reducePow]; omega)
      case k1 => simp only [go_sem, Try.ntmps31, reduceIte, reduceCtorEq, Nat.reduceAdd, Nat.reduceEqDiff, Nat.reduceLT, Nat.reduceLeDiff, Nat.reduceSub, Nat.reduceMul, Nat.reduceBEq, Int.reduceToNat, Int.reduceLE, Int.reduceLT, Int.reducePow]; rfl
      refine AWp.seq ?_
      refine AWp.seq ?_
      refine AWp.reg (S1 := ?S2) (ob := ?o2) (S' := ?K2) tab_ok (noKnow _) mixed [0, 1, 2] ?r2 ?h2 ?k2 ?w2
      case r2 => simp only [go_sem, Try.ntmps31, reduceIte, reduceCtorEq, Nat.reduceAdd, Nat.reduceEqDiff, Nat.reduceLT, Nat.reduceLeDiff, Nat.reduceSub, Nat.reduceMul, Nat.reduceBEq, Int.reduceToNat, Int.reduceLE, Int.reduceLT, Int.reducePow]; rfl
      case h2 => first | exact True.intro | omega | (simp only [go_sem, Try.ntmps31, reduceIte, reduceCtorEq, Nat.reduceAdd, Nat.reduceEqDiff, Nat.reduceLT, Nat.reduceLeDiff, Nat.reduceSub, Nat.reduceMul, Nat.reduceBEq, Int.reduceToNat, Int.reduceLE, Int.reduceLT, Int.reducePow]; done) | (simp only [go_sem, Try.ntmps31, reduceIte, reduceCtorEq, Nat.reduceAdd, Nat.reduceEqDiff, Nat.reduceLT, Nat.reduceLeDiff, Nat.reduceSub, Nat.reduceMul, Nat.reduceBEq, Int.reduceToNat, Int.reduceLE, Int.reduceLT, Int.reducePow]; omega)
      case k2 => simp only [go_sem, Try.ntmps31, reduceIte, reduceCtorEq, Nat.reduceAdd, Nat.reduceEqDiff, Nat.reduceLT, Nat.reduceLeDiff, Nat.reduceSub, Nat.reduceMul, Nat.reduceBEq, Int.reduceToNat, Int.reduceLE, Int.reduceLT, Int.reducePow]; rfl
      refine AWp.seq ?_
      refine AWp.reg (S1 := ?S3) (ob := ?o3) (S' := ?K3) tab_ok (noKnow _) mixed [0, 2, 14] ?r3 ?h3 ?k3 ?w3
      case r3 => simp only [go_sem, Try.ntmps31, reduceIte, reduceCtorEq, Nat.reduceAdd, Nat.reduceEqDiff, Nat.reduceLT, Nat.reduceLeDiff, Nat.reduceSub, Nat.reduceMul, Nat.reduceBEq, Int.reduceToNat, Int.reduceLE, Int.reduceLT, Int.reducePow]; rfl
      case h3 => first | exact True.intro | omega | (simp only [go_sem, Try.ntmps31, reduceIte, reduceCtorEq, Nat.reduceAdd, Nat.reduceEqDiff, Nat.reduceLT, Nat.reduceLeDiff, Nat.reduceSub, Nat.reduceMul, Nat.reduceBEq, Int.reduceToNat, Int.reduceLE, Int.reduceLT, Int.reducePow]; done) | (simp only [go_sem, Try.ntmps31, reduceIte, reduceCtorEq, Nat.reduceAdd, Nat.reduceEqDiff, Nat.reduceLT, Nat.reduceLeDiff, Nat.reduceSub, Nat.reduceMul, Nat.reduceBEq, Int.reduceToNat, Int.reduceLE, Int.reduceLT, Int.reducePow]; omega)
      case k3 => simp only [go_sem, Try.ntmps31, reduceIte, reduceCtorEq, Nat.reduceAdd, Nat.reduceEqDiff, Nat.reduceLT, Nat.reduceLeDiff, Nat.reduceSub, Nat.reduceMul, Nat.reduceBEq, Int.reduceToNat, Int.reduceLE, Int.reduceLT, Int.reducePow]; rfl
      refine AWp.cond (b := ?b4) ?c4 ?t4 ?f4
      case c4 => simp only [go_sem, Try.ntmps31, reduceIte, reduceCtorEq, Nat.reduceAdd, Nat.reduceEqDiff, Nat.reduceLT, Nat.reduceLeDiff, Nat.reduceSub, Nat.reduceMul, Nat.reduceBEq, Int.reduceToNat, Int.reduceLE, Int.reduceLT, Int.reducePow]; rfl
      case t4 =>
        intro hb1
        have ok1 : (r && decide (n ≤ (s.length : Int))) = false := by rw [Bool.not_eq_true'] at hb1; exact hb1
        refine AWp.seq ?_
        refine AWp.reg (S1 := ?S5) (ob := ?o5) (S' := ?K5) tab_ok (noKnow _) mixed [4] ?r5 ?h5 ?k5 ?w5
        case r5 => simp only [go_sem, Try.ntmps31, reduceIte, reduceCtorEq, Nat.reduceAdd, Nat.reduceEqDiff, Nat.reduceLT, Nat.reduceLeDiff, Nat.reduceSub, Nat.reduceMul, Nat.reduceBEq, Int.reduceToNat, Int.reduceLE, Int.reduceLT, Int.reducePow]; rfl
        case h5 => first | exact True.intro | omega | (simp only [go_sem, Try.ntmps31, reduceIte, reduceCtorEq, Nat.reduceAdd, Nat.reduceEqDiff, Nat.reduceLT, Nat.reduceLeDiff, Nat.reduceSub, Nat.reduceMul, Nat.reduceBEq, Int.reduceToNat, Int.reduceLE, Int.reduceLT, Int.reducePow]; done) | (simp only [go_sem, Try.ntmps31, reduceIte, reduceCtorEq, Nat.reduceAdd, Nat.reduceEqDiff, Nat.reduceLT, Nat.reduceLeDiff, Nat.reduceSub, Nat.reduceMul, Nat.reduceBEq, Int.reduceToNat, Int.reduceLE, Int.reduceLT, Int.reducePow]; omega)
        case k5 => simp only [go_sem, Try.ntmps31, reduceIte, reduceCtorEq, Nat.reduceAdd, Nat.reduceEqDiff, Nat.reduceLT, Nat.reduceLeDiff, Nat.reduceSub, Nat.reduceMul, Nat.reduceBEq, Int.reduceToNat, Int.reduceLE, Int.reduceLT, Int.reducePow]; rfl
        refine AWp.ret ?_
        refine ends_f (vs := ?vs1) (ob := ?ro1) (vs' := ?ws1) (ks := ?ks1) (ob2 := ?rp1) (ex := none) (g1 := fun x => if x = 0 then i else j) tab_ok (by simp) ?er1 ?eo1 ?ef1 ?eg1 ?en1 ?ek1 ?et1
        case er1 => simp only [go_sem, Try.ntmps31, reduceIte, reduceCtorEq, Nat.reduceAdd, Nat.reduceEqDiff, Nat.reduceLT, Nat.reduceLeDiff, Nat.reduceSub, Nat.reduceMul, Nat.reduceBEq, Int.reduceToNat, Int.reduceLE, Int.reduceLT, Int.reducePow, Try.results31]; rfl
        case eo1 => first | exact True.intro | (simp only [go_sem, Try.ntmps31, reduceIte, reduceCtorEq, Nat.reduceAdd, Nat.reduceEqDiff, Nat.reduceLT, Nat.reduceLeDiff, Nat.reduceSub, Nat.reduceMul, Nat.reduceBEq, Int.reduceToNat, Int.reduceLE, Int.reduceLT, Int.reducePow]; done)
        case ef1 => simp only [go_sem, Try.ntmps31, reduceIte, reduceCtorEq, Nat.reduceAdd, Nat.reduceEqDiff, Nat.reduceLT, Nat.reduceLeDiff, Nat.reduceSub, Nat.reduceMul, Nat.reduceBEq, Int.reduceToNat, Int.reduceLE, Int.reduceLT, Int.reducePow]; rfl
        case eg1 => first | exact True.intro | (simp only [go_sem, Try.ntmps31, reduceIte, reduceCtorEq, Nat.reduceAdd, Nat.reduceEqDiff, Nat.reduceLT, Nat.reduceLeDiff, Nat.reduceSub, Nat.reduceMul, Nat.reduceBEq, Int.reduceToNat, Int.reduceLE, Int.reduceLT, Int.reducePow]; done)
        case en1 => simp only [go_sem, Try.ntmps31, reduceIte, reduceCtorEq, Nat.reduceAdd, Nat.reduceEqDiff, Nat.reduceLT, Nat.reduceLeDiff, Nat.reduceSub, Nat.reduceMul, Nat.reduceBEq, Int.reduceToNat, Int.reduceLE, Int.reduceLT, Int.reducePow]
        case ek1 => simp only [go_sem, Try.ntmps31, reduceIte, reduceCtorEq, Nat.reduceAdd, Nat.reduceEqDiff, Nat.reduceLT, Nat.reduceLeDiff, Nat.reduceSub, Nat.reduceMul, Nat.reduceBEq, Int.reduceToNat, Int.reduceLE, Int.reduceLT, Int.reducePow]
        case et1 =>
          refine { val := ?_, plain := (by simp [pack]), vids := (by simp [pack, AVal.ids, AV.ids, Sc.ids]), fr := rfl, exn := (by simp), hand := (by simp), wr := ?_ }
          · simp [pack, AVal.ren, AV.ren, Sc.ren, takeOk, takeL, restL, brow, ok1]
          · intro p hp
            simp only [List.mem_cons, List.not_mem_nil, or_false] at hp
            rcases hp with rfl | rfl
            · exact .inr ⟨0, _, rfl, rfl, by simp [AObj.ren, Sc.ren, takeOk, ok1], by simp [CallOut.told, lookN], by simp [AObj.ids, Sc.ids]⟩
            · exact .inr ⟨1, _, rfl, rfl, by simp [AObj.ren, Sc.ren, takeOk, restL, ok1], by simp [CallOut.told, lookN], by simp [AObj.ids, Sc.ids]⟩
      case f4 =>
        intro hb1
        have ok2 : (r && decide (n ≤ (s.length : Int))) = true := by simpa using hb1
        have hn : n ≤ (s.length : Int) := by simp at ok2; exact ok2.2
        refine AWp.skip ?_
        refine AWp.seq ?_
        refine AWp.reg (S1 := ?S6) (ob := ?o6) (S' := ?K6) tab_ok (noKnow _) mixed [0, 2, 5] ?r6 ?h6 ?k6 ?w6
        case r6 => simp only [go_sem, Try.ntmps31, reduceIte, reduceCtorEq, Nat.reduceAdd, Nat.reduceEqDiff, Nat.reduceLT, Nat.reduceLeDiff, Nat.reduceSub, Nat.reduceMul, Nat.reduceBEq, Int.reduceToNat, Int.reduceLE, Int.reduceLT, Int.reducePow]; rfl
        case h6 => first | exact True.intro | omega | (simp only [go_sem, Try.ntmps31, reduceIte, reduceCtorEq, Nat.reduceAdd, Nat.reduceEqDiff, Nat.reduceLT, Nat.reduceLeDiff, Nat.reduceSub, Nat.reduceMul, Nat.reduceBEq, Int.reduceToNat, Int.reduceLE, Int.reduceLT, Int.reducePow]; done) | (simp only [go_sem, Try.ntmps31, reduceIte, reduceCtorEq, Nat.reduceAdd, Nat.reduceEqDiff, Nat.reduceLT, Nat.reduceLeDiff, Nat.reduceSub, Nat.reduceMul, Nat.reduceBEq, Int.reduceToNat, Int.reduceLE, Int.reduceLT, Int.reducePow]; omega)
        case k6 => simp only [go_sem, Try.ntmps31, reduceIte, reduceCtorEq, Nat.reduceAdd, Nat.reduceEqDiff, Nat.reduceLT, Nat.reduceLeDiff, Nat.reduceSub, Nat.reduceMul, Nat.reduceBEq, Int.reduceToNat, Int.reduceLE, Int.reduceLT, Int.reducePow]; rfl
        refine AWp.seq ?_
        refine AWp.reg (S1 := ?S7) (ob := ?o7) (S' := ?K7) tab_ok (noKnow _) mixed [5] ?r7 ?h7 ?k7 ?w7
        case r7 => simp only [go_sem, Try.ntmps31, reduceIte, reduceCtorEq, Nat.reduceAdd, Nat.reduceEqDiff, Nat.reduceLT, Nat.reduceLeDiff, Nat.reduceSub, Nat.reduceMul, Nat.reduceBEq, Int.reduceToNat, Int.reduceLE, Int.reduceLT, Int.reducePow]; rfl
        case h7 => first | exact True.intro | omega | (simp only [go_sem, Try.ntmps31, reduceIte, reduceCtorEq, Nat.reduceAdd, Nat.reduceEqDiff, Nat.reduceLT, Nat.reduceLeDiff, Nat.reduceSub, Nat.reduceMul, Nat.reduceBEq, Int.reduceToNat, Int.reduceLE, Int.reduceLT, Int.reducePow]; done) | (simp only [go_sem, Try.ntmps31, reduceIte, reduceCtorEq, Nat.reduceAdd, Nat.reduceEqDiff, Nat.reduceLT, Nat.reduceLeDiff, Nat.reduceSub, Nat.reduceMul, Nat.reduceBEq, Int.reduceToNat, Int.reduceLE, Int.reduceLT, Int.reducePow]; omega)
        case k7 => simp only [go_sem, Try.ntmps31, reduceIte, reduceCtorEq, Nat.reduceAdd, Nat.reduceEqDiff, Nat.reduceLT, Nat.reduceLeDiff, Nat.reduceSub, Nat.reduceMul, Nat.reduceBEq, Int.reduceToNat, Int.reduceLE, Int.reduceLT, Int.reducePow]; rfl
        refine AWp.seq ?_
        refine AWp.reg (S1 := ?S8) (ob := ?o8) (S' := ?K8) tab_ok (noKnow _) mixed [4] ?r8 ?h8 ?k8 ?w8
        case r8 => simp only [go_sem, Try.ntmps31, reduceIte, reduceCtorEq, Nat.reduceAdd, Nat.reduceEqDiff, Nat.reduceLT, Nat.reduceLeDiff, Nat.reduceSub, Nat.reduceMul, Nat.reduceBEq, Int.reduceToNat, Int.reduceLE, Int.reduceLT, Int.reducePow]; rfl
        case h8 => first | exact True.intro | omega | (simp only [go_sem, Try.ntmps31, reduceIte, reduceCtorEq, Nat.reduceAdd, Nat.reduceEqDiff, Nat.reduceLT, Nat.reduceLeDiff, Nat.reduceSub, Nat.reduceMul, Nat.reduceBEq, Int.reduceToNat, Int.reduceLE, Int.reduceLT, Int.reducePow]; done) | (simp only [go_sem, Try.ntmps31, reduceIte, reduceCtorEq, Nat.reduceAdd, Nat.reduceEqDiff, Nat.reduceLT, Nat.reduceLeDiff, Nat.reduceSub, Nat.reduceMul, Nat.reduceBEq, Int.reduceToNat, Int.reduceLE, Int.reduceLT, Int.reducePow]; omega)
        case k8 => simp only [go_sem, Try.ntmps31, reduceIte, reduceCtorEq, Nat.reduceAdd, Nat.reduceEqDiff, Nat.reduceLT, Nat.reduceLeDiff, Nat.reduceSub, Nat.reduceMul, Nat.reduceBEq, Int.reduceToNat, Int.reduceLE, Int.reduceLT, Int.reducePow]; rfl
        refine AWp.ret ?_
        refine ends_f (vs := ?vs2) (ob := ?ro2) (vs' := ?ws2) (ks := ?ks2) (ob2 := ?rp2) (ex := none) (g1 := fun x => if x = 0 then i else j) tab_ok (by simp) ?er2 ?eo2 ?ef2 ?eg2 ?en2 ?ek2 ?et2
        case er2 => simp only [go_sem, Try.ntmps31, reduceIte, reduceCtorEq, Nat.reduceAdd, Nat.reduceEqDiff, Nat.reduceLT, Nat.reduceLeDiff, Nat.reduceSub, Nat.reduceMul, Nat.reduceBEq, Int.reduceToNat, Int.reduceLE, Int.reduceLT, Int.reducePow, Try.results31]; rfl
        case eo2 => first | exact True.intro | (simp only [go_sem, Try.ntmps31, reduceIte, reduceCtorEq, Nat.reduceAdd, Nat.reduceEqDiff, Nat.reduceLT, Nat.reduceLeDiff, Nat.reduceSub, Nat.reduceMul, Nat.reduceBEq, Int.reduceToNat, Int.reduceLE, Int.reduceLT, Int.reducePow]; done)
        case ef2 => simp only [go_sem, Try.ntmps31, reduceIte, reduceCtorEq, Nat.reduceAdd, Nat.reduceEqDiff, Nat.reduceLT, Nat.reduceLeDiff, Nat.reduceSub, Nat.reduceMul, Nat.reduceBEq, Int.reduceToNat, Int.reduceLE, Int.reduceLT, Int.reducePow]; rfl
        case eg2 => first | exact True.intro | (simp only [go_sem, Try.ntmps31, reduceIte, reduceCtorEq, Nat.reduceAdd, Nat.reduceEqDiff, Nat.reduceLT, Nat.reduceLeDiff, Nat.reduceSub, Nat.reduceMul, Nat.reduceBEq, Int.reduceToNat, Int.reduceLE, Int.reduceLT, Int.reducePow]; done)
        case en2 => simp only [go_sem, Try.ntmps31, reduceIte, reduceCtorEq, Nat.reduceAdd, Nat.reduceEqDiff, Nat.reduceLT, Nat.reduceLeDiff, Nat.reduceSub, Nat.reduceMul, Nat.reduceBEq, Int.reduceToNat, Int.reduceLE, Int.reduceLT, Int.reducePow]
        case ek2 => simp only [go_sem, Try.ntmps31, reduceIte, reduceCtorEq, Nat.reduceAdd, Nat.reduceEqDiff, Nat.reduceLT, Nat.reduceLeDiff, Nat.reduceSub, Nat.reduceMul, Nat.reduceBEq, Int.reduceToNat, Int.reduceLE, Int.reduceLT, Int.reducePow]
        case et2 =>
          refine { val := ?_, plain := (by simp [pack]), vids := (by simp [pack, AVal.ids, AV.ids, Sc.ids]), fr := rfl, exn := (by simp), hand := (by simp), wr := ?_ }
          · simp [pack, AVal.ren, AV.ren, Sc.ren, takeOk, takeL, restL, brow, ok2]
          · intro p hp
            simp only [List.mem_cons, List.not_mem_nil, or_false] at hp
            rcases hp with rfl | rfl
            · exact .inr ⟨0, _, rfl, rfl, by simp [AObj.ren, Sc.ren, takeOk, ok2], by simp [CallOut.told, lookN], by simp [AObj.ids, Sc.ids]⟩
            · exact .inr ⟨1, _, rfl, rfl, by simp [AObj.ren, Sc.ren, takeOk, restL, ok2], by simp [CallOut.told, lookN], by simp [AObj.ids, Sc.ids]⟩
    · cases hr
  · cases hr

end Go.Proofs.Hg
