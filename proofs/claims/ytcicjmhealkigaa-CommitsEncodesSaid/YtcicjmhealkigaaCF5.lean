import Derived.Test.YtcicjmhealkigaaCF4
set_option linter.unusedSimpArgs false
set_option linter.unusedVariables false
set_option maxHeartbeats 4000000
namespace Go.Proofs.Hg
open Go.RowKit
set_option maxRecDepth 100000
def lowK : Cont := fun fresh H args => match args with
  | [.s (.row i e off len none), .s (.d (.int .u64 n)), .s (.d (.int .i64 k))] => (match H i with
    | some (.row es ty) => if ty = 5 then some ⟨.one (.s (.row fresh 1 0 (es.length + k.toNat) none)), [(i, .row es ty)], true, [(fresh, .o (.row (es ++ brow (lowB n k.toNat)) 5)), (i, .none)],
        e = 1 ∧ off = 0 ∧ len = es.length ∧ 1 ≤ k ∧ k ≤ 8 ∧ es.length ≤ 1000000000000⟩ else none
    | _ => none)
  | [.s (.d (.slice (some true) e0 [])), .s (.d (.int .u64 n)), .s (.d (.int .i64 k))] => some ⟨.one (.s (.row fresh 1 0 k.toNat none)), [], true, [(fresh, .o (.row (brow (lowB n k.toNat)) 5))], 1 ≤ k ∧ k ≤ 8⟩
  | _ => none
theorem lowK_ok : ContOk Try.prog 24 lowK := by
  intro fresh H args r hr hob
  unfold lowK at hr
  split at hr
  · rename_i i e off len n k
    split at hr
    · rename_i es ty hH
      split at hr
      · rename_i hty
        subst hty
        injection hr with hr
        subst hr
        obtain ⟨h1, h2, h3, h4, h5, h6⟩ : e = 1 ∧ off = 0 ∧ len = es.length ∧ 1 ≤ k ∧ k ≤ 8 ∧ es.length ≤ 1000000000000 := hob
        subst h1 h2 h3
        refine fn_gives (i := ⟨Try.f24, _, ⟨[(0, .one (.s (.row 0 1 0 es.length none))), (1, .one (dv (.int .u64 n))), (2, .one (dv (.int .i64 k)))], [(0, .row es 5)], 1⟩, 1, fun _ => i⟩) (nargs := 3) Try.func24 rfl (by kernel_rfl) ?_ ?_
        rotate_left
        · exact { len := ⟨rfl, Nat.le_of_ble_eq_true (by kernel_rfl)⟩, env := (by simp [AVal.ren, AV.ren, Sc.ren, AVal.ids, AV.ids, Sc.ids]), heap := (by simp [AObj.ren, AObj.ids]), nxt := rfl, inj := (by simp) }
        show AWp Try.prog Try.f24.ntmps 1 _ _ _
        refine AWp.seq ?_
        refine AWp.reg (S1 := ?S1) (ob := ?o1) (S' := ?K1) tab_ok (noKnow _) mixed [0, 1, 2] ?r1 ?h1 ?k1 ?w1
        case r1 => simp only [go_sem, Try.ntmps24, reduceIte, reduceCtorEq, Nat.reduceAdd, Nat.reduceEqDiff, Nat.reduceLT, Nat.reduceLeDiff, Nat.reduceSub, Nat.reduceMul, Nat.reduceBEq, Int.reduceToNat, Int.reduceLE, Int.reduceLT, Int.reducePow]; rfl
        case h1 => first | exact True.intro | omega | (simp only [go_sem, Try.ntmps24, reduceIte, reduceCtorEq, Nat.reduceAdd, Nat.reduceEqDiff, Nat.reduceLT, Nat.reduceLeDiff, Nat.reduceSub, Nat.reduceMul, Nat.reduceBEq, Int.reduceToNat, Int.reduceLE, Int.reduceLT, Int.reducePow]; done) | (simp only [go_sem, Try.ntmps24, reduceIte, reduceCtorEq, Nat.reduceAdd, Nat.reduceEqDiff, Nat.reduceLT, Nat.reduceLeDiff, Nat.reduceSub, Nat.reduceMul, Nat.reduceBEq, Int.reduceToNat, Int.reduceLE, Int.reduceLT, Int.reducePow]; omega)
        case k1 => simp only [go_sem, Try.ntmps24, reduceIte, reduceCtorEq, Nat.reduceAdd, Nat.reduceEqDiff, Nat.reduceLT, Nat.reduceLeDiff, Nat.reduceSub, Nat.reduceMul, Nat.reduceBEq, Int.reduceToNat, Int.reduceLE, Int.reduceLT, Int.reducePow]; rfl
        refine AWp.seq ?_
        refine AWp.seq ?_
        refine AWp.reg (S1 := ?S2) (ob := ?o2) (S' := ?K2) tab_ok (noKnow _) mixed [0, 1, 8, 9] ?r2 ?h2 ?k2 ?w2
        case r2 => simp only [go_sem, Try.ntmps24, reduceIte, reduceCtorEq, Nat.reduceAdd, Nat.reduceEqDiff, Nat.reduceLT, Nat.reduceLeDiff, Nat.reduceSub, Nat.reduceMul, Nat.reduceBEq, Int.reduceToNat, Int.reduceLE, Int.reduceLT, Int.reducePow]; rfl
        case h2 => first | exact True.intro | omega | (simp only [go_sem, Try.ntmps24, reduceIte, reduceCtorEq, Nat.reduceAdd, Nat.reduceEqDiff, Nat.reduceLT, Nat.reduceLeDiff, Nat.reduceSub, Nat.reduceMul, Nat.reduceBEq, Int.reduceToNat, Int.reduceLE, Int.reduceLT, Int.reducePow]; done) | (simp only [go_sem, Try.ntmps24, reduceIte, reduceCtorEq, Nat.reduceAdd, Nat.reduceEqDiff, Nat.reduceLT, Nat.reduceLeDiff, Nat.reduceSub, Nat.reduceMul, Nat.reduceBEq, Int.reduceToNat, Int.reduceLE, Int.reduceLT, Int.reducePow]; omega)
        case k2 => simp only [go_sem, Try.ntmps24, reduceIte, reduceCtorEq, Nat.reduceAdd, Nat.reduceEqDiff, Nat.reduceLT, Nat.reduceLeDiff, Nat.reduceSub, Nat.reduceMul, Nat.reduceBEq, Int.reduceToNat, Int.reduceLE, Int.reduceLT, Int.reducePow]; rfl
        refine AWp.block ?_
        refine AWp.conv (Conv.rename (S' := ⟨[(0, .one (.s (.row 1 1 0 (es.length + (lowB n 0).length) none))), (1, .one (dv (.int .u64 n))), (8, .one (dv (.int .i64 k))), (9, .one (dv (.int .i64 ((0 : Nat) : Int))))], [(1, .row (es ++ brow (lowB n 0)) 5)], 2⟩) (fun j => if j = 1 then 0 else j) (by simp; done) (by simp; done) (by simp [lookN, AVal.ren, AV.ren, Sc.ren, AVal.ids, AV.ids, Sc.ids, lowB]; done) (by simp [lookN, AObj.ren, AObj.ids, lowB, brow]; done) (by simp; done)) ?_
        refine AWp.loop (fun m S => ∃ i : Nat, i ≤ k.toNat ∧ m = k.toNat - i ∧ S = ⟨[(0, .one (.s (.row 1 1 0 (es.length + (lowB n i).length) none))), (1, .one (dv (.int .u64 n))), (8, .one (dv (.int .i64 k))), (9, .one (dv (.int .i64 (i : Int))))], [(1, .row (es ++ brow (lowB n i)) 5)], 2⟩) k.toNat ?i1 ?n1
        case i1 =>
          exact ⟨0, by omega, rfl, by simp [lowB, brow, St.nilT, St.keep, keepE, lookN]⟩
        case n1 =>
          rintro m S ⟨i, hi0, rfl, rfl⟩
          refine AWp.seq ?_
          refine AWp.reg (S1 := ?S3) (ob := ?o3) (S' := ?K3) tab_ok (noKnow _) mixed [0, 1, 8, 9, 10] ?r3 ?h3 ?k3 ?w3
          case r3 => simp only [go_sem, Try.ntmps24, reduceIte, reduceCtorEq, Nat.reduceAdd, Nat.reduceEqDiff, Nat.reduceLT, Nat.reduceLeDiff, Nat.reduceSub, Nat.reduceMul, Nat.reduceBEq, Int.reduceToNat, Int.reduceLE, Int.reduceLT, Int.reducePow]; rfl
          case h3 => first | exact True.intro | omega | (simp only [go_sem, Try.ntmps24, reduceIte, reduceCtorEq, Nat.reduceAdd, Nat.reduceEqDiff, Nat.reduceLT, Nat.reduceLeDiff, Nat.reduceSub, Nat.reduceMul, Nat.reduceBEq, Int.reduceToNat, Int.reduceLE, Int.reduceLT, Int.reducePow]; done) | (simp only [go_sem, Try.ntmps24, reduceIte, reduceCtorEq, Nat.reduceAdd, Nat.reduceEqDiff, Nat.reduceLT, Nat.reduceLeDiff, Nat.reduceSub, Nat.reduceMul, Nat.reduceBEq, Int.reduceToNat, Int.reduceLE, Int.reduceLT, Int.reducePow]; omega)
          case k3 => simp only [go_sem, Try.ntmps24, reduceIte, reduceCtorEq, Nat.reduceAdd, Nat.reduceEqDiff, Nat.reduceLT, Nat.reduceLeDiff, Nat.reduceSub, Nat.reduceMul, Nat.reduceBEq, Int.reduceToNat, Int.reduceLE, Int.reduceLT, Int.reducePow]; rfl
          refine AWp.seq ?_
          refine AWp.cond (b := ?b4) ?c4 ?t4 ?f4
          case c4 => simp only [go_sem, Try.ntmps24, reduceIte, reduceCtorEq, Nat.reduceAdd, Nat.reduceEqDiff, Nat.reduceLT, Nat.reduceLeDiff, Nat.reduceSub, Nat.reduceMul, Nat.reduceBEq, Int.reduceToNat, Int.reduceLE, Int.reduceLT, Int.reducePow]; rfl
          case t4 =>
            intro hb1
            have hi : i < k.toNat := by simp at hb1; omega
            have hsh := low_sh2 (i := i) (by omega)
            refine AWp.skip ?_
            refine AWp.seq ?_
            refine AWp.block ?_
            refine AWp.seq ?_
            refine AWp.reg (S1 := ?S5) (ob := ?o5) (S' := ?K5) tab_ok (noKnow _) mixed [0, 1, 7, 8, 9] ?r5 ?h5 ?k5 ?w5
            case r5 => simp only [go_sem, Try.ntmps24, reduceIte, reduceCtorEq, Nat.reduceAdd, Nat.reduceEqDiff, Nat.reduceLT, Nat.reduceLeDiff, Nat.reduceSub, Nat.reduceMul, Nat.reduceBEq, Int.reduceToNat, Int.reduceLE, Int.reduceLT, Int.reducePow]; rfl
            case h5 => first | exact True.intro | omega | (simp only [go_sem, Try.ntmps24, reduceIte, reduceCtorEq, Nat.reduceAdd, Nat.reduceEqDiff, Nat.reduceLT, Nat.reduceLeDiff, Nat.reduceSub, Nat.reduceMul, Nat.reduceBEq, Int.reduceToNat, Int.reduceLE, Int.reduceLT, Int.reducePow]; done) | (simp only [go_sem, Try.ntmps24, reduceIte, reduceCtorEq, Nat.reduceAdd, Nat.reduceEqDiff, Nat.reduceLT, Nat.reduceLeDiff, Nat.reduceSub, Nat.reduceMul, Nat.reduceBEq, Int.reduceToNat, Int.reduceLE, Int.reduceLT, Int.reducePow]; omega)
            case k5 => simp only [go_sem, Try.ntmps24, reduceIte, reduceCtorEq, Nat.reduceAdd, Nat.reduceEqDiff, Nat.reduceLT, Nat.reduceLeDiff, Nat.reduceSub, Nat.reduceMul, Nat.reduceBEq, Int.reduceToNat, Int.reduceLE, Int.reduceLT, Int.reducePow]; rfl
            refine AWp.reg (S1 := ?S6) (ob := ?o6) (S' := ?K6) tab_ok (noKnow _) mixed [0, 1, 8, 9] ?r6 ?h6 ?k6 ?w6
            case r6 => simp only [go_sem, Try.ntmps24, reduceIte, reduceCtorEq, Nat.reduceAdd, Nat.reduceEqDiff, Nat.reduceLT, Nat.reduceLeDiff, Nat.reduceSub, Nat.reduceMul, Nat.reduceBEq, Int.reduceToNat, Int.reduceLE, Int.reduceLT, Int.reducePow, hsh]; rfl
            case h6 =>
              rw [lowB_len]
              omega
            case k6 => simp only [go_sem, Try.ntmps24, reduceIte, reduceCtorEq, Nat.reduceAdd, Nat.reduceEqDiff, Nat.reduceLT, Nat.reduceLeDiff, Nat.reduceSub, Nat.reduceMul, Nat.reduceBEq, Int.reduceToNat, Int.reduceLE, Int.reduceLT, Int.reducePow]; rfl
            refine AWp.reg (S1 := ?S7) (ob := ?o7) (S' := ?K7) tab_ok (noKnow _) mixed [0, 1, 8, 9] ?r7 ?h7 ?k7 ?w7
            case r7 => simp only [go_sem, Try.ntmps24, reduceIte, reduceCtorEq, Nat.reduceAdd, Nat.reduceEqDiff, Nat.reduceLT, Nat.reduceLeDiff, Nat.reduceSub, Nat.reduceMul, Nat.reduceBEq, Int.reduceToNat, Int.reduceLE, Int.reduceLT, Int.reducePow]; rfl
            case h7 => first | exact True.intro | omega | (simp only [go_sem, Try.ntmps24, reduceIte, reduceCtorEq, Nat.reduceAdd, Nat.reduceEqDiff, Nat.reduceLT, Nat.reduceLeDiff, Nat.reduceSub, Nat.reduceMul, Nat.reduceBEq, Int.reduceToNat, Int.reduceLE, Int.reduceLT, Int.reducePow]; done) | (simp only [go_sem, Try.ntmps24, reduceIte, reduceCtorEq, Nat.reduceAdd, Nat.reduceEqDiff, Nat.reduceLT, Nat.reduceLeDiff, Nat.reduceSub, Nat.reduceMul, Nat.reduceBEq, Int.reduceToNat, Int.reduceLE, Int.reduceLT, Int.reducePow]; omega)
            case k7 => simp only [go_sem, Try.ntmps24, reduceIte, reduceCtorEq, Nat.reduceAdd, Nat.reduceEqDiff, Nat.reduceLT, Nat.reduceLeDiff, Nat.reduceSub, Nat.reduceMul, Nat.reduceBEq, Int.reduceToNat, Int.reduceLE, Int.reduceLT, Int.reducePow]; rfl
            refine ⟨k.toNat - (i + 1), ⟨[(0, .one (.s (.row 1 1 0 (es.length + (lowB n i ++ [u8 (n / 2 ^ (8 * i))]).length) none))), (1, .one (dv (.int .u64 n))), (8, .one (dv (.int .i64 k))), (9, .one (dv (.int .i64 ((i + 1 : Nat) : Int))))], [(1, .row (es ++ brow (lowB n i ++ [u8 (n / 2 ^ (8 * i))])) 5)], 2⟩, by omega, ?_, i + 1, by omega, rfl, by rw [lowB_succ]⟩
            exact (Conv.keep [0, 1, 8, 9] [3] (by simp)).trans (Conv.rename (fun j => if j = 1 then 3 else j) (by simp; done) (by simp; done) (by simp [St.keep, keepE, lookN, AVal.ren, AV.ren, Sc.ren, AVal.ids, AV.ids, Sc.ids, Nat.add_assoc]; done) (by simp [St.keep, keepE, lookN, AObj.ren, AObj.ids, Sc.ids, Sc.ren, brow]; done) (by simp; done))
          case f4 =>
            intro hb1
            have hi : i = k.toNat := by simp at hb1; omega
            subst hi
            refine AWp.exit ?_
            refine thenA_exit ?_
            refine thenA_exit ?_
            refine inB_eq ?_
            refine AWp.seq ?_
            refine AWp.reg (S1 := ?S8) (ob := ?o8) (S' := ?K8) tab_ok (noKnow _) mixed [6] ?r8 ?h8 ?k8 ?w8
            case r8 => simp only [go_sem, Try.ntmps24, reduceIte, reduceCtorEq, Nat.reduceAdd, Nat.reduceEqDiff, Nat.reduceLT, Nat.reduceLeDiff, Nat.reduceSub, Nat.reduceMul, Nat.reduceBEq, Int.reduceToNat, Int.reduceLE, Int.reduceLT, Int.reducePow]; rfl
            case h8 => first | exact True.intro | omega | (simp only [go_sem, Try.ntmps24, reduceIte, reduceCtorEq, Nat.reduceAdd, Nat.reduceEqDiff, Nat.reduceLT, Nat.reduceLeDiff, Nat.reduceSub, Nat.reduceMul, Nat.reduceBEq, Int.reduceToNat, Int.reduceLE, Int.reduceLT, Int.reducePow]; done) | (simp only [go_sem, Try.ntmps24, reduceIte, reduceCtorEq, Nat.reduceAdd, Nat.reduceEqDiff, Nat.reduceLT, Nat.reduceLeDiff, Nat.reduceSub, Nat.reduceMul, Nat.reduceBEq, Int.reduceToNat, Int.reduceLE, Int.reduceLT, Int.reducePow]; omega)
            case k8 => simp only [go_sem, Try.ntmps24, reduceIte, reduceCtorEq, Nat.reduceAdd, Nat.reduceEqDiff, Nat.reduceLT, Nat.reduceLeDiff, Nat.reduceSub, Nat.reduceMul, Nat.reduceBEq, Int.reduceToNat, Int.reduceLE, Int.reduceLT, Int.reducePow]; rfl
            refine AWp.ret ?_
            refine ends_o (vs := ?vs1) (ob := ?ro1) (ex := some 1) (g1 := fun x => fresh) tab_ok (by simp) ?er1 ?eo1 ?et1
            case er1 => simp only [go_sem, Try.ntmps24, reduceIte, reduceCtorEq, Nat.reduceAdd, Nat.reduceEqDiff, Nat.reduceLT, Nat.reduceLeDiff, Nat.reduceSub, Nat.reduceMul, Nat.reduceBEq, Int.reduceToNat, Int.reduceLE, Int.reduceLT, Int.reducePow, Try.results24]; rfl
            case eo1 => first | exact True.intro | simp only [go_sem, Try.ntmps24, reduceIte, reduceCtorEq, Nat.reduceAdd, Nat.reduceEqDiff, Nat.reduceLT, Nat.reduceLeDiff, Nat.reduceSub, Nat.reduceMul, Nat.reduceBEq, Int.reduceToNat, Int.reduceLE, Int.reduceLT, Int.reducePow]
            case et1 => exact { val := (by simp [pack, AVal.ren, AV.ren, Sc.ren, lowB_len]), plain := (by simp [pack]), vids := (by simp [pack, AVal.ids, AV.ids, Sc.ids, CallOut.told]), fr := rfl, exn := (by simp), hand := (by simp), wr := (by
              intro p hp
              simp only [List.mem_cons, List.not_mem_nil, or_false] at hp
              rcases hp with rfl | rfl
              · exact .inr ⟨1, _, rfl, rfl, by simp [AObj.ren, brow], by simp [CallOut.told], by simp [AObj.ids]⟩
              · exact .inl ⟨rfl, _, List.mem_cons_self .., rfl⟩) }
      · cases hr
    · cases hr
  · rename_i e0 n k
    injection hr with hr
    subst hr
    obtain ⟨h4, h5⟩ : 1 ≤ k ∧ k ≤ 8 := hob
    refine fn_gives (i := ⟨Try.f24, _, ⟨[(0, .one (.s (.d (.slice (some true) e0 [])))), (1, .one (dv (.int .u64 n))), (2, .one (dv (.int .i64 k)))], [], 0⟩, 0, id⟩) (nargs := 3) Try.func24 rfl (by kernel_rfl) ?_ ?_
    rotate_left
    · exact { len := ⟨rfl, Nat.le_of_ble_eq_true (by kernel_rfl)⟩, env := (by simp [AVal.ren, AV.ren, Sc.ren, AVal.ids, AV.ids, Sc.ids]), heap := (by simp), nxt := rfl, inj := (by simp) }
    show AWp Try.prog Try.f24.ntmps 0 _ _ _
    refine AWp.seq ?_
    refine AWp.reg (S1 := ?S51) (ob := ?o51) (S' := ?K51) tab_ok (noKnow _) mixed [0, 1, 2] ?r51 ?h51 ?k51 ?w51
    case r51 => simp only [go_sem, Try.ntmps24, reduceIte, reduceCtorEq, Nat.reduceAdd, Nat.reduceEqDiff, Nat.reduceLT, Nat.reduceLeDiff, Nat.reduceSub, Nat.reduceMul, Nat.reduceBEq, Int.reduceToNat, Int.reduceLE, Int.reduceLT, Int.reducePow]; rfl
    case h51 => first | exact True.intro | omega | (simp only [go_sem, Try.ntmps24, reduceIte, reduceCtorEq, Nat.reduceAdd, Nat.reduceEqDiff, Nat.reduceLT, Nat.reduceLeDiff, Nat.reduceSub, Nat.reduceMul, Nat.reduceBEq, Int.reduceToNat, Int.reduceLE, Int.reduceLT, Int.reducePow]; done) | (simp only [go_sem, Try.ntmps24, reduceIte, reduceCtorEq, Nat.reduceAdd, Nat.reduceEqDiff, Nat.reduceLT, Nat.reduceLeDiff, Nat.reduceSub, Nat.reduceMul, Nat.reduceBEq, Int.reduceToNat, Int.reduceLE, Int.reduceLT, Int.reducePow]; omega)
    case k51 => simp only [go_sem, Try.ntmps24, reduceIte, reduceCtorEq, Nat.reduceAdd, Nat.reduceEqDiff, Nat.reduceLT, Nat.reduceLeDiff, Nat.reduceSub, Nat.reduceMul, Nat.reduceBEq, Int.reduceToNat, Int.reduceLE, Int.reduceLT, Int.reducePow]; rfl
    refine AWp.seq ?_
    refine AWp.seq ?_
    refine AWp.reg (S1 := ?S52) (ob := ?o52) (S' := ?K52) tab_ok (noKnow _) mixed [0, 1, 8, 9] ?r52 ?h52 ?k52 ?w52
    case r52 => simp only [go_sem, Try.ntmps24, reduceIte, reduceCtorEq, Nat.reduceAdd, Nat.reduceEqDiff, Nat.reduceLT, Nat.reduceLeDiff, Nat.reduceSub, Nat.reduceMul, Nat.reduceBEq, Int.reduceToNat, Int.reduceLE, Int.reduceLT, Int.reducePow]; rfl
    case h52 => first | exact True.intro | omega | (simp only [go_sem, Try.ntmps24, reduceIte, reduceCtorEq, Nat.reduceAdd, Nat.reduceEqDiff, Nat.reduceLT, Nat.reduceLeDiff, Nat.reduceSub, Nat.reduceMul, Nat.reduceBEq, Int.reduceToNat, Int.reduceLE, Int.reduceLT, Int.reducePow]; done) | (simp only [go_sem, Try.ntmps24, reduceIte, reduceCtorEq, Nat.reduceAdd, Nat.reduceEqDiff, Nat.reduceLT, Nat.reduceLeDiff, Nat.reduceSub, Nat.reduceMul, Nat.reduceBEq, Int.reduceToNat, Int.reduceLE, Int.reduceLT, Int.reducePow]; omega)
    case k52 => simp only [go_sem, Try.ntmps24, reduceIte, reduceCtorEq, Nat.reduceAdd, Nat.reduceEqDiff, Nat.reduceLT, Nat.reduceLeDiff, Nat.reduceSub, Nat.reduceMul, Nat.reduceBEq, Int.reduceToNat, Int.reduceLE, Int.reduceLT, Int.reducePow]; rfl
    refine AWp.block ?_
    refine AWp.conv (Conv.nilT 0 (e := 1) (ety := 5) rfl rfl) ?_
    refine AWp.conv (Conv.rename (S' := ⟨[(0, .one (.s (.row 1 1 0 (([] : List (List D)).length + (lowB n 0).length) none))), (1, .one (dv (.int .u64 n))), (8, .one (dv (.int .i64 k))), (9, .one (dv (.int .i64 ((0 : Nat) : Int))))], [(1, .row (([] : List (List D)) ++ brow (lowB n 0)) 5)], 2⟩) (fun j => if j = 1 then 0 else j) (by simp; done) (by simp; done) (by simp [St.nilT, lookN, AVal.ren, AV.ren, Sc.ren, AVal.ids, AV.ids, Sc.ids, lowB]; done) (by simp [St.nilT, lookN, AObj.ren, AObj.ids, lowB, brow]; done) (by simp; done)) ?_
    refine AWp.loop (fun m S => ∃ i : Nat, i ≤ k.toNat ∧ m = k.toNat - i ∧ S = ⟨[(0, .one (.s (.row 1 1 0 (([] : List (List D)).length + (lowB n i).length) none))), (1, .one (dv (.int .u64 n))), (8, .one (dv (.int .i64 k))), (9, .one (dv (.int .i64 (i : Int))))], [(1, .row (([] : List (List D)) ++ brow (lowB n i)) 5)], 2⟩) k.toNat ?i1 ?n1
    case i1 =>
      exact ⟨0, by omega, rfl, by simp [lowB, brow, St.nilT, St.keep, keepE, lookN]⟩
    case n1 =>
      rintro m S ⟨i, hi0, rfl, rfl⟩
      refine AWp.seq ?_
      refine AWp.reg (S1 := ?S53) (ob := ?o53) (S' := ?K53) tab_ok (noKnow _) mixed [0, 1, 8, 9, 10] ?r53 ?h53 ?k53 ?w53
      case r53 => simp only [go_sem, Try.ntmps24, reduceIte, reduceCtorEq, Nat.reduceAdd, Nat.reduceEqDiff, Nat.reduceLT, Nat.reduceLeDiff, Nat.reduceSub, Nat.reduceMul, Nat.reduceBEq, Int.reduceToNat, Int.reduceLE, Int.reduceLT, Int.reducePow]; rfl
      case h53 => first | exact True.intro | omega | (simp only [go_sem, Try.ntmps24, reduceIte, reduceCtorEq, Nat.reduceAdd, Nat.reduceEqDiff, Nat.reduceLT, Nat.reduceLeDiff, Nat.reduceSub, Nat.reduceMul, Nat.reduceBEq, Int.reduceToNat, Int.reduceLE, Int.reduceLT, Int.reducePow]; done) | (simp only [go_sem, Try.ntmps24, reduceIte, reduceCtorEq, Nat.reduceAdd, Nat.reduceEqDiff, Nat.reduceLT, Nat.reduceLeDiff, Nat.reduceSub, Nat.reduceMul, Nat.reduceBEq, Int.reduceToNat, Int.reduceLE, Int.reduceLT, Int.reducePow]; omega)
      case k53 => simp only [go_sem, Try.ntmps24, reduceIte, reduceCtorEq, Nat.reduceAdd, Nat.reduceEqDiff, Nat.reduceLT, Nat.reduceLeDiff, Nat.reduceSub, Nat.reduceMul, Nat.reduceBEq, Int.reduceToNat, Int.reduceLE, Int.reduceLT, Int.reducePow]; rfl
      refine AWp.seq ?_
      refine AWp.cond (b := ?b54) ?c54 ?t54 ?f54
      case c54 => simp only [go_sem, Try.ntmps24, reduceIte, reduceCtorEq, Nat.reduceAdd, Nat.reduceEqDiff, Nat.reduceLT, Nat.reduceLeDiff, Nat.reduceSub, Nat.reduceMul, Nat.reduceBEq, Int.reduceToNat, Int.reduceLE, Int.reduceLT, Int.reducePow]; rfl
      case t54 =>
        intro hb1
        have hi : i < k.toNat := by simp at hb1; omega
        have hsh := low_sh2 (i := i) (by omega)
        refine AWp.skip ?_
        refine AWp.seq ?_
        refine AWp.block ?_
        refine AWp.seq ?_
        refine AWp.reg (S1 := ?S55) (ob := ?o55) (S' := ?K55) tab_ok (noKnow _) mixed [0, 1, 7, 8, 9] ?r55 ?h55 ?k55 ?w55
        case r55 => simp only [go_sem, Try.ntmps24, reduceIte, reduceCtorEq, Nat.reduceAdd, Nat.reduceEqDiff, Nat.reduceLT, Nat.reduceLeDiff, Nat.reduceSub, Nat.reduceMul, Nat.reduceBEq, Int.reduceToNat, Int.reduceLE, Int.reduceLT, Int.reducePow]; rfl
        case h55 => first | exact True.intro | omega | (simp only [go_sem, Try.ntmps24, reduceIte, reduceCtorEq, Nat.reduceAdd, Nat.reduceEqDiff, Nat.reduceLT, Nat.reduceLeDiff, Nat.reduceSub, Nat.reduceMul, Nat.reduceBEq, Int.reduceToNat, Int.reduceLE, Int.reduceLT, Int.reducePow]; done) | (simp only [go_sem, Try.ntmps24, reduceIte, reduceCtorEq, Nat.reduceAdd, Nat.reduceEqDiff, Nat.reduceLT, Nat.reduceLeDiff, Nat.reduceSub, Nat.reduceMul, Nat.reduceBEq, Int.reduceToNat, Int.reduceLE, Int.reduceLT, Int.reducePow]; omega)
        case k55 => simp only [go_sem, Try.ntmps24, reduceIte, reduceCtorEq, Nat.reduceAdd, Nat.reduceEqDiff, Nat.reduceLT, Nat.reduceLeDiff, Nat.reduceSub, Nat.reduceMul, Nat.reduceBEq, Int.reduceToNat, Int.reduceLE, Int.reduceLT, Int.reducePow]; rfl
        refine AWp.reg (S1 := ?S56) (ob := ?o56) (S' := ?K56) tab_ok (noKnow _) mixed [0, 1, 8, 9] ?r56 ?h56 ?k56 ?w56
        case r56 => simp only [go_sem, Try.ntmps24, reduceIte, reduceCtorEq, Nat.reduceAdd, Nat.reduceEqDiff, Nat.reduceLT, Nat.reduceLeDiff, Nat.reduceSub, Nat.reduceMul, Nat.reduceBEq, Int.reduceToNat, Int.reduceLE, Int.reduceLT, Int.reducePow, hsh]; rfl
        case h56 =>
          rw [lowB_len]
          omega
        case k56 => simp only [go_sem, Try.ntmps24, reduceIte, reduceCtorEq, Nat.reduceAdd, Nat.reduceEqDiff, Nat.reduceLT, Nat.reduceLeDiff, Nat.reduceSub, Nat.reduceMul, Nat.reduceBEq, Int.reduceToNat, Int.reduceLE, Int.reduceLT, Int.reducePow]; rfl
        refine AWp.reg (S1 := ?S57) (ob := ?o57) (S' := ?K57) tab_ok (noKnow _) mixed [0, 1, 8, 9] ?r57 ?h57 ?k57 ?w57
        case r57 => simp only [go_sem, Try.ntmps24, reduceIte, reduceCtorEq, Nat.reduceAdd, Nat.reduceEqDiff, Nat.reduceLT, Nat.reduceLeDiff, Nat.reduceSub, Nat.reduceMul, Nat.reduceBEq, Int.reduceToNat, Int.reduceLE, Int.reduceLT, Int.reducePow]; rfl
        case h57 => first | exact True.intro | omega | (simp only [go_sem, Try.ntmps24, reduceIte, reduceCtorEq, Nat.reduceAdd, Nat.reduceEqDiff, Nat.reduceLT, Nat.reduceLeDiff, Nat.reduceSub, Nat.reduceMul, Nat.reduceBEq, Int.reduceToNat, Int.reduceLE, Int.reduceLT, Int.reducePow]; done) | (simp only [go_sem, Try.ntmps24, reduceIte, reduceCtorEq, Nat.reduceAdd, Nat.reduceEqDiff, Nat.reduceLT, Nat.reduceLeDiff, Nat.reduceSub, Nat.reduceMul, Nat.reduceBEq, Int.reduceToNat, Int.reduceLE, Int.reduceLT, Int.reducePow]; omega)
        case k57 => simp only [go_sem, Try.ntmps24, reduceIte, reduceCtorEq, Nat.reduceAdd, Nat.reduceEqDiff, Nat.reduceLT, Nat.reduceLeDiff, Nat.reduceSub, Nat.reduceMul, Nat.reduceBEq, Int.reduceToNat, Int.reduceLE, Int.reduceLT, Int.reducePow]; rfl
        refine ⟨k.toNat - (i + 1), ⟨[(0, .one (.s (.row 1 1 0 (([] : List (List D)).length + (lowB n i ++ [u8 (n / 2 ^ (8 * i))]).length) none))), (1, .one (dv (.int .u64 n))), (8, .one (dv (.int .i64 k))), (9, .one (dv (.int .i64 ((i + 1 : Nat) : Int))))], [(1, .row (([] : List (List D)) ++ brow (lowB n i ++ [u8 (n / 2 ^ (8 * i))])) 5)], 2⟩, by omega, ?_, i + 1, by omega, rfl, by rw [lowB_succ]⟩
        exact (Conv.keep [0, 1, 8, 9] [3] (by simp)).trans (Conv.rename (fun j => if j = 1 then 3 else j) (by simp; done) (by simp; done) (by simp [St.keep, keepE, lookN, AVal.ren, AV.ren, Sc.ren, AVal.ids, AV.ids, Sc.ids, Nat.add_assoc]; done) (by simp [St.keep, keepE, lookN, AObj.ren, AObj.ids, Sc.ids, Sc.ren, brow]; done) (by simp; done))
      case f54 =>
        intro hb1
        have hi : i = k.toNat := by simp at hb1; omega
        subst hi
        refine AWp.exit ?_
        refine thenA_exit ?_
        refine thenA_exit ?_
        refine inB_eq ?_
        refine AWp.seq ?_
        refine AWp.reg (S1 := ?S58) (ob := ?o58) (S' := ?K58) tab_ok (noKnow _) mixed [6] ?r58 ?h58 ?k58 ?w58
        case r58 => simp only [go_sem, Try.ntmps24, reduceIte, reduceCtorEq, Nat.reduceAdd, Nat.reduceEqDiff, Nat.reduceLT, Nat.reduceLeDiff, Nat.reduceSub, Nat.reduceMul, Nat.reduceBEq, Int.reduceToNat, Int.reduceLE, Int.reduceLT, Int.reducePow]; rfl
        case h58 => first | exact True.intro | omega | (simp only [go_sem, Try.ntmps24, reduceIte, reduceCtorEq, Nat.reduceAdd, Nat.reduceEqDiff, Nat.reduceLT, Nat.reduceLeDiff, Nat.reduceSub, Nat.reduceMul, Nat.reduceBEq, Int.reduceToNat, Int.reduceLE, Int.reduceLT, Int.reducePow]; done) | (simp only [go_sem, Try.ntmps24, reduceIte, reduceCtorEq, Nat.reduceAdd, Nat.reduceEqDiff, Nat.reduceLT, Nat.reduceLeDiff, Nat.reduceSub, Nat.reduceMul, Nat.reduceBEq, Int.reduceToNat, Int.reduceLE, Int.reduceLT, Int.reducePow]; omega)
        case k58 => simp only [go_sem, Try.ntmps24, reduceIte, reduceCtorEq, Nat.reduceAdd, Nat.reduceEqDiff, Nat.reduceLT, Nat.reduceLeDiff, Nat.reduceSub, Nat.reduceMul, Nat.reduceBEq, Int.reduceToNat, Int.reduceLE, Int.reduceLT, Int.reducePow]; rfl
        refine AWp.ret ?_
        refine ends_o (vs := ?vs51) (ob := ?ro51) (ex := some 1) (g1 := fun x => fresh) tab_ok (by simp) ?er51 ?eo51 ?et51
        case er51 => simp only [go_sem, Try.ntmps24, reduceIte, reduceCtorEq, Nat.reduceAdd, Nat.reduceEqDiff, Nat.reduceLT, Nat.reduceLeDiff, Nat.reduceSub, Nat.reduceMul, Nat.reduceBEq, Int.reduceToNat, Int.reduceLE, Int.reduceLT, Int.reducePow, Try.results24]; rfl
        case eo51 => first | exact True.intro | simp only [go_sem, Try.ntmps24, reduceIte, reduceCtorEq, Nat.reduceAdd, Nat.reduceEqDiff, Nat.reduceLT, Nat.reduceLeDiff, Nat.reduceSub, Nat.reduceMul, Nat.reduceBEq, Int.reduceToNat, Int.reduceLE, Int.reduceLT, Int.reducePow]
        case et51 => exact { val := (by simp [pack, AVal.ren, AV.ren, Sc.ren, lowB_len]), plain := (by simp [pack]), vids := (by simp [pack, AVal.ids, AV.ids, Sc.ids, CallOut.told]), fr := rfl, exn := (by simp), hand := (by simp), wr := (by
          intro p hp
          simp only [List.mem_cons, List.not_mem_nil, or_false] at hp
          subst hp
          exact .inr ⟨1, _, rfl, rfl, by simp [AObj.ren, brow], by simp [CallOut.told], by simp [AObj.ids]⟩) }
  · cases hr

end Go.Proofs.Hg
