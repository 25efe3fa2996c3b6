import Derived.Test.YtcicjmhealkigaaM3
set_option linter.unusedSimpArgs false
set_option linter.unusedVariables false
set_option maxHeartbeats 4000000
namespace Go.Proofs.Hg
open Go.RowKit
set_option maxRecDepth 100000
def lowK : Cont := fun fresh H args => match args with
  | [.s (.row i e off len none), .s (.d (.int .u64 n)), .s (.d (.int .i64 k))] => (match H i with
    | some (.row es ty) => if ty = 5 then some ⟨.one (.s (.row fresh 1 0 (es.length + k.toNat) none)), [(i, .row es ty)], true, [(fresh, .o (.row (es ++ brow (lowB n k.toNat)) 5)), (i, .none)],
        e = 1 ∧ off = 0 ∧ len = es.length ∧ 1 ≤ k ∧ k ≤ 8 ∧ es.length ≤ 1000000000000⟩ else none
    | _ => none)
  | [.s (.d (.slice (some true) e0 [])), .s (.d (.int .u64 n)), .s (.d (.int .i64 k))] => some ⟨.one (.s (.row fresh 1 0 k.toNat none)), [], true, [(fresh, .o (.row (brow (lowB n k.toNat)) 5))], 1 ≤ k ∧ k ≤ 8⟩
  | _ => none
theorem lowK_ok : ContOk Try.prog 24 lowK := by
  intro fresh H args r hr hob
  unfold lowK at hr
  split at hr
  · rename_i i e off len n k
    split at hr
    · rename_i es ty hH
      split at hr
      · rename_i hty
        subst hty
        injection hr with hr
        subst hr
        obtain ⟨h1, h2, h3, h4, h5, h6⟩ : e = 1 ∧ off = 0 ∧ len = es.length ∧ 1 ≤ k ∧ k ≤ 8 ∧ es.length ≤ 1000000000000 := hob
        subst h1 h2 h3
        refine fn_gives (i := ⟨Try.f24, _, ⟨[(0, .one (.s (.row 0 1 0 es.length none))), (1, .one (dv (.int .u64 n))), (2, .one (dv (.int .i64 k)))], [(0, .row es 5)], 1⟩, 1, fun _ => i⟩) (nargs := 3) Try.func24 rfl (by kernel_rfl) ?_ ?_
        rotate_left
        · exact { len := ⟨rfl, Nat.le_of_ble_eq_true (by kernel_rfl)⟩, env := (by simp [AVal.ren, AV.ren, Sc.ren, AVal.ids, AV.ids, Sc.ids]), heap := (by simp [AObj.ren, AObj.ids]), nxt := rfl, inj := (by simp) }
        show AWp Try.prog Try.f24.ntmps 1 _ _ _
        refine AWp.seq ?_
        refine AWp.reg (S1 := ?S1) (ob := ?o1) (S' := ?K1) tab_ok (noKnow _) mixed [0, 1, 2] ?r1 ?h1 ?k1 ?w1
        case r1 => simp only [go_sem, Try.ntmps24, reduceIte, reduceCtorEq, Nat.reduceAdd, Nat.reduceEqDiff, Nat.reduceLT, Nat.reduceLeDiff, Nat.reduceSub, Nat.reduceMul, Nat.reduceBEq, Int.reduceToNat, Int.reduceLE, Int.reduceLT, Int.reducePow]; rfl
        case h1 => first | exact True.intro | omega | (simp only [go_sem, Try.ntmps24, reduceIte, reduceCtorEq, Nat.reduceAdd, Nat.reduceEqDiff, Nat.reduceLT, Nat.reduceLeDiff, Nat.reduceSub, Nat.reduceMul, Nat.reduceBEq, Int.reduceToNat, Int.reduceLE, Int.reduceLT, Int.reducePow]; done) | (simp only [go_sem, Try.ntmps24, reduceIte, reduceCtorEq, Nat.reduceAdd, Nat.reduceEqDiff, Nat.reduceLT, Nat.reduceLeDiff, Nat.reduceSub, Nat.reduceMul, Nat.reduceBEq, Int.reduceToNat, Int.reduceLE, Int.reduceLT, Int.reducePow]; omega)
        case k1 => simp only [go_sem, Try.ntmps24, reduceIte, reduceCtorEq, Nat.reduceAdd, Nat.reduceEqDiff, Nat.reduceLT, Nat.reduceLeDiff, Nat.reduceSub, Nat.reduceMul, Nat.reduceBEq, Int.reduceToNat, Int.reduceLE, Int.reduceLT, Int.reducePow]; rfl
        refine AWp.seq ?_
        refine AWp.seq ?_
        refine AWp.reg (S1 := ?S2) (ob := ?o2) (S' := ?K2) tab_ok (noKnow _) mixed [0, 1, 8, 9] ?r2 ?h2 ?k2 ?w2
        case r2 => simp only [go_sem, Try.ntmps24, reduceIte, reduceCtorEq, Nat.reduceAdd, Nat.reduceEqDiff, Nat.reduceLT, Nat.reduceLeDiff, Nat.reduceSub, Nat.reduceMul, Nat.reduceBEq, Int.reduceToNat, Int.reduceLE, Int.reduceLT, Int.reducePow]; rfl
        case h2 => first | exact True.intro | omega | (simp only [go_sem, Try.ntmps24, reduceIte, reduceCtorEq, Nat.reduceAdd, Nat.reduceEqDiff, Nat.reduceLT, Nat.reduceLeDiff, Nat.reduceSub, Nat.reduceMul, Nat.reduceBEq, Int.reduceToNat, Int.reduceLE, Int.reduceLT, Int.reducePow]; done) | (simp only [go_sem, Try.ntmps24, reduceIte, reduceCtorEq, Nat.reduceAdd, Nat.reduceEqDiff, Nat.reduceLT, Nat.reduceLeDiff, Nat.reduceSub, Nat.reduceMul, Nat.reduceBEq, Int.reduceToNat, Int.reduceLE, Int.reduceLT, Int.reducePow]; omega)
        case k2 => simp only [go_sem, Try.ntmps24, reduceIte, reduceCtorEq, Nat.reduceAdd, Nat.reduceEqDiff, Nat.reduceLT, Nat.reduceLeDiff, Nat.reduceSub, Nat.reduceMul, Nat.reduceBEq, Int.reduceToNat, Int.reduceLE, Int.reduceLT, Int.reducePow]; rfl
        refine AWp.block ?_
        refine AWp.conv (Conv.rename (S' := ⟨[(0, .one (.s (.row 1 1 0 (es.length + (lowB n 0).length) none))), (1, .one (dv (.int .u64 n))), (8, .one (dv (.int .i64 k))), (9, .one (dv (.int .i64 ((0 : Nat) : Int))))], [(1, .row (es ++ brow (lowB n 0)) 5)], 2⟩) (fun j => if j = 1 then 0 else j) (by simp; done) (by simp; done) (by simp [lookN, AVal.ren, AV.ren, Sc.ren, AVal.ids, AV.ids, Sc.ids, lowB]; done) (by simp [lookN, AObj.ren, AObj.ids, lowB, brow]; done) (by simp; done)) ?_
        refine AWp.loop (fun m S => ∃ i : Nat, i ≤ k.toNat ∧ m = k.toNat - i ∧ S = ⟨[(0, .one (.s (.row 1 1 0 (es.length + (lowB n i).length) none))), (1, .one (dv (.int .u64 n))), (8, .one (dv (.int .i64 k))), (9, .one (dv (.int .i64 (i : Int))))], [(1, .row (es ++ brow (lowB n i)) 5)], 2⟩) k.toNat ?i1 ?n1
        case i1 =>
          exact ⟨0, by omega, rfl, by simp [lowB, brow, St.nilT, St.keep, keepE, lookN]⟩
        case n1 =>
          rintro m S ⟨i, hi0, rfl, rfl⟩
          refine AWp.seq ?_
          refine AWp.reg (S1 := ?S3) (ob := ?o3) (S' := ?K3) tab_ok (noKnow _) mixed [0, 1, 8, 9, 10] ?r3 ?h3 ?k3 ?w3
          case r3 => simp only [go_sem, Try.ntmps24, reduceIte, reduceCtorEq, Nat.reduceAdd, Nat.reduceEqDiff, Nat.reduceLT, Nat.reduceLeDiff, Nat.reduceSub, Nat.reduceMul, Nat.reduceBEq, Int.reduceToNat, Int.reduceLE, Int.reduceLT, Int.reducePow]; rfl
          case h3 => first | exact True.intro | omega | (simp only [go_sem, Try.ntmps24, reduceIte, reduceCtorEq, Nat.reduceAdd, Nat.reduceEqDiff, Nat.reduceLT, Nat.reduceLeDiff, Nat.reduceSub, Nat.reduceMul, Nat.reduceBEq, Int.reduceToNat, Int.reduceLE, Int.reduceLT, Int.reducePow]; done) | (simp only [go_sem, Try.ntmps24, reduceIte, reduceCtorEq, Nat.reduceAdd, Nat.reduceEqDiff, Nat.reduceLT, Nat.reduceLeDiff, Nat.reduceSub, Nat.reduceMul, Nat.reduceBEq, Int.reduceToNat, Int.reduceLE, Int.reduceLT, Int.reducePow]; omega)
          case k3 => simp only [go_sem, Try.ntmps24, reduceIte, reduceCtorEq, Nat.reduceAdd, Nat.reduceEqDiff, Nat.reduceLT, Nat.reduceLeDiff, Nat.reduceSub, Nat.reduceMul, Nat.reduceBEq, Int.reduceToNat, Int.reduceLE, Int.reduceLT, Int.reducePow]; rfl
          refine AWp.seq ?_
          refine AWp.cond (b := ?b4) ?c4 ?t4 ?f4
          case c4 => simp only [go_sem, Try.ntmps24, reduceIte, reduceCtorEq, Nat.reduceAdd, Nat.reduceEqDiff, Nat.reduceLT, Nat.reduceLeDiff, Nat.reduceSub, Nat.reduceMul, Nat.reduceBEq, Int.reduceToNat, Int.reduceLE, Int.reduceLT, Int.reducePow]; rfl
          case t4 =>
            intro hb1
            have hi : i < k.toNat := by simp at hb1; omega
            have hsh := low_sh2 (i := i) (by omega)
            refine AWp.skip ?_
            refine AWp.seq ?_
            refine AWp.block ?_
            refine AWp.seq ?_
            refine AWp.reg (S1 := ?S5) (ob := ?o5) (S' := ?K5) tab_ok (noKnow _) mixed [0, 1, 7, 8, 9] ?r5 ?h5 ?k5 ?w5
            case r5 => simp only [go_sem, Try.ntmps24, reduceIte, reduceCtorEq, Nat.reduceAdd, Nat.reduceEqDiff, Nat.reduceLT, Nat.reduceLeDiff, Nat.reduceSub, Nat.reduceMul, Nat.reduceBEq, Int.reduceToNat, Int.reduceLE, Int.reduceLT, Int.reducePow]; rfl
            case h5 => first | exact True.intro | omega | (simp only [go_sem, Try.ntmps24, reduceIte, reduceCtorEq, Nat.reduceAdd, Nat.reduceEqDiff, Nat.reduceLT, Nat.reduceLeDiff, Nat.reduceSub, Nat.reduceMul, Nat.reduceBEq, Int.reduceToNat, Int.reduceLE, Int.reduceLT, Int.reducePow]; done) | (simp only [go_sem, Try.ntmps24, reduceIte, reduceCtorEq, Nat.reduceAdd, Nat.reduceEqDiff, Nat.reduceLT, Nat.reduceLeDiff, Nat.reduceSub, Nat.reduceMul, Nat.reduceBEq, Int.reduceToNat, Int.reduceLE, Int.reduceLT, Int.reducePow]; omega)
            case k5 => simp only [go_sem, Try.ntmps24, reduceIte, reduceCtorEq, Nat.reduceAdd, Nat.reduceEqDiff, Nat.reduceLT, Nat.reduceLeDiff, Nat.reduceSub, Nat.reduceMul, Nat.reduceBEq, Int.reduceToNat, Int.reduceLE, Int.reduceLT, Int.reducePow]; rfl
            refine AWp.reg (S1 := ?S6) (ob := ?o6) (S' := ?K6) tab_ok (noKnow _) mixed [0, 1, 8, 9] ?r6 ?h6 ?k6 ?w6
            case r6 => simp only [go_sem, Try.ntmps24, reduceIte, reduceCtorEq, Nat.reduceAdd, Nat.reduceEqDiff, Nat.reduceLT, Nat.reduceLeDiff, Nat.reduceSub, Nat.reduceMul, Nat.reduceBEq, Int.reduceToNat, Int.reduceLE, Int.reduceLT, Int.reducePow, hsh]; rfl
            case h6 =>
              rw [lowB_len]
              omega
            case k6 => simp only [go_sem, Try.ntmps24, reduceIte, reduceCtorEq, Nat.reduceAdd, Nat.reduceEqDiff, Nat.reduceLT, Nat.reduceLeDiff, Nat.reduceSub, Nat.reduceMul, Nat.reduceBEq, Int.reduceToNat, Int.reduceLE, Int.reduceLT, Int.reducePow]; rfl
            refine AWp.reg (S1 := ?S7) (ob := ?o7) (S' := ?K7) tab_ok (noKnow _) mixed [0, 1, 8, 9] ?r7 ?h7 ?k7 ?w7
            case r7 => simp only [go_sem, Try.ntmps24, reduceIte, reduceCtorEq, Nat.reduceAdd, Nat.reduceEqDiff, Nat.reduceLT, Nat.reduceLeDiff, Nat.reduceSub, Nat.reduceMul, Nat.reduceBEq, Int.reduceToNat, Int.reduceLE, Int.reduceLT, Int.reducePow]; rfl
            case h7 => first | exact True.intro | omega | (simp only [go_sem, Try.ntmps24, reduceIte, reduceCtorEq, Nat.reduceAdd, Nat.reduceEqDiff, Nat.reduceLT, Nat.reduceLeDiff, Nat.reduceSub, Nat.reduceMul, Nat.reduceBEq, Int.reduceToNat, Int.reduceLE, Int.reduceLT, Int.reducePow]; done) | (simp only [go_sem, Try.ntmps24, reduceIte, reduceCtorEq, Nat.reduceAdd, Nat.reduceEqDiff, Nat.reduceLT, Nat.reduceLeDiff, Nat.reduceSub, Nat.reduceMul, Nat.reduceBEq, Int.reduceToNat, Int.reduceLE, Int.reduceLT, Int.reducePow]; omega)
            case k7 => simp only [go_sem, Try.ntmps24, reduceIte, reduceCtorEq, Nat.reduceAdd, Nat.reduceEqDiff, Nat.reduceLT, Nat.reduceLeDiff, Nat.reduceSub, Nat.reduceMul, Nat.reduceBEq, Int.reduceToNat, Int.reduceLE, Int.reduceLT, Int.reducePow]; rfl
            refine ⟨k.toNat - (i + 1), ⟨[(0, .one (.s (.row 1 1 0 (es.length + (lowB n i ++ [u8 (n / 2 ^ (8 * i))]).length) none))), (1, .one (dv (.int .u64 n))), (8, .one (dv (.int .i64 k))), (9, .one (dv (.int .i64 ((i + 1 : Nat) : Int))))], [(1, .row (es ++ brow (lowB n i ++ [u8 (n / 2 ^ (8 * i))])) 5)], 2⟩, by omega, ?_, i + 1, by omega, rfl, by rw [lowB_succ]⟩
            exact (Conv.keep [0, 1, 8, 9] [3] (by simp)).trans (Conv.rename (fun j => if j = 1 then 3 else j) (by simp; done) (by simp; done) (by simp [St.keep, keepE, lookN, AVal.ren, AV.ren, Sc.ren, AVal.ids, AV.ids, Sc.ids, Nat.add_assoc]; done) (by simp [St.keep, keepE, lookN, AObj.ren, AObj.ids, Sc.ids, Sc.ren, brow]; done) (by simp; done))
          case f4 =>
            intro hb1
            have hi : i = k.toNat := by simp at hb1; omega
            subst hi
            refine AWp.exit ?_
            refine thenA_exit ?_
            refine thenA_exit ?_
            refine inB_eq ?_
            refine AWp.seq ?_
            refine AWp.reg (S1 := ?S8) (ob := ?o8) (S' := ?K8) tab_ok (noKnow _) mixed [6] ?r8 ?h8 ?k8 ?w8
            case r8 => simp only [go_sem, Try.ntmps24, reduceIte, reduceCtorEq, Nat.reduceAdd, Nat.reduceEqDiff, Nat.reduceLT, Nat.reduceLeDiff, Nat.reduceSub, Nat.reduceMul, Nat.reduceBEq, Int.reduceToNat, Int.reduceLE, Int.reduceLT, Int.reducePow]; rfl
            case h8 => first | exact True.intro | omega | (simp only [go_sem, Try.ntmps24, reduceIte, reduceCtorEq, Nat.reduceAdd, Nat.reduceEqDiff, Nat.reduceLT, Nat.reduceLeDiff, Nat.reduceSub, Nat.reduceMul, Nat.reduceBEq, Int.reduceToNat, Int.reduceLE, Int.reduceLT, Int.reducePow]; done) | (simp only [go_sem, Try.ntmps24, reduceIte, reduceCtorEq, Nat.reduceAdd, Nat.reduceEqDiff, Nat.reduceLT, Nat.reduceLeDiff, Nat.reduceSub, Nat.reduceMul, Nat.reduceBEq, Int.reduceToNat, Int.reduceLE, Int.reduceLT, Int.reducePow]; omega)
            case k8 => simp only [go_sem, Try.ntmps24, reduceIte, reduceCtorEq, Nat.reduceAdd, Nat.reduceEqDiff, Nat.reduceLT, Nat.reduceLeDiff, Nat.reduceSub, Nat.reduceMul, Nat.reduceBEq, Int.reduceToNat, Int.reduceLE, Int.reduceLT, Int.reducePow]; rfl
            refine AWp.ret ?_
            refine ends_o (vs := ?vs1) (ob := ?ro1) (ex := some 1) (g1 := fun x => fresh) tab_ok (by simp) ?er1 ?eo1 ?et1
            case er1 => simp only [go_sem, Try.ntmps24, reduceIte, reduceCtorEq, Nat.reduceAdd, Nat.reduceEqDiff, Nat.reduceLT, Nat.reduceLeDiff, Nat.reduceSub, Nat.reduceMul, Nat.reduceBEq, Int.reduceToNat, Int.reduceLE, Int.reduceLT, Int.reducePow, Try.results24]; rfl
            case eo1 => first | exact True.intro | simp only [go_sem, Try.ntmps24, reduceIte, reduceCtorEq, Nat.reduceAdd, Nat.reduceEqDiff, Nat.reduceLT, Nat.reduceLeDiff, Nat.reduceSub, Nat.reduceMul, Nat.reduceBEq, Int.reduceToNat, Int.reduceLE, Int.reduceLT, Int.reducePow]
            case et1 => exact { val := (by simp [pack, AVal.ren, AV.ren, Sc.ren, lowB_len]), plain := (by simp [pack]), vids := (by simp [pack, AVal.ids, AV.ids, Sc.ids, CallOut.told]), fr := rfl, exn := (by simp), hand := (by simp), wr := (by
              intro p hp
              simp only [List.mem_cons, List.not_mem_nil, or_false] at hp
              rcases hp with rfl | rfl
              · exact .inr ⟨1, _, rfl, rfl, by simp [AObj.ren, brow], by simp [CallOut.told], by simp [AObj.ids]⟩
              · exact .inl ⟨rfl, _, List.mem_cons_self .., rfl⟩) }
      · cases hr
    · cases hr
  · rename_i e0 n k
    injection hr with hr
    subst hr
    obtain ⟨h4, h5⟩ : 1 ≤ k ∧ k ≤ 8 := hob
    refine fn_gives (i := ⟨Try.f24, _, ⟨[(0, .one (.s (.d (.slice (some true) e0 [])))), (1, .one (dv (.int .u64 n))), (2, .one (dv (.int .i64 k)))], [], 0⟩, 0, id⟩) (nargs := 3) Try.func24 rfl (by kernel_rfl) ?_ ?_
    rotate_left
    · exact { len := ⟨rfl, Nat.le_of_ble_eq_true (by kernel_rfl)⟩, env := (by simp [AVal.ren, AV.ren, Sc.ren, AVal.ids, AV.ids, Sc.ids]), heap := (by simp), nxt := rfl, inj := (by simp) }
    show AWp Try.prog Try.f24.ntmps 0 _ _ _
    refine AWp.seq ?_
    refine AWp.reg (S1 := ?S51) (ob := ?o51) (S' := ?K51) tab_ok (noKnow _) mixed [0, 1, 2] ?r51 ?h51 ?k51 ?w51
    case r51 => simp only [go_sem, Try.ntmps24, reduceIte, reduceCtorEq, Nat.reduceAdd, Nat.reduceEqDiff, Nat.reduceLT, Nat.reduceLeDiff, Nat.reduceSub, Nat.reduceMul, Nat.reduceBEq, Int.reduceToNat, Int.reduceLE, Int.reduceLT, Int.reducePow]; rfl
    case h51 => first | exact True.intro | omega | (simp only [go_sem, Try.ntmps24, reduceIte, reduceCtorEq, Nat.reduceAdd, Nat.reduceEqDiff, Nat.reduceLT, Nat.reduceLeDiff, Nat.reduceSub, Nat.reduceMul, Nat.reduceBEq, Int.reduceToNat, Int.reduceLE, Int.reduceLT, Int.reducePow]; done) | (simp only [go_sem, Try.ntmps24, reduceIte, reduceCtorEq, Nat.reduceAdd, Nat.reduceEqDiff, Nat.reduceLT, Nat.reduceLeDiff, Nat.reduceSub, Nat.reduceMul, Nat.reduceBEq, Int.reduceToNat, Int.reduceLE, Int.reduceLT, Int.reducePow]; omega)
    case k51 => simp only [go_sem, Try.ntmps24, reduceIte, reduceCtorEq, Nat.reduceAdd, Nat.reduceEqDiff, Nat.reduceLT, Nat.reduceLeDiff, Nat.reduceSub, Nat.reduceMul, Nat.reduceBEq, Int.reduceToNat, Int.reduceLE, Int.reduceLT, Int.reducePow]; rfl
    refine AWp.seq ?_
    refine AWp.seq ?_
    refine AWp.reg (S1 := ?S52) (ob := ?o52) (S' := ?K52) tab_ok (noKnow _) mixed [0, 1, 8, 9] ?r52 ?h52 ?k52 ?w52
    case r52 => simp only [go_sem, Try.ntmps24, reduceIte, reduceCtorEq, Nat.reduceAdd, Nat.reduceEqDiff, Nat.reduceLT, Nat.reduceLeDiff, Nat.reduceSub, Nat.reduceMul, Nat.reduceBEq, Int.reduceToNat, Int.reduceLE, Int.reduceLT, Int.reducePow]; rfl
    case h52 => first | exact True.intro | omega | (simp only [go_sem, Try.ntmps24, reduceIte, reduceCtorEq, Nat.reduceAdd, Nat.reduceEqDiff, Nat.reduceLT, Nat.reduceLeDiff, Nat.reduceSub, Nat.reduceMul, Nat.reduceBEq, Int.reduceToNat, Int.reduceLE, Int.reduceLT, Int.reducePow]; done) | (simp only [go_sem, Try.ntmps24, reduceIte, reduceCtorEq, Nat.reduceAdd, Nat.reduceEqDiff, Nat.reduceLT, Nat.reduceLeDiff, Nat.reduceSub, Nat.reduceMul, Nat.reduceBEq, Int.reduceToNat, Int.reduceLE, Int.reduceLT, Int.reducePow]; omega)
    case k52 => simp only [go_sem, Try.ntmps24, reduceIte, reduceCtorEq, Nat.reduceAdd, Nat.reduceEqDiff, Nat.reduceLT, Nat.reduceLeDiff, Nat.reduceSub, Nat.reduceMul, Nat.reduceBEq, Int.reduceToNat, Int.reduceLE, Int.reduceLT, Int.reducePow]; rfl
    refine AWp.block ?_
    refine AWp.conv (Conv.nilT 0 (e := 1) (ety := 5) rfl rfl) ?_
    refine AWp.conv (Conv.rename (S' := ⟨[(0, .one (.s (.row 1 1 0 (([] : List (List D)).length + (lowB n 0).length) none))), (1, .one (dv (.int .u64 n))), (8, .one (dv (.int .i64 k))), (9, .one (dv (.int .i64 ((0 : Nat) : Int))))], [(1, .row (([] : List (List D)) ++ brow (lowB n 0)) 5)], 2⟩) (fun j => if j = 1 then 0 else j) (by simp; done) (by simp; done) (by simp [St.nilT, lookN, AVal.ren, AV.ren, Sc.ren, AVal.ids, AV.ids, Sc.ids, lowB]; done) (by simp [St.nilT, lookN, AObj.ren, AObj.ids, lowB, brow]; done) (by simp; done)) ?_
    refine AWp.loop (fun m S => ∃ i : Nat, i ≤ k.toNat ∧ m = k.toNat - i ∧ S = ⟨[(0, .one (.s (.row 1 1 0 (([] : List (List D)).length + (lowB n i).length) none))), (1, .one (dv (.int .u64 n))), (8, .one (dv (.int .i64 k))), (9, .one (dv (.int .i64 (i : Int))))], [(1, .row (([] : List (List D)) ++ brow (lowB n i)) 5)], 2⟩) k.toNat ?i1 ?n1
    case i1 =>
      exact ⟨0, by omega, rfl, by simp [lowB, brow, St.nilT, St.keep, keepE, lookN]⟩
    case n1 =>
      rintro m S ⟨i, hi0, rfl, rfl⟩
      refine AWp.seq ?_
      refine AWp.reg (S1 := ?S53) (ob := ?o53) (S' := ?K53) tab_ok (noKnow _) mixed [0, 1, 8, 9, 10] ?r53 ?h53 ?k53 ?w53
      case r53 => simp only [go_sem, Try.ntmps24, reduceIte, reduceCtorEq, Nat.reduceAdd, Nat.reduceEqDiff, Nat.reduceLT, Nat.reduceLeDiff, Nat.reduceSub, Nat.reduceMul, Nat.reduceBEq, Int.reduceToNat, Int.reduceLE, Int.reduceLT, Int.reducePow]; rfl
      case h53 => first | exact True.intro | omega | (simp only [go_sem, Try.ntmps24, reduceIte, reduceCtorEq, Nat.reduceAdd, Nat.reduceEqDiff, Nat.reduceLT, Nat.reduceLeDiff, Nat.reduceSub, Nat.reduceMul, Nat.reduceBEq, Int.reduceToNat, Int.reduceLE, Int.reduceLT, Int.reducePow]; done) | (simp only [go_sem, Try.ntmps24, reduceIte, reduceCtorEq, Nat.reduceAdd, Nat.reduceEqDiff, Nat.reduceLT, Nat.reduceLeDiff, Nat.reduceSub, Nat.reduceMul, Nat.reduceBEq, Int.reduceToNat, Int.reduceLE, Int.reduceLT, Int.reducePow]; omega)
      case k53 => simp only [go_sem, Try.ntmps24, reduceIte, reduceCtorEq, Nat.reduceAdd, Nat.reduceEqDiff, Nat.reduceLT, Nat.reduceLeDiff, Nat.reduceSub, Nat.reduceMul, Nat.reduceBEq, Int.reduceToNat, Int.reduceLE, Int.reduceLT, Int.reducePow]; rfl
      refine AWp.seq ?_
      refine AWp.cond (b := ?b54) ?c54 ?t54 ?f54
      case c54 => simp only [go_sem, Try.ntmps24, reduceIte, reduceCtorEq, Nat.reduceAdd, Nat.reduceEqDiff, Nat.reduceLT, Nat.reduceLeDiff, Nat.reduceSub, Nat.reduceMul, Nat.reduceBEq, Int.reduceToNat, Int.reduceLE, Int.reduceLT, Int.reducePow]; rfl
      case t54 =>
        intro hb1
        have hi : i < k.toNat := by simp at hb1; omega
        have hsh := low_sh2 (i := i) (by omega)
        refine AWp.skip ?_
        refine AWp.seq ?_
        refine AWp.block ?_
        refine AWp.seq ?_
        refine AWp.reg (S1 := ?S55) (ob := ?o55) (S' := ?K55) tab_ok (noKnow _) mixed [0, 1, 7, 8, 9] ?r55 ?h55 ?k55 ?w55
        case r55 => simp only [go_sem, Try.ntmps24, reduceIte, reduceCtorEq, Nat.reduceAdd, Nat.reduceEqDiff, Nat.reduceLT, Nat.reduceLeDiff, Nat.reduceSub, Nat.reduceMul, Nat.reduceBEq, Int.reduceToNat, Int.reduceLE, Int.reduceLT, Int.reducePow]; rfl
        case h55 => first | exact True.intro | omega | (simp only [go_sem, Try.ntmps24, reduceIte, reduceCtorEq, Nat.reduceAdd, Nat.reduceEqDiff, Nat.reduceLT, Nat.reduceLeDiff, Nat.reduceSub, Nat.reduceMul, Nat.reduceBEq, Int.reduceToNat, Int.reduceLE, Int.reduceLT, Int.reducePow]; done) | (simp only [go_sem, Try.ntmps24, reduceIte, reduceCtorEq, Nat.reduceAdd, Nat.reduceEqDiff, Nat.reduceLT, Nat.reduceLeDiff, Nat.reduceSub, Nat.reduceMul, Nat.reduceBEq, Int.reduceToNat, Int.reduceLE, Int.reduceLT, Int.reducePow]; omega)
        case k55 => simp only [go_sem, Try.ntmps24, reduceIte, reduceCtorEq, Nat.reduceAdd, Nat.reduceEqDiff, Nat.reduceLT, Nat.reduceLeDiff, Nat.reduceSub, Nat.reduceMul, Nat.reduceBEq, Int.reduceToNat, Int.reduceLE, Int.reduceLT, Int.reducePow]; rfl
        refine AWp.reg (S1 := ?S56) (ob := ?o56) (S' := ?K56) tab_ok (noKnow _) mixed [0, 1, 8, 9] ?r56 ?h56 ?k56 ?w56
        case r56 => simp only [go_sem, Try.ntmps24, reduceIte, reduceCtorEq, Nat.reduceAdd, Nat.reduceEqDiff, Nat.reduceLT, Nat.reduceLeDiff, Nat.reduceSub, Nat.reduceMul, Nat.reduceBEq, Int.reduceToNat, Int.reduceLE, Int.reduceLT, Int.reducePow, hsh]; rfl
        case h56 =>
          rw [lowB_len]
          omega
        case k56 => simp only [go_sem, Try.ntmps24, reduceIte, reduceCtorEq, Nat.reduceAdd, Nat.reduceEqDiff, Nat.reduceLT, Nat.reduceLeDiff, Nat.reduceSub, Nat.reduceMul, Nat.reduceBEq, Int.reduceToNat, Int.reduceLE, Int.reduceLT, Int.reducePow]; rfl
        refine AWp.reg (S1 := ?S57) (ob := ?o57) (S' := ?K57) tab_ok (noKnow _) mixed [0, 1, 8, 9] ?r57 ?h57 ?k57 ?w57
        case r57 => simp only [go_sem, Try.ntmps24, reduceIte, reduceCtorEq, Nat.reduceAdd, Nat.reduceEqDiff, Nat.reduceLT, Nat.reduceLeDiff, Nat.reduceSub, Nat.reduceMul, Nat.reduceBEq, Int.reduceToNat, Int.reduceLE, Int.reduceLT, Int.reducePow]; rfl
        case h57 => first | exact True.intro | omega | (simp only [go_sem, Try.ntmps24, reduceIte, reduceCtorEq, Nat.reduceAdd, Nat.reduceEqDiff, Nat.reduceLT, Nat.reduceLeDiff, Nat.reduceSub, Nat.reduceMul, Nat.reduceBEq, Int.reduceToNat, Int.reduceLE, Int.reduceLT, Int.reducePow]; done) | (simp only [go_sem, Try.ntmps24, reduceIte, reduceCtorEq, Nat.reduceAdd, Nat.reduceEqDiff, Nat.reduceLT, Nat.reduceLeDiff, Nat.reduceSub, Nat.reduceMul, Nat.reduceBEq, Int.reduceToNat, Int.reduceLE, Int.reduceLT, Int.reducePow]; omega)
        case k57 => simp only [go_sem, Try.ntmps24, reduceIte, reduceCtorEq, Nat.reduceAdd, Nat.reduceEqDiff, Nat.reduceLT, Nat.reduceLeDiff, Nat.reduceSub, Nat.reduceMul, Nat.reduceBEq, Int.reduceToNat, Int.reduceLE, Int.reduceLT, Int.reducePow]; rfl
        refine ⟨k.toNat - (i + 1), ⟨[(0, .one (.s (.row 1 1 0 (([] : List (List D)).length + (lowB n i ++ [u8 (n / 2 ^ (8 * i))]).length) none))), (1, .one (dv (.int .u64 n))), (8, .one (dv (.int .i64 k))), (9, .one (dv (.int .i64 ((i + 1 : Nat) : Int))))], [(1, .row (([] : List (List D)) ++ brow (lowB n i ++ [u8 (n / 2 ^ (8 * i))])) 5)], 2⟩, by omega, ?_, i + 1, by omega, rfl, by rw [lowB_succ]⟩
        exact (Conv.keep [0, 1, 8, 9] [3] (by simp)).trans (Conv.rename (fun j => if j = 1 then 3 else j) (by simp; done) (by simp; done) (by simp [St.keep, keepE, lookN, AVal.ren, AV.ren, Sc.ren, AVal.ids, AV.ids, Sc.ids, Nat.add_assoc]; done) (by simp [St.keep, keepE, lookN, AObj.ren, AObj.ids, Sc.ids, Sc.ren, brow]; done) (by simp; done))
      case f54 =>
        intro hb1
        have hi : i = k.toNat := by simp at hb1; omega
        subst hi
        refine AWp.exit ?_
        refine thenA_exit ?_
        refine thenA_exit ?_
        refine inB_eq ?_
        refine AWp.seq ?_
        refine AWp.reg (S1 := ?S58) (ob := ?o58) (S' := ?K58) tab_ok (noKnow _) mixed [6] ?r58 ?h58 ?k58 ?w58
        case r58 => simp only [go_sem, Try.ntmps24, reduceIte, reduceCtorEq, Nat.reduceAdd, Nat.reduceEqDiff, Nat.reduceLT, Nat.reduceLeDiff, Nat.reduceSub, Nat.reduceMul, Nat.reduceBEq, Int.reduceToNat, Int.reduceLE, Int.reduceLT, Int.reducePow]; rfl
        case h58 => first | exact True.intro | omega | (simp only [go_sem, Try.ntmps24, reduceIte, reduceCtorEq, Nat.reduceAdd, Nat.reduceEqDiff, Nat.reduceLT, Nat.reduceLeDiff, Nat.reduceSub, Nat.reduceMul, Nat.reduceBEq, Int.reduceToNat, Int.reduceLE, Int.reduceLT, Int.reducePow]; done) | (simp only [go_sem, Try.ntmps24, reduceIte, reduceCtorEq, Nat.reduceAdd, Nat.reduceEqDiff, Nat.reduceLT, Nat.reduceLeDiff, Nat.reduceSub, Nat.reduceMul, Nat.reduceBEq, Int.reduceToNat, Int.reduceLE, Int.reduceLT, Int.reducePow]; omega)
        case k58 => simp only [go_sem, Try.ntmps24, reduceIte, reduceCtorEq, Nat.reduceAdd, Nat.reduceEqDiff, Nat.reduceLT, Nat.reduceLeDiff, Nat.reduceSub, Nat.reduceMul, Nat.reduceBEq, Int.reduceToNat, Int.reduceLE, Int.reduceLT, Int.reducePow]; rfl
        refine AWp.ret ?_
        refine ends_o (vs := ?vs51) (ob := ?ro51) (ex := some 1) (g1 := fun x => fresh) tab_ok (by simp) ?er51 ?eo51 ?et51
        case er51 => simp only [go_sem, Try.ntmps24, reduceIte, reduceCtorEq, Nat.reduceAdd, Nat.reduceEqDiff, Nat.reduceLT, Nat.reduceLeDiff, Nat.reduceSub, Nat.reduceMul, Nat.reduceBEq, Int.reduceToNat, Int.reduceLE, Int.reduceLT, Int.reducePow, Try.results24]; rfl
        case eo51 => first | exact True.intro | simp only [go_sem, Try.ntmps24, reduceIte, reduceCtorEq, Nat.reduceAdd, Nat.reduceEqDiff, Nat.reduceLT, Nat.reduceLeDiff, Nat.reduceSub, Nat.reduceMul, Nat.reduceBEq, Int.reduceToNat, Int.reduceLE, Int.reduceLT, Int.reducePow]
        case et51 => exact { val := (by simp [pack, AVal.ren, AV.ren, Sc.ren, lowB_len]), plain := (by simp [pack]), vids := (by simp [pack, AVal.ids, AV.ids, Sc.ids, CallOut.told]), fr := rfl, exn := (by simp), hand := (by simp), wr := (by
          intro p hp
          simp only [List.mem_cons, List.not_mem_nil, or_false] at hp
          subst hp
          exact .inr ⟨1, _, rfl, rfl, by simp [AObj.ren, brow], by simp [CallOut.told], by simp [AObj.ids]⟩) }
  · cases hr

end Go.Proofs.Hg

set_option linter.unusedSimpArgs false
set_option linter.unusedVariables false
set_option maxHeartbeats 4000000
namespace Go.Proofs.Hg
open Go.RowKit
set_option maxRecDepth 100000
def fileB (f : FileL) : List UInt8 := u8 (f.1.length : Int) :: (f.1 ++ (lowB f.2.1 8 ++ (lowB (f.2.2.length : Int) 4 ++ f.2.2)))
def bytesL (l : List FileL) : List UInt8 := l.flatMap fileB
def FileIn (f : FileL) : Prop := f.1.length ≤ 32 ∧ 0 ≤ f.2.1 ∧ f.2.1 ≤ 1099511627776 ∧ f.2.2.length ≤ 65536
def FilesIn (l : List FileL) : Prop := l.length ≤ 1024 ∧ ∀ f ∈ l, FileIn f
theorem FilesIn.at {l : List FileL} (h : FilesIn l) {i : Nat} (hi : i < l.length) : FileIn (l.getD i f0L) := h.2 _ (by rw [getD_lt (by omega)]; exact List.getElem_mem _)
theorem FilesIn.ok {l : List FileL} (h : FilesIn l) : FilesOk l := ⟨Nat.le_trans h.1 (by omega), fun f hf => Nat.le_trans (h.2 f hf).1 (by omega)⟩
theorem rightL_in {n : Int} {l : List FileL} (h : rightL n l = true) : 0 ≤ n ∧ n ≤ 1099511627776 ∧ FilesIn l := by
  simp only [rightL, headOk, Bool.and_eq_true, decide_eq_true_eq, List.all_eq_true, List.mem_range] at h
  refine ⟨h.1.1, h.1.2.1, by omega, fun f hf => ?_⟩
  obtain ⟨i, hi, rfl⟩ := List.mem_iff_getElem.1 hf
  have := h.2 i hi
  simp only [fileOk, pathB, Bool.and_eq_true, decide_eq_true_eq, getD_lt hi] at this
  unfold FileIn
  omega
theorem fileB_len {f : FileL} (h : FileIn f) : (fileB f).length ≤ 65581 := by
  unfold FileIn at h
  simp only [fileB, List.length_cons, List.length_append, lowB_len]
  omega
theorem bytes_take {l : List FileL} (h : FilesIn l) : ∀ i, ((l.take i).flatMap fileB).length ≤ 65581 * i
  | 0 => by simp
  | i + 1 => by
    by_cases hi : i < l.length
    · rw [take_one (by omega) f0L, List.flatMap_append, List.length_append]
      have h1 := bytes_take h i
      have h2 := fileB_len (h.at hi)
      simp only [List.flatMap_cons, List.flatMap_nil, List.append_nil]
      omega
    · have h1 := bytes_take h i
      rw [List.take_of_length_le (by omega)] at h1 ⊢
      omega
theorem wrapU {v : Int} (h0 : 0 ≤ v) (h1 : v ≤ 1099511627776) : IntKind.u64.wrap v = v := by rw [IntKind.wrap_u64]; omega
def bytesF : List AV → Option (AVal × Prop)
  | [.agg [.d (.int .i64 n), .d (.slice z e fs)]] => some (.one (dv (.slice none 1 (brow (bytesL (unf fs))))), e = 3 ∧ fs = fdrow (unf fs) ∧ FilesIn (unf fs))
  | _ => none
def kn23 : List (Nat × Cont) := [(24, lowK)]
theorem kn23_ok : ∀ p ∈ kn23, ContOk Try.prog p.1 p.2 := by
  intro p hp
  simp only [kn23, List.mem_cons, List.not_mem_nil, or_false] at hp
  rcases hp with rfl
  · exact lowK_ok
theorem bytesF_ok : ContOk Try.prog 23 (pureK bytesF) := by
  refine pure_ok (nargs := 1) Try.func23 rfl (by kernel_rfl) (Nat.le_of_ble_eq_true (by kernel_rfl)) ?_
  intro args q hq hob
  unfold bytesF at hq
  split at hq
  · rename_i n z e fs
    injection hq with hq
    subst hq
    obtain ⟨h1, h2, h3⟩ : e = 3 ∧ fs = fdrow (unf fs) ∧ FilesIn (unf fs) := hob
    generalize unf fs = fl at *
    subst h1 h2
    have hl := h3.1
    refine ⟨rfl, by simp [AV.ids, Sc.ids], by simp [AVal.ids, AV.ids, Sc.ids], by simp, ?_⟩
    refine AWp.seq ?_
    refine AWp.reg (S1 := ?S1) (ob := ?o1) (S' := ?K1) tab_ok (knowL_ok kn23_ok) mixed [1] ?r1 ?h1 ?k1 ?w1
    case r1 => simp only [go_sem, kn23, lowK, fdrow_get, fdrow_len, fileD, Try.ntmps23, reduceIte, reduceCtorEq, Nat.reduceAdd, Nat.reduceEqDiff, Nat.reduceLT, Nat.reduceLeDiff, Nat.reduceSub, Nat.reduceMul, Nat.reduceBEq, Int.reduceToNat, Int.reduceLE, Int.reduceLT, Int.reducePow]; rfl
    case h1 => first | exact True.intro | omega | (simp only [go_sem, kn23, lowK, fdrow_get, fdrow_len, fileD, Try.ntmps23, reduceIte, reduceCtorEq, Nat.reduceAdd, Nat.reduceEqDiff, Nat.reduceLT, Nat.reduceLeDiff, Nat.reduceSub, Nat.reduceMul, Nat.reduceBEq, Int.reduceToNat, Int.reduceLE, Int.reduceLT, Int.reducePow]; done) | (simp only [go_sem, kn23, lowK, fdrow_get, fdrow_len, fileD, Try.ntmps23, reduceIte, reduceCtorEq, Nat.reduceAdd, Nat.reduceEqDiff, Nat.reduceLT, Nat.reduceLeDiff, Nat.reduceSub, Nat.reduceMul, Nat.reduceBEq, Int.reduceToNat, Int.reduceLE, Int.reduceLT, Int.reducePow]; omega)
    case k1 => simp only [go_sem, kn23, lowK, fdrow_get, fdrow_len, fileD, Try.ntmps23, reduceIte, reduceCtorEq, Nat.reduceAdd, Nat.reduceEqDiff, Nat.reduceLT, Nat.reduceLeDiff, Nat.reduceSub, Nat.reduceMul, Nat.reduceBEq, Int.reduceToNat, Int.reduceLE, Int.reduceLT, Int.reducePow]; rfl
    refine AWp.seq ?_
    refine AWp.reg (S1 := ?S2) (ob := ?o2) (S' := ?K2) tab_ok (knowL_ok kn23_ok) mixed [1, 3] ?r2 ?h2 ?k2 ?w2
    case r2 => simp only [go_sem, kn23, lowK, fdrow_get, fdrow_len, fileD, Try.ntmps23, reduceIte, reduceCtorEq, Nat.reduceAdd, Nat.reduceEqDiff, Nat.reduceLT, Nat.reduceLeDiff, Nat.reduceSub, Nat.reduceMul, Nat.reduceBEq, Int.reduceToNat, Int.reduceLE, Int.reduceLT, Int.reducePow]; rfl
    case h2 => first | exact True.intro | omega | (simp only [go_sem, kn23, lowK, fdrow_get, fdrow_len, fileD, Try.ntmps23, reduceIte, reduceCtorEq, Nat.reduceAdd, Nat.reduceEqDiff, Nat.reduceLT, Nat.reduceLeDiff, Nat.reduceSub, Nat.reduceMul, Nat.reduceBEq, Int.reduceToNat, Int.reduceLE, Int.reduceLT, Int.reducePow]; done) | (simp only [go_sem, kn23, lowK, fdrow_get, fdrow_len, fileD, Try.ntmps23, reduceIte, reduceCtorEq, Nat.reduceAdd, Nat.reduceEqDiff, Nat.reduceLT, Nat.reduceLeDiff, Nat.reduceSub, Nat.reduceMul, Nat.reduceBEq, Int.reduceToNat, Int.reduceLE, Int.reduceLT, Int.reducePow]; omega)
    case k2 => simp only [go_sem, kn23, lowK, fdrow_get, fdrow_len, fileD, Try.ntmps23, reduceIte, reduceCtorEq, Nat.reduceAdd, Nat.reduceEqDiff, Nat.reduceLT, Nat.reduceLeDiff, Nat.reduceSub, Nat.reduceMul, Nat.reduceBEq, Int.reduceToNat, Int.reduceLE, Int.reduceLT, Int.reducePow]; rfl
    refine AWp.seq ?_
    refine AWp.seq ?_
    refine AWp.reg (S1 := ?S3) (ob := ?o3) (S' := ?K3) tab_ok (knowL_ok kn23_ok) mixed [3, 7, 8, 9] ?r3 ?h3 ?k3 ?w3
    case r3 => simp only [go_sem, kn23, lowK, fdrow_get, fdrow_len, fileD, Try.ntmps23, reduceIte, reduceCtorEq, Nat.reduceAdd, Nat.reduceEqDiff, Nat.reduceLT, Nat.reduceLeDiff, Nat.reduceSub, Nat.reduceMul, Nat.reduceBEq, Int.reduceToNat, Int.reduceLE, Int.reduceLT, Int.reducePow]; rfl
    case h3 => first | exact True.intro | omega | (simp only [go_sem, kn23, lowK, fdrow_get, fdrow_len, fileD, Try.ntmps23, reduceIte, reduceCtorEq, Nat.reduceAdd, Nat.reduceEqDiff, Nat.reduceLT, Nat.reduceLeDiff, Nat.reduceSub, Nat.reduceMul, Nat.reduceBEq, Int.reduceToNat, Int.reduceLE, Int.reduceLT, Int.reducePow]; done) | (simp only [go_sem, kn23, lowK, fdrow_get, fdrow_len, fileD, Try.ntmps23, reduceIte, reduceCtorEq, Nat.reduceAdd, Nat.reduceEqDiff, Nat.reduceLT, Nat.reduceLeDiff, Nat.reduceSub, Nat.reduceMul, Nat.reduceBEq, Int.reduceToNat, Int.reduceLE, Int.reduceLT, Int.reducePow]; omega)
    case k3 => simp only [go_sem, kn23, lowK, fdrow_get, fdrow_len, fileD, Try.ntmps23, reduceIte, reduceCtorEq, Nat.reduceAdd, Nat.reduceEqDiff, Nat.reduceLT, Nat.reduceLeDiff, Nat.reduceSub, Nat.reduceMul, Nat.reduceBEq, Int.reduceToNat, Int.reduceLE, Int.reduceLT, Int.reducePow]; rfl
    refine AWp.block ?_
    refine AWp.conv (Conv.nilT 3 (e := 1) (ety := 5) rfl rfl) ?_
    refine AWp.conv (Conv.rename (S' := ⟨[(3, .one (.s (.row 0 1 0 ((fl.take 0).flatMap fileB).length none))), (7, .one (.s (.d (.slice z 3 (fdrow fl))))), (8, .one (dv (.int .i64 (fl.length : Int)))), (9, .one (dv (.int .i64 ((0 : Nat) : Int))))], [(0, .row (brow ((fl.take 0).flatMap fileB)) 5)], 1⟩) (fun j => if j = 0 then 1 else j) (by simp; done) (by simp; done) (by simp [St.nilT, lookN, AVal.ren, AV.ren, Sc.ren, AVal.ids, AV.ids, Sc.ids]; done) (by simp [St.nilT, lookN, AObj.ren, AObj.ids, brow]; done) (by simp; done)) ?_
    refine AWp.loop (fun k S => ∃ i : Nat, i ≤ fl.length ∧ k = fl.length - i ∧ S = ⟨[(3, .one (.s (.row 0 1 0 ((fl.take i).flatMap fileB).length none))), (7, .one (.s (.d (.slice z 3 (fdrow fl))))), (8, .one (dv (.int .i64 (fl.length : Int)))), (9, .one (dv (.int .i64 ((i : Nat) : Int))))], [(0, .row (brow ((fl.take i).flatMap fileB)) 5)], 1⟩) fl.length ?i1 ?n1
    case i1 =>
      exact ⟨0, by omega, rfl, rfl⟩
    case n1 =>
      rintro k S ⟨i, hi0, rfl, rfl⟩
      have hT := bytes_take h3 i
      refine AWp.seq ?_
      refine AWp.reg (S1 := ?S4) (ob := ?o4) (S' := ?K4) tab_ok (knowL_ok kn23_ok) mixed [3, 7, 8, 9, 10] ?r4 ?h4 ?k4 ?w4
      case r4 => simp only [go_sem, kn23, lowK, fdrow_get, fdrow_len, fileD, Try.ntmps23, reduceIte, reduceCtorEq, Nat.reduceAdd, Nat.reduceEqDiff, Nat.reduceLT, Nat.reduceLeDiff, Nat.reduceSub, Nat.reduceMul, Nat.reduceBEq, Int.reduceToNat, Int.reduceLE, Int.reduceLT, Int.reducePow]; rfl
      case h4 => first | exact True.intro | omega | (simp only [go_sem, kn23, lowK, fdrow_get, fdrow_len, fileD, Try.ntmps23, reduceIte, reduceCtorEq, Nat.reduceAdd, Nat.reduceEqDiff, Nat.reduceLT, Nat.reduceLeDiff, Nat.reduceSub, Nat.reduceMul, Nat.reduceBEq, Int.reduceToNat, Int.reduceLE, Int.reduceLT, Int.reducePow]; done) | (simp only [go_sem, kn23, lowK, fdrow_get, fdrow_len, fileD, Try.ntmps23, reduceIte, reduceCtorEq, Nat.reduceAdd, Nat.reduceEqDiff, Nat.reduceLT, Nat.reduceLeDiff, Nat.reduceSub, Nat.reduceMul, Nat.reduceBEq, Int.reduceToNat, Int.reduceLE, Int.reduceLT, Int.reducePow]; omega)
      case k4 => simp only [go_sem, kn23, lowK, fdrow_get, fdrow_len, fileD, Try.ntmps23, reduceIte, reduceCtorEq, Nat.reduceAdd, Nat.reduceEqDiff, Nat.reduceLT, Nat.reduceLeDiff, Nat.reduceSub, Nat.reduceMul, Nat.reduceBEq, Int.reduceToNat, Int.reduceLE, Int.reduceLT, Int.reducePow]; rfl
      refine AWp.seq ?_
      refine AWp.cond (b := ?b5) ?c5 ?t5 ?f5
      case c5 => simp only [go_sem, kn23, lowK, fdrow_get, fdrow_len, fileD, Try.ntmps23, reduceIte, reduceCtorEq, Nat.reduceAdd, Nat.reduceEqDiff, Nat.reduceLT, Nat.reduceLeDiff, Nat.reduceSub, Nat.reduceMul, Nat.reduceBEq, Int.reduceToNat, Int.reduceLE, Int.reduceLT, Int.reducePow]; rfl
      case t5 =>
        intro hb1
        have hi : i < fl.length := by simp at hb1; omega
        have hp := h3.at hi
        obtain ⟨p1, p2, p3, p4⟩ := hp
        have hw1 := wrapU p2 p3
        have hw2 := wrapU (v := ((fl.getD i f0L).2.2.length : Int)) (by omega) (by omega)
        refine AWp.skip ?_
        refine AWp.seq ?_
        refine AWp.block ?_
        refine AWp.seq ?_
        refine AWp.reg (S1 := ?S6) (ob := ?o6) (S' := ?K6) tab_ok (knowL_ok kn23_ok) mixed [3, 5, 7, 8, 9] ?r6 ?h6 ?k6 ?w6
        case r6 => simp only [go_sem, kn23, lowK, fdrow_get, fdrow_len, fileD, Try.ntmps23, reduceIte, reduceCtorEq, Nat.reduceAdd, Nat.reduceEqDiff, Nat.reduceLT, Nat.reduceLeDiff, Nat.reduceSub, Nat.reduceMul, Nat.reduceBEq, Int.reduceToNat, Int.reduceLE, Int.reduceLT, Int.reducePow]; rfl
        case h6 => first | exact True.intro | omega | (simp only [go_sem, kn23, lowK, fdrow_get, fdrow_len, fileD, Try.ntmps23, reduceIte, reduceCtorEq, Nat.reduceAdd, Nat.reduceEqDiff, Nat.reduceLT, Nat.reduceLeDiff, Nat.reduceSub, Nat.reduceMul, Nat.reduceBEq, Int.reduceToNat, Int.reduceLE, Int.reduceLT, Int.reducePow]; done) | (simp only [go_sem, kn23, lowK, fdrow_get, fdrow_len, fileD, Try.ntmps23, reduceIte, reduceCtorEq, Nat.reduceAdd, Nat.reduceEqDiff, Nat.reduceLT, Nat.reduceLeDiff, Nat.reduceSub, Nat.reduceMul, Nat.reduceBEq, Int.reduceToNat, Int.reduceLE, Int.reduceLT, Int.reducePow]; omega)
        case k6 => simp only [go_sem, kn23, lowK, fdrow_get, fdrow_len, fileD, Try.ntmps23, reduceIte, reduceCtorEq, Nat.reduceAdd, Nat.reduceEqDiff, Nat.reduceLT, Nat.reduceLeDiff, Nat.reduceSub, Nat.reduceMul, Nat.reduceBEq, Int.reduceToNat, Int.reduceLE, Int.reduceLT, Int.reducePow]; rfl
        refine AWp.seq ?_
        refine AWp.drw (S1 := ?S7) (ob := ?o7) (lts := ?t7) (S' := ?K7) tab_ok (knowL_ok kn23_ok) mixed [3, 5, 7, 8, 9] ?r7 ?d7 ?h7 ?k7 ?w7
        case r7 => simp only [go_sem, kn23, lowK, fdrow_get, fdrow_len, fileD, Try.ntmps23, reduceIte, reduceCtorEq, Nat.reduceAdd, Nat.reduceEqDiff, Nat.reduceLT, Nat.reduceLeDiff, Nat.reduceSub, Nat.reduceMul, Nat.reduceBEq, Int.reduceToNat, Int.reduceLE, Int.reduceLT, Int.reducePow]; rfl
        case d7 => first | kernel_rfl | rfl
        case h7 => first | exact True.intro | omega | (simp only [go_sem, kn23, lowK, fdrow_get, fdrow_len, fileD, Try.ntmps23, reduceIte, reduceCtorEq, Nat.reduceAdd, Nat.reduceEqDiff, Nat.reduceLT, Nat.reduceLeDiff, Nat.reduceSub, Nat.reduceMul, Nat.reduceBEq, Int.reduceToNat, Int.reduceLE, Int.reduceLT, Int.reducePow]; done) | (simp only [go_sem, kn23, lowK, fdrow_get, fdrow_len, fileD, Try.ntmps23, reduceIte, reduceCtorEq, Nat.reduceAdd, Nat.reduceEqDiff, Nat.reduceLT, Nat.reduceLeDiff, Nat.reduceSub, Nat.reduceMul, Nat.reduceBEq, Int.reduceToNat, Int.reduceLE, Int.reduceLT, Int.reducePow]; omega)
        case k7 => simp only [go_sem, kn23, lowK, fdrow_get, fdrow_len, fileD, Try.ntmps23, reduceIte, reduceCtorEq, Nat.reduceAdd, Nat.reduceEqDiff, Nat.reduceLT, Nat.reduceLeDiff, Nat.reduceSub, Nat.reduceMul, Nat.reduceBEq, Int.reduceToNat, Int.reduceLE, Int.reduceLT, Int.reducePow]; rfl
        refine AWp.seq ?_
        refine AWp.reg (S1 := ?S8) (ob := ?o8) (S' := ?K8) tab_ok (knowL_ok kn23_ok) mixed [3, 5, 7, 8, 9] ?r8 ?h8 ?k8 ?w8
        case r8 => simp only [go_sem, kn23, lowK, fdrow_get, fdrow_len, fileD, Try.ntmps23, reduceIte, reduceCtorEq, Nat.reduceAdd, Nat.reduceEqDiff, Nat.reduceLT, Nat.reduceLeDiff, Nat.reduceSub, Nat.reduceMul, Nat.reduceBEq, Int.reduceToNat, Int.reduceLE, Int.reduceLT, Int.reducePow, hw1]; rfl
        case h8 => first | exact True.intro | omega | (simp only [go_sem, kn23, lowK, fdrow_get, fdrow_len, fileD, Try.ntmps23, reduceIte, reduceCtorEq, Nat.reduceAdd, Nat.reduceEqDiff, Nat.reduceLT, Nat.reduceLeDiff, Nat.reduceSub, Nat.reduceMul, Nat.reduceBEq, Int.reduceToNat, Int.reduceLE, Int.reduceLT, Int.reducePow]; done) | (simp only [go_sem, kn23, lowK, fdrow_get, fdrow_len, fileD, Try.ntmps23, reduceIte, reduceCtorEq, Nat.reduceAdd, Nat.reduceEqDiff, Nat.reduceLT, Nat.reduceLeDiff, Nat.reduceSub, Nat.reduceMul, Nat.reduceBEq, Int.reduceToNat, Int.reduceLE, Int.reduceLT, Int.reducePow]; omega)
        case k8 => simp only [go_sem, kn23, lowK, fdrow_get, fdrow_len, fileD, Try.ntmps23, reduceIte, reduceCtorEq, Nat.reduceAdd, Nat.reduceEqDiff, Nat.reduceLT, Nat.reduceLeDiff, Nat.reduceSub, Nat.reduceMul, Nat.reduceBEq, Int.reduceToNat, Int.reduceLE, Int.reduceLT, Int.reducePow]; rfl
        refine AWp.seq ?_
        refine AWp.reg (S1 := ?S9) (ob := ?o9) (S' := ?K9) tab_ok (knowL_ok kn23_ok) mixed [3, 5, 7, 8, 9] ?r9 ?h9 ?k9 ?w9
        case r9 => simp only [go_sem, kn23, lowK, fdrow_get, fdrow_len, fileD, Try.ntmps23, reduceIte, reduceCtorEq, Nat.reduceAdd, Nat.reduceEqDiff, Nat.reduceLT, Nat.reduceLeDiff, Nat.reduceSub, Nat.reduceMul, Nat.reduceBEq, Int.reduceToNat, Int.reduceLE, Int.reduceLT, Int.reducePow, hw2]; rfl
        case h9 =>
          simp only [go_sem, kn23, lowK, fdrow_get, fdrow_len, fileD, Try.ntmps23, reduceIte, reduceCtorEq, Nat.reduceAdd, Nat.reduceEqDiff, Nat.reduceLT, Nat.reduceLeDiff, Nat.reduceSub, Nat.reduceMul, Nat.reduceBEq, Int.reduceToNat, Int.reduceLE, Int.reduceLT, Int.reducePow, lowB_len]
          omega
        case k9 => simp only [go_sem, kn23, lowK, fdrow_get, fdrow_len, fileD, Try.ntmps23, reduceIte, reduceCtorEq, Nat.reduceAdd, Nat.reduceEqDiff, Nat.reduceLT, Nat.reduceLeDiff, Nat.reduceSub, Nat.reduceMul, Nat.reduceBEq, Int.reduceToNat, Int.reduceLE, Int.reduceLT, Int.reducePow]; rfl
        refine AWp.reg (S1 := ?S10) (ob := ?o10) (S' := ?K10) tab_ok (knowL_ok kn23_ok) mixed [3, 7, 8, 9] ?r10 ?h10 ?k10 ?w10
        case r10 => simp only [go_sem, kn23, lowK, fdrow_get, fdrow_len, fileD, Try.ntmps23, reduceIte, reduceCtorEq, Nat.reduceAdd, Nat.reduceEqDiff, Nat.reduceLT, Nat.reduceLeDiff, Nat.reduceSub, Nat.reduceMul, Nat.reduceBEq, Int.reduceToNat, Int.reduceLE, Int.reduceLT, Int.reducePow]; rfl
        case h10 =>
          simp only [go_sem, kn23, lowK, fdrow_get, fdrow_len, fileD, Try.ntmps23, reduceIte, reduceCtorEq, Nat.reduceAdd, Nat.reduceEqDiff, Nat.reduceLT, Nat.reduceLeDiff, Nat.reduceSub, Nat.reduceMul, Nat.reduceBEq, Int.reduceToNat, Int.reduceLE, Int.reduceLT, Int.reducePow, lowB_len]
          omega
        case k10 => simp only [go_sem, kn23, lowK, fdrow_get, fdrow_len, fileD, Try.ntmps23, reduceIte, reduceCtorEq, Nat.reduceAdd, Nat.reduceEqDiff, Nat.reduceLT, Nat.reduceLeDiff, Nat.reduceSub, Nat.reduceMul, Nat.reduceBEq, Int.reduceToNat, Int.reduceLE, Int.reduceLT, Int.reducePow]; rfl
        refine AWp.reg (S1 := ?S11) (ob := ?o11) (S' := ?K11) tab_ok (knowL_ok kn23_ok) mixed [3, 7, 8, 9] ?r11 ?h11 ?k11 ?w11
        case r11 => simp only [go_sem, kn23, lowK, fdrow_get, fdrow_len, fileD, Try.ntmps23, reduceIte, reduceCtorEq, Nat.reduceAdd, Nat.reduceEqDiff, Nat.reduceLT, Nat.reduceLeDiff, Nat.reduceSub, Nat.reduceMul, Nat.reduceBEq, Int.reduceToNat, Int.reduceLE, Int.reduceLT, Int.reducePow]; rfl
        case h11 => first | exact True.intro | omega | (simp only [go_sem, kn23, lowK, fdrow_get, fdrow_len, fileD, Try.ntmps23, reduceIte, reduceCtorEq, Nat.reduceAdd, Nat.reduceEqDiff, Nat.reduceLT, Nat.reduceLeDiff, Nat.reduceSub, Nat.reduceMul, Nat.reduceBEq, Int.reduceToNat, Int.reduceLE, Int.reduceLT, Int.reducePow]; done) | (simp only [go_sem, kn23, lowK, fdrow_get, fdrow_len, fileD, Try.ntmps23, reduceIte, reduceCtorEq, Nat.reduceAdd, Nat.reduceEqDiff, Nat.reduceLT, Nat.reduceLeDiff, Nat.reduceSub, Nat.reduceMul, Nat.reduceBEq, Int.reduceToNat, Int.reduceLE, Int.reduceLT, Int.reducePow]; omega)
        case k11 => simp only [go_sem, kn23, lowK, fdrow_get, fdrow_len, fileD, Try.ntmps23, reduceIte, reduceCtorEq, Nat.reduceAdd, Nat.reduceEqDiff, Nat.reduceLT, Nat.reduceLeDiff, Nat.reduceSub, Nat.reduceMul, Nat.reduceBEq, Int.reduceToNat, Int.reduceLE, Int.reduceLT, Int.reducePow]; rfl
        have hA : (fl.take (i + 1)).flatMap fileB = (fl.take i).flatMap fileB ++ fileB (fl.getD i f0L) := by rw [take_one (by omega) f0L, List.flatMap_append]; simp
        refine ⟨fl.length - (i + 1), ⟨[(3, .one (.s (.row 0 1 0 ((fl.take i).flatMap fileB ++ fileB (fl.getD i f0L)).length none))), (7, .one (.s (.d (.slice z 3 (fdrow fl))))), (8, .one (dv (.int .i64 (fl.length : Int)))), (9, .one (dv (.int .i64 ((i + 1 : Nat) : Int))))], [(0, .row (brow ((fl.take i).flatMap fileB ++ fileB (fl.getD i f0L))) 5)], 1⟩, by omega, ?_, i + 1, by omega, rfl, by rw [hA]⟩
        exact (Conv.keep [3, 7, 8, 9] [7] (by simp)).trans (Conv.rename (fun j => if j = 0 then 7 else j) (by simp; done) (by simp; done) (by simp [St.keep, keepE, lookN, AVal.ren, AV.ren, Sc.ren, AVal.ids, AV.ids, Sc.ids, lowB_len, fileB]; omega) (by simp [St.keep, keepE, lookN, AObj.ren, AObj.ids, Sc.ids, Sc.ren, brow, fileB]; done) (by simp; done))
      case f5 =>
        intro hb1
        have hi : i = fl.length := by simp at hb1; omega
        subst hi
        rw [List.take_length] at hT
        refine AWp.exit ?_
        refine thenA_exit ?_
        refine thenA_exit ?_
        refine inB_eq ?_
        refine AWp.seq ?_
        refine AWp.reg (S1 := ?S12) (ob := ?o12) (S' := ?K12) tab_ok (knowL_ok kn23_ok) mixed [2] ?r12 ?h12 ?k12 ?w12
        case r12 => simp only [go_sem, kn23, lowK, fdrow_get, fdrow_len, fileD, Try.ntmps23, reduceIte, reduceCtorEq, Nat.reduceAdd, Nat.reduceEqDiff, Nat.reduceLT, Nat.reduceLeDiff, Nat.reduceSub, Nat.reduceMul, Nat.reduceBEq, Int.reduceToNat, Int.reduceLE, Int.reduceLT, Int.reducePow]; rfl
        case h12 => first | exact True.intro | omega | (simp only [go_sem, kn23, lowK, fdrow_get, fdrow_len, fileD, Try.ntmps23, reduceIte, reduceCtorEq, Nat.reduceAdd, Nat.reduceEqDiff, Nat.reduceLT, Nat.reduceLeDiff, Nat.reduceSub, Nat.reduceMul, Nat.reduceBEq, Int.reduceToNat, Int.reduceLE, Int.reduceLT, Int.reducePow]; done) | (simp only [go_sem, kn23, lowK, fdrow_get, fdrow_len, fileD, Try.ntmps23, reduceIte, reduceCtorEq, Nat.reduceAdd, Nat.reduceEqDiff, Nat.reduceLT, Nat.reduceLeDiff, Nat.reduceSub, Nat.reduceMul, Nat.reduceBEq, Int.reduceToNat, Int.reduceLE, Int.reduceLT, Int.reducePow]; omega)
        case k12 => simp only [go_sem, kn23, lowK, fdrow_get, fdrow_len, fileD, Try.ntmps23, reduceIte, reduceCtorEq, Nat.reduceAdd, Nat.reduceEqDiff, Nat.reduceLT, Nat.reduceLeDiff, Nat.reduceSub, Nat.reduceMul, Nat.reduceBEq, Int.reduceToNat, Int.reduceLE, Int.reduceLT, Int.reducePow]; rfl
        refine AWp.ret ?_
        refine ends_p (vs := ?vs1) (ob := ?ro1) (vs' := ?ws1) (ks := ?ks1) (ob2 := ?rp1) tab_ok (by simp) ?er1 ?eo1 ?ef1 ?eg1 ?en1 ?ek1 ?ev1
        case er1 => simp only [go_sem, kn23, lowK, fdrow_get, fdrow_len, fileD, Try.ntmps23, reduceIte, reduceCtorEq, Nat.reduceAdd, Nat.reduceEqDiff, Nat.reduceLT, Nat.reduceLeDiff, Nat.reduceSub, Nat.reduceMul, Nat.reduceBEq, Int.reduceToNat, Int.reduceLE, Int.reduceLT, Int.reducePow, Try.results23]; rfl
        case eo1 => first | exact True.intro | simp only [go_sem, kn23, lowK, fdrow_get, fdrow_len, fileD, Try.ntmps23, reduceIte, reduceCtorEq, Nat.reduceAdd, Nat.reduceEqDiff, Nat.reduceLT, Nat.reduceLeDiff, Nat.reduceSub, Nat.reduceMul, Nat.reduceBEq, Int.reduceToNat, Int.reduceLE, Int.reduceLT, Int.reducePow]
        case ef1 => simp only [go_sem, kn23, lowK, fdrow_get, fdrow_len, fileD, Try.ntmps23, reduceIte, reduceCtorEq, Nat.reduceAdd, Nat.reduceEqDiff, Nat.reduceLT, Nat.reduceLeDiff, Nat.reduceSub, Nat.reduceMul, Nat.reduceBEq, Int.reduceToNat, Int.reduceLE, Int.reduceLT, Int.reducePow]; rfl
        case eg1 => first | exact True.intro | simp only [go_sem, kn23, lowK, fdrow_get, fdrow_len, fileD, Try.ntmps23, reduceIte, reduceCtorEq, Nat.reduceAdd, Nat.reduceEqDiff, Nat.reduceLT, Nat.reduceLeDiff, Nat.reduceSub, Nat.reduceMul, Nat.reduceBEq, Int.reduceToNat, Int.reduceLE, Int.reduceLT, Int.reducePow]
        case en1 => simp only [go_sem, kn23, lowK, fdrow_get, fdrow_len, fileD, Try.ntmps23, reduceIte, reduceCtorEq, Nat.reduceAdd, Nat.reduceEqDiff, Nat.reduceLT, Nat.reduceLeDiff, Nat.reduceSub, Nat.reduceMul, Nat.reduceBEq, Int.reduceToNat, Int.reduceLE, Int.reduceLT, Int.reducePow]
        case ek1 => simp only [go_sem, kn23, lowK, fdrow_get, fdrow_len, fileD, Try.ntmps23, reduceIte, reduceCtorEq, Nat.reduceAdd, Nat.reduceEqDiff, Nat.reduceLT, Nat.reduceLeDiff, Nat.reduceSub, Nat.reduceMul, Nat.reduceBEq, Int.reduceToNat, Int.reduceLE, Int.reduceLT, Int.reducePow]
        case ev1 =>
          rfl
  · cases hq

end Go.Proofs.Hg

set_option linter.unusedSimpArgs false
set_option linter.unusedVariables false
set_option maxHeartbeats 4000000
namespace Go.Proofs.Hg
open Go.RowKit
set_option maxRecDepth 100000
def rBytesF : List AV → Option (AVal × Prop)
  | [.agg [.d (.int .i64 n), .d (.slice z e fs)]] => some (.one (dv (.slice none 1 (brow (bytesL (unf fs))))), e = 3 ∧ fs = fdrow (unf fs) ∧ FilesIn (unf fs))
  | _ => none
def kn26 : List (Nat × Cont) := [(27, pureK rLowF)]
theorem kn26_ok : ∀ p ∈ kn26, ContOk Try.prog p.1 p.2 := by
  intro p hp
  simp only [kn26, List.mem_cons, List.not_mem_nil, or_false] at hp
  rcases hp with rfl
  · exact rLowF_ok
theorem rBytesF_ok : ContOk Try.prog 26 (pureK rBytesF) := by
  refine pure_ok (nargs := 1) Try.func26 rfl (by kernel_rfl) (Nat.le_of_ble_eq_true (by kernel_rfl)) ?_
  intro args q hq hob
  unfold rBytesF at hq
  split at hq
  · rename_i n z e fs
    injection hq with hq
    subst hq
    obtain ⟨h1, h2, h3⟩ : e = 3 ∧ fs = fdrow (unf fs) ∧ FilesIn (unf fs) := hob
    generalize unf fs = fl at *
    subst h1 h2
    have hl := h3.1
    refine ⟨rfl, by simp [AV.ids, Sc.ids], by simp [AVal.ids, AV.ids, Sc.ids], by simp, ?_⟩
    refine AWp.seq ?_
    refine AWp.reg (S1 := ?S1) (ob := ?o1) (S' := ?K1) tab_ok (knowL_ok kn26_ok) mixed [1] ?r1 ?h1 ?k1 ?w1
    case r1 => simp only [go_sem, kn26, rLowF, fdrow_get, fdrow_len, fileD, lowB_len, Try.ntmps26, reduceIte, reduceCtorEq, Nat.reduceAdd, Nat.reduceEqDiff, Nat.reduceLT, Nat.reduceLeDiff, Nat.reduceSub, Nat.reduceMul, Nat.reduceBEq, Int.reduceToNat, Int.reduceLE, Int.reduceLT, Int.reducePow]; rfl
    case h1 => first | exact True.intro | omega | (simp only [go_sem, kn26, rLowF, fdrow_get, fdrow_len, fileD, lowB_len, Try.ntmps26, reduceIte, reduceCtorEq, Nat.reduceAdd, Nat.reduceEqDiff, Nat.reduceLT, Nat.reduceLeDiff, Nat.reduceSub, Nat.reduceMul, Nat.reduceBEq, Int.reduceToNat, Int.reduceLE, Int.reduceLT, Int.reducePow]; done) | (simp only [go_sem, kn26, rLowF, fdrow_get, fdrow_len, fileD, lowB_len, Try.ntmps26, reduceIte, reduceCtorEq, Nat.reduceAdd, Nat.reduceEqDiff, Nat.reduceLT, Nat.reduceLeDiff, Nat.reduceSub, Nat.reduceMul, Nat.reduceBEq, Int.reduceToNat, Int.reduceLE, Int.reduceLT, Int.reducePow]; omega)
    case k1 => simp only [go_sem, kn26, rLowF, fdrow_get, fdrow_len, fileD, lowB_len, Try.ntmps26, reduceIte, reduceCtorEq, Nat.reduceAdd, Nat.reduceEqDiff, Nat.reduceLT, Nat.reduceLeDiff, Nat.reduceSub, Nat.reduceMul, Nat.reduceBEq, Int.reduceToNat, Int.reduceLE, Int.reduceLT, Int.reducePow]; rfl
    refine AWp.seq ?_
    refine AWp.reg (S1 := ?S2) (ob := ?o2) (S' := ?K2) tab_ok (knowL_ok kn26_ok) mixed [1, 3] ?r2 ?h2 ?k2 ?w2
    case r2 => simp only [go_sem, kn26, rLowF, fdrow_get, fdrow_len, fileD, lowB_len, Try.ntmps26, reduceIte, reduceCtorEq, Nat.reduceAdd, Nat.reduceEqDiff, Nat.reduceLT, Nat.reduceLeDiff, Nat.reduceSub, Nat.reduceMul, Nat.reduceBEq, Int.reduceToNat, Int.reduceLE, Int.reduceLT, Int.reducePow]; rfl
    case h2 => first | exact True.intro | omega | (simp only [go_sem, kn26, rLowF, fdrow_get, fdrow_len, fileD, lowB_len, Try.ntmps26, reduceIte, reduceCtorEq, Nat.reduceAdd, Nat.reduceEqDiff, Nat.reduceLT, Nat.reduceLeDiff, Nat.reduceSub, Nat.reduceMul, Nat.reduceBEq, Int.reduceToNat, Int.reduceLE, Int.reduceLT, Int.reducePow]; done) | (simp only [go_sem, kn26, rLowF, fdrow_get, fdrow_len, fileD, lowB_len, Try.ntmps26, reduceIte, reduceCtorEq, Nat.reduceAdd, Nat.reduceEqDiff, Nat.reduceLT, Nat.reduceLeDiff, Nat.reduceSub, Nat.reduceMul, Nat.reduceBEq, Int.reduceToNat, Int.reduceLE, Int.reduceLT, Int.reducePow]; omega)
    case k2 => simp only [go_sem, kn26, rLowF, fdrow_get, fdrow_len, fileD, lowB_len, Try.ntmps26, reduceIte, reduceCtorEq, Nat.reduceAdd, Nat.reduceEqDiff, Nat.reduceLT, Nat.reduceLeDiff, Nat.reduceSub, Nat.reduceMul, Nat.reduceBEq, Int.reduceToNat, Int.reduceLE, Int.reduceLT, Int.reducePow]; rfl
    refine AWp.seq ?_
    refine AWp.seq ?_
    refine AWp.reg (S1 := ?S3) (ob := ?o3) (S' := ?K3) tab_ok (knowL_ok kn26_ok) mixed [1, 3, 4] ?r3 ?h3 ?k3 ?w3
    case r3 => simp only [go_sem, kn26, rLowF, fdrow_get, fdrow_len, fileD, lowB_len, Try.ntmps26, reduceIte, reduceCtorEq, Nat.reduceAdd, Nat.reduceEqDiff, Nat.reduceLT, Nat.reduceLeDiff, Nat.reduceSub, Nat.reduceMul, Nat.reduceBEq, Int.reduceToNat, Int.reduceLE, Int.reduceLT, Int.reducePow]; rfl
    case h3 => first | exact True.intro | omega | (simp only [go_sem, kn26, rLowF, fdrow_get, fdrow_len, fileD, lowB_len, Try.ntmps26, reduceIte, reduceCtorEq, Nat.reduceAdd, Nat.reduceEqDiff, Nat.reduceLT, Nat.reduceLeDiff, Nat.reduceSub, Nat.reduceMul, Nat.reduceBEq, Int.reduceToNat, Int.reduceLE, Int.reduceLT, Int.reducePow]; done) | (simp only [go_sem, kn26, rLowF, fdrow_get, fdrow_len, fileD, lowB_len, Try.ntmps26, reduceIte, reduceCtorEq, Nat.reduceAdd, Nat.reduceEqDiff, Nat.reduceLT, Nat.reduceLeDiff, Nat.reduceSub, Nat.reduceMul, Nat.reduceBEq, Int.reduceToNat, Int.reduceLE, Int.reduceLT, Int.reducePow]; omega)
    case k3 => simp only [go_sem, kn26, rLowF, fdrow_get, fdrow_len, fileD, lowB_len, Try.ntmps26, reduceIte, reduceCtorEq, Nat.reduceAdd, Nat.reduceEqDiff, Nat.reduceLT, Nat.reduceLeDiff, Nat.reduceSub, Nat.reduceMul, Nat.reduceBEq, Int.reduceToNat, Int.reduceLE, Int.reduceLT, Int.reducePow]; rfl
    refine AWp.block ?_
    refine AWp.conv (Conv.nilT 3 (e := 1) (ety := 5) rfl rfl) ?_
    refine AWp.conv (Conv.keep [1, 3, 4] [1, 0] (by simp [St.nilT])) ?_
    refine AWp.loop (fun k S => ∃ i : Nat, i ≤ fl.length ∧ k = fl.length - i ∧ S = ⟨[(1, .one (.s (.ptr 0 0))), (3, .one (.s (.row 1 1 0 ((fl.take i).flatMap fileB).length none))), (4, .one (dv (.int .i64 ((i : Nat) : Int))))], [(1, .row (brow ((fl.take i).flatMap fileB)) 5), (0, .cells [.d (.int .i64 n), .d (.slice z 3 (fdrow fl))] 34)], 2⟩) fl.length ?i1 ?n1
    case i1 =>
      exact ⟨0, by omega, rfl, by simp [St.nilT, St.keep, keepE, lookN, brow]⟩
    case n1 =>
      rintro k S ⟨i, hi0, rfl, rfl⟩
      have hT := bytes_take h3 i
      refine AWp.seq ?_
      refine AWp.seq ?_
      refine AWp.reg (S1 := ?S4) (ob := ?o4) (S' := ?K4) tab_ok (knowL_ok kn26_ok) mixed [1, 3, 4, 10] ?r4 ?h4 ?k4 ?w4
      case r4 => simp only [go_sem, kn26, rLowF, fdrow_get, fdrow_len, fileD, lowB_len, Try.ntmps26, reduceIte, reduceCtorEq, Nat.reduceAdd, Nat.reduceEqDiff, Nat.reduceLT, Nat.reduceLeDiff, Nat.reduceSub, Nat.reduceMul, Nat.reduceBEq, Int.reduceToNat, Int.reduceLE, Int.reduceLT, Int.reducePow]; rfl
      case h4 => first | exact True.intro | omega | (simp only [go_sem, kn26, rLowF, fdrow_get, fdrow_len, fileD, lowB_len, Try.ntmps26, reduceIte, reduceCtorEq, Nat.reduceAdd, Nat.reduceEqDiff, Nat.reduceLT, Nat.reduceLeDiff, Nat.reduceSub, Nat.reduceMul, Nat.reduceBEq, Int.reduceToNat, Int.reduceLE, Int.reduceLT, Int.reducePow]; done) | (simp only [go_sem, kn26, rLowF, fdrow_get, fdrow_len, fileD, lowB_len, Try.ntmps26, reduceIte, reduceCtorEq, Nat.reduceAdd, Nat.reduceEqDiff, Nat.reduceLT, Nat.reduceLeDiff, Nat.reduceSub, Nat.reduceMul, Nat.reduceBEq, Int.reduceToNat, Int.reduceLE, Int.reduceLT, Int.reducePow]; omega)
      case k4 => simp only [go_sem, kn26, rLowF, fdrow_get, fdrow_len, fileD, lowB_len, Try.ntmps26, reduceIte, reduceCtorEq, Nat.reduceAdd, Nat.reduceEqDiff, Nat.reduceLT, Nat.reduceLeDiff, Nat.reduceSub, Nat.reduceMul, Nat.reduceBEq, Int.reduceToNat, Int.reduceLE, Int.reduceLT, Int.reducePow]; rfl
      refine AWp.cond (b := ?b5) ?c5 ?t5 ?f5
      case c5 => simp only [go_sem, kn26, rLowF, fdrow_get, fdrow_len, fileD, lowB_len, Try.ntmps26, reduceIte, reduceCtorEq, Nat.reduceAdd, Nat.reduceEqDiff, Nat.reduceLT, Nat.reduceLeDiff, Nat.reduceSub, Nat.reduceMul, Nat.reduceBEq, Int.reduceToNat, Int.reduceLE, Int.reduceLT, Int.reducePow]; rfl
      case t5 =>
        intro hb1
        have hi : i < fl.length := by simp at hb1; omega
        have hp := h3.at hi
        obtain ⟨p1, p2, p3, p4⟩ := hp
        refine AWp.skip ?_
        refine AWp.seq ?_
        refine AWp.block ?_
        refine AWp.seq ?_
        refine AWp.reg (S1 := ?S6) (ob := ?o6) (S' := ?K6) tab_ok (knowL_ok kn26_ok) mixed [1, 3, 4, 5] ?r6 ?h6 ?k6 ?w6
        case r6 => simp only [go_sem, kn26, rLowF, fdrow_get, fdrow_len, fileD, lowB_len, Try.ntmps26, reduceIte, reduceCtorEq, Nat.reduceAdd, Nat.reduceEqDiff, Nat.reduceLT, Nat.reduceLeDiff, Nat.reduceSub, Nat.reduceMul, Nat.reduceBEq, Int.reduceToNat, Int.reduceLE, Int.reduceLT, Int.reducePow]; rfl
        case h6 => first | exact True.intro | omega | (simp only [go_sem, kn26, rLowF, fdrow_get, fdrow_len, fileD, lowB_len, Try.ntmps26, reduceIte, reduceCtorEq, Nat.reduceAdd, Nat.reduceEqDiff, Nat.reduceLT, Nat.reduceLeDiff, Nat.reduceSub, Nat.reduceMul, Nat.reduceBEq, Int.reduceToNat, Int.reduceLE, Int.reduceLT, Int.reducePow]; done) | (simp only [go_sem, kn26, rLowF, fdrow_get, fdrow_len, fileD, lowB_len, Try.ntmps26, reduceIte, reduceCtorEq, Nat.reduceAdd, Nat.reduceEqDiff, Nat.reduceLT, Nat.reduceLeDiff, Nat.reduceSub, Nat.reduceMul, Nat.reduceBEq, Int.reduceToNat, Int.reduceLE, Int.reduceLT, Int.reducePow]; omega)
        case k6 => simp only [go_sem, kn26, rLowF, fdrow_get, fdrow_len, fileD, lowB_len, Try.ntmps26, reduceIte, reduceCtorEq, Nat.reduceAdd, Nat.reduceEqDiff, Nat.reduceLT, Nat.reduceLeDiff, Nat.reduceSub, Nat.reduceMul, Nat.reduceBEq, Int.reduceToNat, Int.reduceLE, Int.reduceLT, Int.reducePow]; rfl
        refine AWp.seq ?_
        refine AWp.reg (S1 := ?S7) (ob := ?o7) (S' := ?K7) tab_ok (knowL_ok kn26_ok) mixed [1, 3, 4, 5] ?r7 ?h7 ?k7 ?w7
        case r7 => simp only [go_sem, kn26, rLowF, fdrow_get, fdrow_len, fileD, lowB_len, Try.ntmps26, reduceIte, reduceCtorEq, Nat.reduceAdd, Nat.reduceEqDiff, Nat.reduceLT, Nat.reduceLeDiff, Nat.reduceSub, Nat.reduceMul, Nat.reduceBEq, Int.reduceToNat, Int.reduceLE, Int.reduceLT, Int.reducePow]; rfl
        case h7 => first | exact True.intro | omega | (simp only [go_sem, kn26, rLowF, fdrow_get, fdrow_len, fileD, lowB_len, Try.ntmps26, reduceIte, reduceCtorEq, Nat.reduceAdd, Nat.reduceEqDiff, Nat.reduceLT, Nat.reduceLeDiff, Nat.reduceSub, Nat.reduceMul, Nat.reduceBEq, Int.reduceToNat, Int.reduceLE, Int.reduceLT, Int.reducePow]; done) | (simp only [go_sem, kn26, rLowF, fdrow_get, fdrow_len, fileD, lowB_len, Try.ntmps26, reduceIte, reduceCtorEq, Nat.reduceAdd, Nat.reduceEqDiff, Nat.reduceLT, Nat.reduceLeDiff, Nat.reduceSub, Nat.reduceMul, Nat.reduceBEq, Int.reduceToNat, Int.reduceLE, Int.reduceLT, Int.reducePow]; omega)
        case k7 => simp only [go_sem, kn26, rLowF, fdrow_get, fdrow_len, fileD, lowB_len, Try.ntmps26, reduceIte, reduceCtorEq, Nat.reduceAdd, Nat.reduceEqDiff, Nat.reduceLT, Nat.reduceLeDiff, Nat.reduceSub, Nat.reduceMul, Nat.reduceBEq, Int.reduceToNat, Int.reduceLE, Int.reduceLT, Int.reducePow]; rfl
        refine AWp.seq ?_
        refine AWp.reg (S1 := ?S8) (ob := ?o8) (S' := ?K8) tab_ok (knowL_ok kn26_ok) mixed [1, 3, 4, 5] ?r8 ?h8 ?k8 ?w8
        case r8 => simp only [go_sem, kn26, rLowF, fdrow_get, fdrow_len, fileD, lowB_len, Try.ntmps26, reduceIte, reduceCtorEq, Nat.reduceAdd, Nat.reduceEqDiff, Nat.reduceLT, Nat.reduceLeDiff, Nat.reduceSub, Nat.reduceMul, Nat.reduceBEq, Int.reduceToNat, Int.reduceLE, Int.reduceLT, Int.reducePow]; rfl
        case h8 => first | exact True.intro | omega | (simp only [go_sem, kn26, rLowF, fdrow_get, fdrow_len, fileD, lowB_len, Try.ntmps26, reduceIte, reduceCtorEq, Nat.reduceAdd, Nat.reduceEqDiff, Nat.reduceLT, Nat.reduceLeDiff, Nat.reduceSub, Nat.reduceMul, Nat.reduceBEq, Int.reduceToNat, Int.reduceLE, Int.reduceLT, Int.reducePow]; done) | (simp only [go_sem, kn26, rLowF, fdrow_get, fdrow_len, fileD, lowB_len, Try.ntmps26, reduceIte, reduceCtorEq, Nat.reduceAdd, Nat.reduceEqDiff, Nat.reduceLT, Nat.reduceLeDiff, Nat.reduceSub, Nat.reduceMul, Nat.reduceBEq, Int.reduceToNat, Int.reduceLE, Int.reduceLT, Int.reducePow]; omega)
        case k8 => simp only [go_sem, kn26, rLowF, fdrow_get, fdrow_len, fileD, lowB_len, Try.ntmps26, reduceIte, reduceCtorEq, Nat.reduceAdd, Nat.reduceEqDiff, Nat.reduceLT, Nat.reduceLeDiff, Nat.reduceSub, Nat.reduceMul, Nat.reduceBEq, Int.reduceToNat, Int.reduceLE, Int.reduceLT, Int.reducePow]; rfl
        refine AWp.seq ?_
        refine AWp.reg (S1 := ?S9) (ob := ?o9) (S' := ?K9) tab_ok (knowL_ok kn26_ok) mixed [1, 3, 4, 5] ?r9 ?h9 ?k9 ?w9
        case r9 => simp only [go_sem, kn26, rLowF, fdrow_get, fdrow_len, fileD, lowB_len, Try.ntmps26, reduceIte, reduceCtorEq, Nat.reduceAdd, Nat.reduceEqDiff, Nat.reduceLT, Nat.reduceLeDiff, Nat.reduceSub, Nat.reduceMul, Nat.reduceBEq, Int.reduceToNat, Int.reduceLE, Int.reduceLT, Int.reducePow]; rfl
        case h9 => first | exact True.intro | omega | (simp only [go_sem, kn26, rLowF, fdrow_get, fdrow_len, fileD, lowB_len, Try.ntmps26, reduceIte, reduceCtorEq, Nat.reduceAdd, Nat.reduceEqDiff, Nat.reduceLT, Nat.reduceLeDiff, Nat.reduceSub, Nat.reduceMul, Nat.reduceBEq, Int.reduceToNat, Int.reduceLE, Int.reduceLT, Int.reducePow]; done) | (simp only [go_sem, kn26, rLowF, fdrow_get, fdrow_len, fileD, lowB_len, Try.ntmps26, reduceIte, reduceCtorEq, Nat.reduceAdd, Nat.reduceEqDiff, Nat.reduceLT, Nat.reduceLeDiff, Nat.reduceSub, Nat.reduceMul, Nat.reduceBEq, Int.reduceToNat, Int.reduceLE, Int.reduceLT, Int.reducePow]; omega)
        case k9 => simp only [go_sem, kn26, rLowF, fdrow_get, fdrow_len, fileD, lowB_len, Try.ntmps26, reduceIte, reduceCtorEq, Nat.reduceAdd, Nat.reduceEqDiff, Nat.reduceLT, Nat.reduceLeDiff, Nat.reduceSub, Nat.reduceMul, Nat.reduceBEq, Int.reduceToNat, Int.reduceLE, Int.reduceLT, Int.reducePow]; rfl
        refine AWp.seq ?_
        refine AWp.reg (S1 := ?S10) (ob := ?o10) (S' := ?K10) tab_ok (knowL_ok kn26_ok) mixed [1, 3, 4, 5] ?r10 ?h10 ?k10 ?w10
        case r10 => simp only [go_sem, kn26, rLowF, fdrow_get, fdrow_len, fileD, lowB_len, Try.ntmps26, reduceIte, reduceCtorEq, Nat.reduceAdd, Nat.reduceEqDiff, Nat.reduceLT, Nat.reduceLeDiff, Nat.reduceSub, Nat.reduceMul, Nat.reduceBEq, Int.reduceToNat, Int.reduceLE, Int.reduceLT, Int.reducePow]; rfl
        case h10 => first | exact True.intro | omega | (simp only [go_sem, kn26, rLowF, fdrow_get, fdrow_len, fileD, lowB_len, Try.ntmps26, reduceIte, reduceCtorEq, Nat.reduceAdd, Nat.reduceEqDiff, Nat.reduceLT, Nat.reduceLeDiff, Nat.reduceSub, Nat.reduceMul, Nat.reduceBEq, Int.reduceToNat, Int.reduceLE, Int.reduceLT, Int.reducePow]; done) | (simp only [go_sem, kn26, rLowF, fdrow_get, fdrow_len, fileD, lowB_len, Try.ntmps26, reduceIte, reduceCtorEq, Nat.reduceAdd, Nat.reduceEqDiff, Nat.reduceLT, Nat.reduceLeDiff, Nat.reduceSub, Nat.reduceMul, Nat.reduceBEq, Int.reduceToNat, Int.reduceLE, Int.reduceLT, Int.reducePow]; omega)
        case k10 => simp only [go_sem, kn26, rLowF, fdrow_get, fdrow_len, fileD, lowB_len, Try.ntmps26, reduceIte, reduceCtorEq, Nat.reduceAdd, Nat.reduceEqDiff, Nat.reduceLT, Nat.reduceLeDiff, Nat.reduceSub, Nat.reduceMul, Nat.reduceBEq, Int.reduceToNat, Int.reduceLE, Int.reduceLT, Int.reducePow]; rfl
        refine AWp.reg (S1 := ?S11) (ob := ?o11) (S' := ?K11) tab_ok (knowL_ok kn26_ok) mixed [1, 3, 4] ?r11 ?h11 ?k11 ?w11
        case r11 => simp only [go_sem, kn26, rLowF, fdrow_get, fdrow_len, fileD, lowB_len, Try.ntmps26, reduceIte, reduceCtorEq, Nat.reduceAdd, Nat.reduceEqDiff, Nat.reduceLT, Nat.reduceLeDiff, Nat.reduceSub, Nat.reduceMul, Nat.reduceBEq, Int.reduceToNat, Int.reduceLE, Int.reduceLT, Int.reducePow]; rfl
        case h11 => first | exact True.intro | omega | (simp only [go_sem, kn26, rLowF, fdrow_get, fdrow_len, fileD, lowB_len, Try.ntmps26, reduceIte, reduceCtorEq, Nat.reduceAdd, Nat.reduceEqDiff, Nat.reduceLT, Nat.reduceLeDiff, Nat.reduceSub, Nat.reduceMul, Nat.reduceBEq, Int.reduceToNat, Int.reduceLE, Int.reduceLT, Int.reducePow]; done) | (simp only [go_sem, kn26, rLowF, fdrow_get, fdrow_len, fileD, lowB_len, Try.ntmps26, reduceIte, reduceCtorEq, Nat.reduceAdd, Nat.reduceEqDiff, Nat.reduceLT, Nat.reduceLeDiff, Nat.reduceSub, Nat.reduceMul, Nat.reduceBEq, Int.reduceToNat, Int.reduceLE, Int.reduceLT, Int.reducePow]; omega)
        case k11 => simp only [go_sem, kn26, rLowF, fdrow_get, fdrow_len, fileD, lowB_len, Try.ntmps26, reduceIte, reduceCtorEq, Nat.reduceAdd, Nat.reduceEqDiff, Nat.reduceLT, Nat.reduceLeDiff, Nat.reduceSub, Nat.reduceMul, Nat.reduceBEq, Int.reduceToNat, Int.reduceLE, Int.reduceLT, Int.reducePow]; rfl
        refine AWp.reg (S1 := ?S12) (ob := ?o12) (S' := ?K12) tab_ok (knowL_ok kn26_ok) mixed [1, 3, 4] ?r12 ?h12 ?k12 ?w12
        case r12 => simp only [go_sem, kn26, rLowF, fdrow_get, fdrow_len, fileD, lowB_len, Try.ntmps26, reduceIte, reduceCtorEq, Nat.reduceAdd, Nat.reduceEqDiff, Nat.reduceLT, Nat.reduceLeDiff, Nat.reduceSub, Nat.reduceMul, Nat.reduceBEq, Int.reduceToNat, Int.reduceLE, Int.reduceLT, Int.reducePow]; rfl
        case h12 => first | exact True.intro | omega | (simp only [go_sem, kn26, rLowF, fdrow_get, fdrow_len, fileD, lowB_len, Try.ntmps26, reduceIte, reduceCtorEq, Nat.reduceAdd, Nat.reduceEqDiff, Nat.reduceLT, Nat.reduceLeDiff, Nat.reduceSub, Nat.reduceMul, Nat.reduceBEq, Int.reduceToNat, Int.reduceLE, Int.reduceLT, Int.reducePow]; done) | (simp only [go_sem, kn26, rLowF, fdrow_get, fdrow_len, fileD, lowB_len, Try.ntmps26, reduceIte, reduceCtorEq, Nat.reduceAdd, Nat.reduceEqDiff, Nat.reduceLT, Nat.reduceLeDiff, Nat.reduceSub, Nat.reduceMul, Nat.reduceBEq, Int.reduceToNat, Int.reduceLE, Int.reduceLT, Int.reducePow]; omega)
        case k12 => simp only [go_sem, kn26, rLowF, fdrow_get, fdrow_len, fileD, lowB_len, Try.ntmps26, reduceIte, reduceCtorEq, Nat.reduceAdd, Nat.reduceEqDiff, Nat.reduceLT, Nat.reduceLeDiff, Nat.reduceSub, Nat.reduceMul, Nat.reduceBEq, Int.reduceToNat, Int.reduceLE, Int.reduceLT, Int.reducePow]; rfl
        have hA : (fl.take (i + 1)).flatMap fileB = (fl.take i).flatMap fileB ++ fileB (fl.getD i f0L) := by rw [take_one (by omega) f0L, List.flatMap_append]; simp
        refine ⟨fl.length - (i + 1), ⟨[(1, .one (.s (.ptr 0 0))), (3, .one (.s (.row 1 1 0 ((fl.take i).flatMap fileB ++ fileB (fl.getD i f0L)).length none))), (4, .one (dv (.int .i64 ((i + 1 : Nat) : Int))))], [(1, .row (brow ((fl.take i).flatMap fileB ++ fileB (fl.getD i f0L))) 5), (0, .cells [.d (.int .i64 n), .d (.slice z 3 (fdrow fl))] 34)], 2⟩, by omega, ?_, i + 1, by omega, rfl, by rw [hA]⟩
        exact (Conv.keep [1, 3, 4] [10, 0] (by simp)).trans (Conv.rename (fun j => if j = 1 then 10 else j) (by simp; done) (by simp; done) (by simp [St.keep, keepE, lookN, AVal.ren, AV.ren, Sc.ren, AVal.ids, AV.ids, Sc.ids, lowB_len, fileB]; omega) (by simp [St.keep, keepE, lookN, AObj.ren, AObj.ids, Sc.ids, Sc.ren, brow, fileB]; done) (by simp; done))
      case f5 =>
        intro hb1
        have hi : i = fl.length := by simp at hb1; omega
        subst hi
        rw [List.take_length] at hT
        refine AWp.exit ?_
        refine thenA_exit ?_
        refine thenA_exit ?_
        refine inB_eq ?_
        refine AWp.seq ?_
        refine AWp.reg (S1 := ?S13) (ob := ?o13) (S' := ?K13) tab_ok (knowL_ok kn26_ok) mixed [2] ?r13 ?h13 ?k13 ?w13
        case r13 => simp only [go_sem, kn26, rLowF, fdrow_get, fdrow_len, fileD, lowB_len, Try.ntmps26, reduceIte, reduceCtorEq, Nat.reduceAdd, Nat.reduceEqDiff, Nat.reduceLT, Nat.reduceLeDiff, Nat.reduceSub, Nat.reduceMul, Nat.reduceBEq, Int.reduceToNat, Int.reduceLE, Int.reduceLT, Int.reducePow]; rfl
        case h13 => first | exact True.intro | omega | (simp only [go_sem, kn26, rLowF, fdrow_get, fdrow_len, fileD, lowB_len, Try.ntmps26, reduceIte, reduceCtorEq, Nat.reduceAdd, Nat.reduceEqDiff, Nat.reduceLT, Nat.reduceLeDiff, Nat.reduceSub, Nat.reduceMul, Nat.reduceBEq, Int.reduceToNat, Int.reduceLE, Int.reduceLT, Int.reducePow]; done) | (simp only [go_sem, kn26, rLowF, fdrow_get, fdrow_len, fileD, lowB_len, Try.ntmps26, reduceIte, reduceCtorEq, Nat.reduceAdd, Nat.reduceEqDiff, Nat.reduceLT, Nat.reduceLeDiff, Nat.reduceSub, Nat.reduceMul, Nat.reduceBEq, Int.reduceToNat, Int.reduceLE, Int.reduceLT, Int.reducePow]; omega)
        case k13 => simp only [go_sem, kn26, rLowF, fdrow_get, fdrow_len, fileD, lowB_len, Try.ntmps26, reduceIte, reduceCtorEq, Nat.reduceAdd, Nat.reduceEqDiff, Nat.reduceLT, Nat.reduceLeDiff, Nat.reduceSub, Nat.reduceMul, Nat.reduceBEq, Int.reduceToNat, Int.reduceLE, Int.reduceLT, Int.reducePow]; rfl
        refine AWp.ret ?_
        refine ends_p (vs := ?vs1) (ob := ?ro1) (vs' := ?ws1) (ks := ?ks1) (ob2 := ?rp1) tab_ok (by simp) ?er1 ?eo1 ?ef1 ?eg1 ?en1 ?ek1 ?ev1
        case er1 => simp only [go_sem, kn26, rLowF, fdrow_get, fdrow_len, fileD, lowB_len, Try.ntmps26, reduceIte, reduceCtorEq, Nat.reduceAdd, Nat.reduceEqDiff, Nat.reduceLT, Nat.reduceLeDiff, Nat.reduceSub, Nat.reduceMul, Nat.reduceBEq, Int.reduceToNat, Int.reduceLE, Int.reduceLT, Int.reducePow, Try.results26]; rfl
        case eo1 => first | exact True.intro | simp only [go_sem, kn26, rLowF, fdrow_get, fdrow_len, fileD, lowB_len, Try.ntmps26, reduceIte, reduceCtorEq, Nat.reduceAdd, Nat.reduceEqDiff, Nat.reduceLT, Nat.reduceLeDiff, Nat.reduceSub, Nat.reduceMul, Nat.reduceBEq, Int.reduceToNat, Int.reduceLE, Int.reduceLT, Int.reducePow]
        case ef1 => simp only [go_sem, kn26, rLowF, fdrow_get, fdrow_len, fileD, lowB_len, Try.ntmps26, reduceIte, reduceCtorEq, Nat.reduceAdd, Nat.reduceEqDiff, Nat.reduceLT, Nat.reduceLeDiff, Nat.reduceSub, Nat.reduceMul, Nat.reduceBEq, Int.reduceToNat, Int.reduceLE, Int.reduceLT, Int.reducePow]; rfl
        case eg1 => first | exact True.intro | simp only [go_sem, kn26, rLowF, fdrow_get, fdrow_len, fileD, lowB_len, Try.ntmps26, reduceIte, reduceCtorEq, Nat.reduceAdd, Nat.reduceEqDiff, Nat.reduceLT, Nat.reduceLeDiff, Nat.reduceSub, Nat.reduceMul, Nat.reduceBEq, Int.reduceToNat, Int.reduceLE, Int.reduceLT, Int.reducePow]
        case en1 => simp only [go_sem, kn26, rLowF, fdrow_get, fdrow_len, fileD, lowB_len, Try.ntmps26, reduceIte, reduceCtorEq, Nat.reduceAdd, Nat.reduceEqDiff, Nat.reduceLT, Nat.reduceLeDiff, Nat.reduceSub, Nat.reduceMul, Nat.reduceBEq, Int.reduceToNat, Int.reduceLE, Int.reduceLT, Int.reducePow]
        case ek1 => simp only [go_sem, kn26, rLowF, fdrow_get, fdrow_len, fileD, lowB_len, Try.ntmps26, reduceIte, reduceCtorEq, Nat.reduceAdd, Nat.reduceEqDiff, Nat.reduceLT, Nat.reduceLeDiff, Nat.reduceSub, Nat.reduceMul, Nat.reduceBEq, Int.reduceToNat, Int.reduceLE, Int.reduceLT, Int.reducePow]
        case ev1 =>
          rfl
  · cases hq

end Go.Proofs.Hg

/- slices.Chunk's iterator. -/
set_option linter.unusedSimpArgs false
set_option linter.unusedVariables false
namespace Go.Proofs.Hg
open Go.RowKit
set_option maxRecDepth 100000

def chunkAt (k : Nat) (s : List UInt8) (j : Nat) : List UInt8 := (s.drop (k * j)).take k
def nChunks (k len : Nat) : Nat := (len + k - 1) / k
def chunkDs (z : Option Bool) (k : Nat) (s : List UInt8) : List D := (List.range (nChunks k s.length)).map fun j => .slice z 1 (brow (chunkAt k s j))
theorem nChunks_lt {k len j : Nat} (hk : 1 ≤ k) : k * j < len ↔ j < nChunks k len := by
  unfold nChunks
  rw [Nat.lt_div_iff_mul_lt (by omega)]
  rw [Nat.mul_comm]
  omega
theorem chunkDs_len (z : Option Bool) (k : Nat) (s : List UInt8) : (chunkDs z k s).length = nChunks k s.length := by simp [chunkDs]
theorem chunkDs_get {z : Option Bool} {k : Nat} {s : List UInt8} {j : Nat} (hj : j < nChunks k s.length) : (chunkDs z k s)[j]? = some (.slice z 1 (brow (chunkAt k s j))) := by
  simp [chunkDs, List.getElem?_map, List.getElem?_range hj]

theorem iter36 (z : Option Bool) (s : List UInt8) (k : Nat) (hk : 1 ≤ k) (hb : k + s.length ≤ 9223372036854775807) : IterOk Try.prog 36 [.ptr [.slice z 1 (brow s)], .ptr [.int .i64 (k : Int)]] (chunkDs z k s) := by
  refine iter_ok Try.func36 rfl (by kernel_rfl) (Nat.le_of_ble_eq_true (by kernel_rfl)) rfl ?_
  intro n l G hG hY
  refine AWpG.seq (AWpG.plain hG ?_)
  refine AWp.reg (S1 := ?S1) (ob := ?o1) (S' := ?K1) tab_ok (noKnow _) mixed [0, 1, 2, 4] ?r1 ?h1 ?k1 ?w1
  case r1 => simp only [go_sem, Try.ntmps36, reduceIte, reduceCtorEq, Nat.reduceAdd, Nat.reduceEqDiff, Nat.reduceLT, Nat.reduceLeDiff, Nat.reduceSub, Nat.reduceMul, Nat.reduceBEq, Int.reduceToNat, Int.reduceLE, Int.reduceLT, Int.reducePow]; rfl
  case h1 => first | exact True.intro | (simp only [go_sem, Try.ntmps36, reduceIte, reduceCtorEq, Nat.reduceAdd, Nat.reduceEqDiff, Nat.reduceLT, Nat.reduceLeDiff, Nat.reduceSub, Nat.reduceMul, Nat.reduceBEq, Int.reduceToNat, Int.reduceLE, Int.reduceLT, Int.reducePow]; done)
  case k1 => simp only [go_sem, Try.ntmps36, reduceIte, reduceCtorEq, Nat.reduceAdd, Nat.reduceEqDiff, Nat.reduceLT, Nat.reduceLeDiff, Nat.reduceSub, Nat.reduceMul, Nat.reduceBEq, Int.reduceToNat, Int.reduceLE, Int.reduceLT, Int.reducePow]; rfl
  refine ⟨rfl, ?_⟩
  refine AWpG.block ?_
  refine AWpG.loop (fun q i S => ∃ j : Nat, j ≤ nChunks k s.length ∧ q = nChunks k s.length - j ∧ i = j ∧ S = ⟨[(0, .one (.s (.yield 0))), (1, .one (dv (.ptr [.slice z 1 (brow s)]))), (2, .one (dv (.ptr [.int .i64 (k : Int)]))), (4, .one (dv (.int .i64 ((k * j : Nat) : Int))))], [], 1⟩) (nChunks k s.length) ⟨0, by omega, by omega, rfl, by simp⟩ ?_
  rintro q i S ⟨j, hj, rfl, rfl, rfl⟩
  refine AWpG.seq (AWpG.seq (AWpG.plain hG ?_))
  refine AWp.reg (S1 := ?S2) (ob := ?o2) (S' := ?K2) tab_ok (noKnow _) mixed [0, 1, 2, 4, 9] ?r2 ?h2 ?k2 ?w2
  case r2 => simp only [go_sem, Try.ntmps36, reduceIte, reduceCtorEq, Nat.reduceAdd, Nat.reduceEqDiff, Nat.reduceLT, Nat.reduceLeDiff, Nat.reduceSub, Nat.reduceMul, Nat.reduceBEq, Int.reduceToNat, Int.reduceLE, Int.reduceLT, Int.reducePow]; rfl
  case h2 => first | exact True.intro | (simp only [go_sem, Try.ntmps36, reduceIte, reduceCtorEq, Nat.reduceAdd, Nat.reduceEqDiff, Nat.reduceLT, Nat.reduceLeDiff, Nat.reduceSub, Nat.reduceMul, Nat.reduceBEq, Int.reduceToNat, Int.reduceLE, Int.reduceLT, Int.reducePow]; done) | (simp only [go_sem, Try.ntmps36, reduceIte, reduceCtorEq, Nat.reduceAdd, Nat.reduceEqDiff, Nat.reduceLT, Nat.reduceLeDiff, Nat.reduceSub, Nat.reduceMul, Nat.reduceBEq, Int.reduceToNat, Int.reduceLE, Int.reduceLT, Int.reducePow]; omega)
  case k2 => simp only [go_sem, Try.ntmps36, reduceIte, reduceCtorEq, Nat.reduceAdd, Nat.reduceEqDiff, Nat.reduceLT, Nat.reduceLeDiff, Nat.reduceSub, Nat.reduceMul, Nat.reduceBEq, Int.reduceToNat, Int.reduceLE, Int.reduceLT, Int.reducePow]; rfl
  refine ⟨rfl, ?_⟩
  refine AWpG.cond (b := ?b3) ?c3 ?t3 ?f3
  case c3 => simp only [go_sem, Try.ntmps36, reduceIte, reduceCtorEq, Nat.reduceAdd, Nat.reduceEqDiff, Nat.reduceLT, Nat.reduceLeDiff, Nat.reduceSub, Nat.reduceMul, Nat.reduceBEq, Int.reduceToNat, Int.reduceLE, Int.reduceLT, Int.reducePow]; rfl
  case f3 =>
    intro hb1
    have hge : ¬ k * i < s.length := by simp only [decide_eq_false_iff_not] at hb1; omega
    have hje : i = nChunks k s.length := by
      have h2 : ¬ i < nChunks k s.length := fun h => hge ((nChunks_lt hk).2 h)
      omega
    refine AWpG.plain hG (AWp.exit ⟨rfl, ?_⟩)
    simp only [thenG, inBlockG, reduceIte]
    exact ⟨.inl trivial, by rw [chunkDs_len]; exact hje⟩
  case t3 =>
    intro hb1
    have hlt : k * i < s.length := by simp only [decide_eq_true_eq] at hb1; omega
    have hjn := (nChunks_lt hk).1 hlt
    refine AWpG.plain hG (AWp.skip ⟨rfl, ?_⟩)
    refine AWpG.seq (AWpG.block (AWpG.seq (AWpG.plain hG ?_)))
    refine AWp.drw (S1 := ?S4) (ob := ?o4) (lts := ?t4) (S' := ?K4) tab_ok (noKnow _) mixed [0, 1, 2, 4, 5] ?r4 ?d4 ?h4 ?k4 ?w4
    case r4 => simp only [go_sem, Try.ntmps36, reduceIte, reduceCtorEq, Nat.reduceAdd, Nat.reduceEqDiff, Nat.reduceLT, Nat.reduceLeDiff, Nat.reduceSub, Nat.reduceMul, Nat.reduceBEq, Int.reduceToNat, Int.reduceLE, Int.reduceLT, Int.reducePow]; rfl
    case d4 => rfl
    case h4 =>
      simp only [go_sem, Try.ntmps36, reduceIte, reduceCtorEq, Nat.reduceAdd, Nat.reduceEqDiff, Nat.reduceLT, Nat.reduceLeDiff, Nat.reduceSub, Nat.reduceMul, Nat.reduceBEq, Int.reduceToNat, Int.reduceLE, Int.reduceLT, Int.reducePow]
      omega
    case k4 => simp only [go_sem, Try.ntmps36, reduceIte, reduceCtorEq, Nat.reduceAdd, Nat.reduceEqDiff, Nat.reduceLT, Nat.reduceLeDiff, Nat.reduceSub, Nat.reduceMul, Nat.reduceBEq, Int.reduceToNat, Int.reduceLE, Int.reduceLT, Int.reducePow]; rfl
    refine ⟨rfl, ?_⟩
    refine AWpG.seq ?_
    refine AWpG.yreg (t := ?tt) (u := ?tu) (d := ?td) (ats := ?ta) (ty := ?tty) (pos := ?tp) (after := ?taf) (S1 := ?S5) (S2 := ?S6) (ob1 := ?o5) (ob2 := ?o6) (x := ?x5) tab_ok (noKnow _) hG hY 10 (hop := ?hop) ?hd ?r5 ?h5 ?n5 ?t5 ?u5 ?x5' ?r6 ?h6 ?n6 ?w6
    case hop => rfl
    case hd => decide
    case r5 => simp only [go_sem, Try.ntmps36, reduceIte, reduceCtorEq, Nat.reduceAdd, Nat.reduceEqDiff, Nat.reduceLT, Nat.reduceLeDiff, Nat.reduceSub, Nat.reduceMul, Nat.reduceBEq, Int.reduceToNat, Int.reduceLE, Int.reduceLT, Int.reducePow]; rfl
    case h5 =>
      generalize hL : (if ((s.drop (k * i)).length : Int) < (k : Int) then ((s.drop (k * i)).length : Int) else (k : Int)) = L
      have : 0 ≤ L ∧ ((k * i : Nat) : Int) + L ≤ (s.length : Int) := by
        rw [← hL]
        simp only [List.length_drop]
        split <;> omega
      omega
    case n5 => rfl
    case t5 => simp only [go_sem, Try.ntmps36, reduceIte, reduceCtorEq, Nat.reduceAdd, Nat.reduceEqDiff, Nat.reduceLT, Nat.reduceLeDiff, Nat.reduceSub, Nat.reduceMul, Nat.reduceBEq, Int.reduceToNat, Int.reduceLE, Int.reduceLT, Int.reducePow]
    case u5 => simp only [go_sem, Try.ntmps36, reduceIte, reduceCtorEq, Nat.reduceAdd, Nat.reduceEqDiff, Nat.reduceLT, Nat.reduceLeDiff, Nat.reduceSub, Nat.reduceMul, Nat.reduceBEq, Int.reduceToNat, Int.reduceLE, Int.reduceLT, Int.reducePow]; rfl
    case x5' =>
      rw [chunkDs_get hjn]
      have hmin : ((((k * i : Nat) : Int) + if ((s.drop (k * i)).length : Int) < (k : Int) then ((s.drop (k * i)).length : Int) else (k : Int)).toNat - k * i) = min k (s.drop (k * i)).length := by
        simp only [List.length_drop]
        split <;> omega
      rw [hmin]
      simp only [chunkAt]
      rw [Nat.min_def]
      split
      · rfl
      · rw [List.take_of_length_le (by omega), List.take_of_length_le (Nat.le_refl _)]
    case r6 => simp only [go_sem, Try.ntmps36, reduceIte, reduceCtorEq, Nat.reduceAdd, Nat.reduceEqDiff, Nat.reduceLT, Nat.reduceLeDiff, Nat.reduceSub, Nat.reduceMul, Nat.reduceBEq, Int.reduceToNat, Int.reduceLE, Int.reduceLT, Int.reducePow]; rfl
    case h6 => first | exact True.intro | (simp only [go_sem, Try.ntmps36, reduceIte, reduceCtorEq, Nat.reduceAdd, Nat.reduceEqDiff, Nat.reduceLT, Nat.reduceLeDiff, Nat.reduceSub, Nat.reduceMul, Nat.reduceBEq, Int.reduceToNat, Int.reduceLE, Int.reduceLT, Int.reducePow]; done)
    case n6 => rfl
    refine AWpG.conv (S' := ?S7) hG (Conv.keepT [0, 1, 2, 4, 30] ?k7) ?n7 ?w7
    case k7 => simp only [go_sem, Try.ntmps36, reduceIte, reduceCtorEq, Nat.reduceAdd, Nat.reduceEqDiff, Nat.reduceLT, Nat.reduceLeDiff, Nat.reduceSub, Nat.reduceMul, Nat.reduceBEq, Int.reduceToNat, Int.reduceLE, Int.reduceLT, Int.reducePow]; rfl
    case n7 => rfl
    refine AWpG.cond (b := ?b8) ?c8 ?t8 ?f8
    case c8 => simp only [go_sem, Try.ntmps36, reduceIte, reduceCtorEq, Nat.reduceAdd, Nat.reduceEqDiff, Nat.reduceLT, Nat.reduceLeDiff, Nat.reduceSub, Nat.reduceMul, Nat.reduceBEq, Int.reduceToNat, Int.reduceLE, Int.reduceLT, Int.reducePow]; rfl
    case t8 => intro h; cases h
    case f8 =>
      intro _
      refine AWpG.plain hG (AWp.skip ⟨rfl, ?_⟩)
      refine AWpG.plain hG ?_
      refine AWp.reg (S1 := ?S9) (ob := ?o9) (S' := ?K9) tab_ok (noKnow _) mixed [0, 1, 2, 4] ?r9 ?h9 ?k9 ?w9
      case r9 => simp only [go_sem, Try.ntmps36, reduceIte, reduceCtorEq, Nat.reduceAdd, Nat.reduceEqDiff, Nat.reduceLT, Nat.reduceLeDiff, Nat.reduceSub, Nat.reduceMul, Nat.reduceBEq, Int.reduceToNat, Int.reduceLE, Int.reduceLT, Int.reducePow]; rfl
      case h9 =>
        omega
      case k9 => simp only [go_sem, Try.ntmps36, reduceIte, reduceCtorEq, Nat.reduceAdd, Nat.reduceEqDiff, Nat.reduceLT, Nat.reduceLeDiff, Nat.reduceSub, Nat.reduceMul, Nat.reduceBEq, Int.reduceToNat, Int.reduceLE, Int.reduceLT, Int.reducePow]; rfl
      refine ⟨rfl, nChunks k s.length - (i + 1), by omega, i + 1, by omega, rfl, rfl, ?_⟩
      rw [Nat.mul_add, Nat.mul_one, Int.natCast_add]
end Go.Proofs.Hg

set_option linter.unusedSimpArgs false
set_option linter.unusedVariables false
set_option maxHeartbeats 4000000
namespace Go.Proofs.Hg
open Go.RowKit
set_option maxRecDepth 100000
def chunkF : List AV → Option (AVal × Prop)
  | [.s (.d (.slice z e es)), .s (.d (.int .i64 n))] => some (.one (dv (.func 36 [.ptr [.slice z e es], .ptr [.int .i64 n]])), 1 ≤ n)
  | _ => none
theorem chunkF_ok : ContOk Try.prog 22 (pureK chunkF) := by
  refine pure_ok (nargs := 2) Try.func22 rfl (by kernel_rfl) (Nat.le_of_ble_eq_true (by kernel_rfl)) ?_
  intro args q hq hob
  unfold chunkF at hq
  split at hq
  · rename_i z e es n
    injection hq with hq
    subst hq
    have hn : 1 ≤ n := hob
    refine ⟨rfl, by simp [AV.ids, Sc.ids], by simp [AVal.ids, AV.ids, Sc.ids], by simp, ?_⟩
    refine AWp.seq ?_
    refine AWp.reg (S1 := ?S1) (ob := ?o1) (S' := ?K1) tab_ok (noKnow _) mixed [2, 3] ?r1 ?h1 ?k1 ?w1
    case r1 => simp only [go_sem, Try.ntmps22, reduceIte, reduceCtorEq, Nat.reduceAdd, Nat.reduceEqDiff, Nat.reduceLT, Nat.reduceLeDiff, Nat.reduceSub, Nat.reduceMul, Nat.reduceBEq, Int.reduceToNat, Int.reduceLE, Int.reduceLT, Int.reducePow]; rfl
    case h1 => first | exact True.intro | omega | (simp only [go_sem, Try.ntmps22, reduceIte, reduceCtorEq, Nat.reduceAdd, Nat.reduceEqDiff, Nat.reduceLT, Nat.reduceLeDiff, Nat.reduceSub, Nat.reduceMul, Nat.reduceBEq, Int.reduceToNat, Int.reduceLE, Int.reduceLT, Int.reducePow]; done) | (simp only [go_sem, Try.ntmps22, reduceIte, reduceCtorEq, Nat.reduceAdd, Nat.reduceEqDiff, Nat.reduceLT, Nat.reduceLeDiff, Nat.reduceSub, Nat.reduceMul, Nat.reduceBEq, Int.reduceToNat, Int.reduceLE, Int.reduceLT, Int.reducePow]; omega)
    case k1 => simp only [go_sem, Try.ntmps22, reduceIte, reduceCtorEq, Nat.reduceAdd, Nat.reduceEqDiff, Nat.reduceLT, Nat.reduceLeDiff, Nat.reduceSub, Nat.reduceMul, Nat.reduceBEq, Int.reduceToNat, Int.reduceLE, Int.reduceLT, Int.reducePow]; rfl
    refine AWp.seq ?_
    refine AWp.seq ?_
    refine AWp.reg (S1 := ?S2) (ob := ?o2) (S' := ?K2) tab_ok (noKnow _) mixed [2, 3, 6] ?r2 ?h2 ?k2 ?w2
    case r2 => simp only [go_sem, Try.ntmps22, reduceIte, reduceCtorEq, Nat.reduceAdd, Nat.reduceEqDiff, Nat.reduceLT, Nat.reduceLeDiff, Nat.reduceSub, Nat.reduceMul, Nat.reduceBEq, Int.reduceToNat, Int.reduceLE, Int.reduceLT, Int.reducePow]; rfl
    case h2 => first | exact True.intro | omega | (simp only [go_sem, Try.ntmps22, reduceIte, reduceCtorEq, Nat.reduceAdd, Nat.reduceEqDiff, Nat.reduceLT, Nat.reduceLeDiff, Nat.reduceSub, Nat.reduceMul, Nat.reduceBEq, Int.reduceToNat, Int.reduceLE, Int.reduceLT, Int.reducePow]; done) | (simp only [go_sem, Try.ntmps22, reduceIte, reduceCtorEq, Nat.reduceAdd, Nat.reduceEqDiff, Nat.reduceLT, Nat.reduceLeDiff, Nat.reduceSub, Nat.reduceMul, Nat.reduceBEq, Int.reduceToNat, Int.reduceLE, Int.reduceLT, Int.reducePow]; omega)
    case k2 => simp only [go_sem, Try.ntmps22, reduceIte, reduceCtorEq, Nat.reduceAdd, Nat.reduceEqDiff, Nat.reduceLT, Nat.reduceLeDiff, Nat.reduceSub, Nat.reduceMul, Nat.reduceBEq, Int.reduceToNat, Int.reduceLE, Int.reduceLT, Int.reducePow]; rfl
    refine AWp.cond (b := ?b3) ?c3 ?t3 ?f3
    case c3 => simp only [go_sem, Try.ntmps22, reduceIte, reduceCtorEq, Nat.reduceAdd, Nat.reduceEqDiff, Nat.reduceLT, Nat.reduceLeDiff, Nat.reduceSub, Nat.reduceMul, Nat.reduceBEq, Int.reduceToNat, Int.reduceLE, Int.reduceLT, Int.reducePow]; rfl
    case t3 =>
      intro hb1
      exfalso; simp at hb1; omega
    case f3 =>
      intro hb1
      refine AWp.skip ?_
      refine AWp.seq ?_
      refine AWp.reg (S1 := ?S4) (ob := ?o4) (S' := ?K4) tab_ok (noKnow _) mixed [4] ?r4 ?h4 ?k4 ?w4
      case r4 => simp only [go_sem, Try.ntmps22, reduceIte, reduceCtorEq, Nat.reduceAdd, Nat.reduceEqDiff, Nat.reduceLT, Nat.reduceLeDiff, Nat.reduceSub, Nat.reduceMul, Nat.reduceBEq, Int.reduceToNat, Int.reduceLE, Int.reduceLT, Int.reducePow]; rfl
      case h4 => first | exact True.intro | omega | (simp only [go_sem, Try.ntmps22, reduceIte, reduceCtorEq, Nat.reduceAdd, Nat.reduceEqDiff, Nat.reduceLT, Nat.reduceLeDiff, Nat.reduceSub, Nat.reduceMul, Nat.reduceBEq, Int.reduceToNat, Int.reduceLE, Int.reduceLT, Int.reducePow]; done) | (simp only [go_sem, Try.ntmps22, reduceIte, reduceCtorEq, Nat.reduceAdd, Nat.reduceEqDiff, Nat.reduceLT, Nat.reduceLeDiff, Nat.reduceSub, Nat.reduceMul, Nat.reduceBEq, Int.reduceToNat, Int.reduceLE, Int.reduceLT, Int.reducePow]; omega)
      case k4 => simp only [go_sem, Try.ntmps22, reduceIte, reduceCtorEq, Nat.reduceAdd, Nat.reduceEqDiff, Nat.reduceLT, Nat.reduceLeDiff, Nat.reduceSub, Nat.reduceMul, Nat.reduceBEq, Int.reduceToNat, Int.reduceLE, Int.reduceLT, Int.reducePow]; rfl
      refine AWp.conv (Conv.funcAt 4 rfl rfl (by simp) (by simp)) ?_
      refine AWp.ret ?_
      refine ends_p (vs := ?vs1) (ob := ?ro1) (vs' := ?ws1) (ks := ?ks1) (ob2 := ?rp1) tab_ok (by simp) ?er1 ?eo1 ?ef1 ?eg1 ?en1 ?ek1 ?ev1
      case er1 => simp only [go_sem, Try.ntmps22, reduceIte, reduceCtorEq, Nat.reduceAdd, Nat.reduceEqDiff, Nat.reduceLT, Nat.reduceLeDiff, Nat.reduceSub, Nat.reduceMul, Nat.reduceBEq, Int.reduceToNat, Int.reduceLE, Int.reduceLT, Int.reducePow, Try.results22]; rfl
      case eo1 => first | exact True.intro | simp only [go_sem, Try.ntmps22, reduceIte, reduceCtorEq, Nat.reduceAdd, Nat.reduceEqDiff, Nat.reduceLT, Nat.reduceLeDiff, Nat.reduceSub, Nat.reduceMul, Nat.reduceBEq, Int.reduceToNat, Int.reduceLE, Int.reduceLT, Int.reducePow]
      case ef1 => simp only [go_sem, Try.ntmps22, reduceIte, reduceCtorEq, Nat.reduceAdd, Nat.reduceEqDiff, Nat.reduceLT, Nat.reduceLeDiff, Nat.reduceSub, Nat.reduceMul, Nat.reduceBEq, Int.reduceToNat, Int.reduceLE, Int.reduceLT, Int.reducePow]; rfl
      case eg1 => first | exact True.intro | simp only [go_sem, Try.ntmps22, reduceIte, reduceCtorEq, Nat.reduceAdd, Nat.reduceEqDiff, Nat.reduceLT, Nat.reduceLeDiff, Nat.reduceSub, Nat.reduceMul, Nat.reduceBEq, Int.reduceToNat, Int.reduceLE, Int.reduceLT, Int.reducePow]
      case en1 => simp only [go_sem, Try.ntmps22, reduceIte, reduceCtorEq, Nat.reduceAdd, Nat.reduceEqDiff, Nat.reduceLT, Nat.reduceLeDiff, Nat.reduceSub, Nat.reduceMul, Nat.reduceBEq, Int.reduceToNat, Int.reduceLE, Int.reduceLT, Int.reducePow]
      case ek1 => simp only [go_sem, Try.ntmps22, reduceIte, reduceCtorEq, Nat.reduceAdd, Nat.reduceEqDiff, Nat.reduceLT, Nat.reduceLeDiff, Nat.reduceSub, Nat.reduceMul, Nat.reduceBEq, Int.reduceToNat, Int.reduceLE, Int.reduceLT, Int.reducePow]
      case ev1 =>
        first | rfl | simp only [go_sem, Try.ntmps22, reduceIte, reduceCtorEq, Nat.reduceAdd, Nat.reduceEqDiff, Nat.reduceLT, Nat.reduceLeDiff, Nat.reduceSub, Nat.reduceMul, Nat.reduceBEq, Int.reduceToNat, Int.reduceLE, Int.reduceLT, Int.reducePow]
  · cases hq

def crow (z : Option Bool) (k : Nat) (s : List UInt8) (n : Nat) : List (List D) := (List.range n).map fun j => [.slice z 1 (brow (chunkAt k s j))]
theorem crow_len (z : Option Bool) (k : Nat) (s : List UInt8) (n : Nat) : (crow z k s n).length = n := by simp [crow]
theorem crow_succ (z : Option Bool) (k : Nat) (s : List UInt8) (n : Nat) : crow z k s (n + 1) = crow z k s n ++ [[.slice z 1 (brow (chunkAt k s n))]] := by simp [crow, List.range_succ]
def pieceD (z : Option Bool) (k : Int) (es : List (List D)) : D := .slice none 1 (crow z k.toNat (unb es) (nChunks k.toNat es.length))
def appF : List AV → Option (AVal × Prop)
  | [.s (.d (.slice (some true) e0 [])), .s (.d (.func 36 [.ptr [.slice z e es], .ptr [.int .i64 k]]))] => some (.one (dv (pieceD z k es)), e = 1 ∧ es = brow (unb es) ∧ es.length ≤ 1000000000 ∧ 1 ≤ k ∧ k ≤ 1000000000)
  | _ => none
theorem appF_ok : ContOk Try.prog 35 (pureK appF) := by
  refine pure_okM (nargs := 2) Try.func35 rfl (by kernel_rfl) (Nat.le_of_ble_eq_true (by kernel_rfl)) ?_
  intro args q hq hob
  unfold appF at hq
  split at hq
  · rename_i e0 z e es k
    injection hq with hq
    subst hq
    obtain ⟨h1, h2, h3, h4, h5⟩ : e = 1 ∧ es = brow (unb es) ∧ es.length ≤ 1000000000 ∧ 1 ≤ k ∧ k ≤ 1000000000 := hob
    subst h1
    have hbl : es.length = (unb es).length := by simp [unb]
    have hkk : (k.toNat : Int) = k := by omega
    have hnc : nChunks k.toNat (unb es).length ≤ 1000000000 := by
      unfold nChunks
      refine Nat.div_le_of_le_mul ?_
      have : 1 * 1000000000 ≤ k.toNat * 1000000000 := Nat.mul_le_mul_right _ (by omega)
      have : k.toNat * 1000000000 = k.toNat * 999999999 + k.toNat := by omega
      omega
    refine ⟨rfl, by simp [AV.ids, Sc.ids], by simp [AVal.ids, AV.ids, Sc.ids], by simp, ?_⟩
    refine AWpM.seq ?_
    refine AWpM.of ?_
    refine AWp.reg (S1 := ?S1) (ob := ?o1) (S' := ?K1) tab_ok (noKnow _) mixed [1, 2] ?r1 ?h1 ?k1 ?w1
    case r1 => simp only [go_sem, Try.ntmps35, reduceIte, reduceCtorEq, Nat.reduceAdd, Nat.reduceEqDiff, Nat.reduceLT, Nat.reduceLeDiff, Nat.reduceSub, Nat.reduceMul, Nat.reduceBEq, Int.reduceToNat, Int.reduceLE, Int.reduceLT, Int.reducePow]; rfl
    case h1 => first | exact True.intro | omega | (simp only [go_sem, Try.ntmps35, reduceIte, reduceCtorEq, Nat.reduceAdd, Nat.reduceEqDiff, Nat.reduceLT, Nat.reduceLeDiff, Nat.reduceSub, Nat.reduceMul, Nat.reduceBEq, Int.reduceToNat, Int.reduceLE, Int.reduceLT, Int.reducePow]; done) | (simp only [go_sem, Try.ntmps35, reduceIte, reduceCtorEq, Nat.reduceAdd, Nat.reduceEqDiff, Nat.reduceLT, Nat.reduceLeDiff, Nat.reduceSub, Nat.reduceMul, Nat.reduceBEq, Int.reduceToNat, Int.reduceLE, Int.reduceLT, Int.reducePow]; omega)
    case k1 => simp only [go_sem, Try.ntmps35, reduceIte, reduceCtorEq, Nat.reduceAdd, Nat.reduceEqDiff, Nat.reduceLT, Nat.reduceLeDiff, Nat.reduceSub, Nat.reduceMul, Nat.reduceBEq, Int.reduceToNat, Int.reduceLE, Int.reduceLT, Int.reducePow]; rfl
    refine AWpM.seq ?_
    refine AWpM.seq ?_
    refine AWpM.of ?_
    refine AWp.reg (S1 := ?S2) (ob := ?o2) (S' := ?K2) tab_ok (noKnow _) mixed [2, 6] ?r2 ?h2 ?k2 ?w2
    case r2 => simp only [go_sem, Try.ntmps35, reduceIte, reduceCtorEq, Nat.reduceAdd, Nat.reduceEqDiff, Nat.reduceLT, Nat.reduceLeDiff, Nat.reduceSub, Nat.reduceMul, Nat.reduceBEq, Int.reduceToNat, Int.reduceLE, Int.reduceLT, Int.reducePow]; rfl
    case h2 => first | exact True.intro | omega | (simp only [go_sem, Try.ntmps35, reduceIte, reduceCtorEq, Nat.reduceAdd, Nat.reduceEqDiff, Nat.reduceLT, Nat.reduceLeDiff, Nat.reduceSub, Nat.reduceMul, Nat.reduceBEq, Int.reduceToNat, Int.reduceLE, Int.reduceLT, Int.reducePow]; done) | (simp only [go_sem, Try.ntmps35, reduceIte, reduceCtorEq, Nat.reduceAdd, Nat.reduceEqDiff, Nat.reduceLT, Nat.reduceLeDiff, Nat.reduceSub, Nat.reduceMul, Nat.reduceBEq, Int.reduceToNat, Int.reduceLE, Int.reduceLT, Int.reducePow]; omega)
    case k2 => simp only [go_sem, Try.ntmps35, reduceIte, reduceCtorEq, Nat.reduceAdd, Nat.reduceEqDiff, Nat.reduceLT, Nat.reduceLeDiff, Nat.reduceSub, Nat.reduceMul, Nat.reduceBEq, Int.reduceToNat, Int.reduceLE, Int.reduceLT, Int.reducePow]; rfl
    refine AWpM.block ?_
    refine AWpM.conv (Conv.nilCell 0 0 (e := 1) (ety := 38) rfl (by simp) rfl rfl) ?_
    refine AWpM.range (gf := 36) (caps := [.ptr [.slice z 1 es], .ptr [.int .i64 k]]) (xs := chunkDs z k.toNat (unb es)) 1 [(2, .one (.s (.ptr 0 0)))] (fun i => ([(1, .row (crow z k.toNat (unb es) i) 38), (0, .cells [.row 1 1 0 i none] 27)], 2)) (by decide) (by omega) ?g ?it ?h0 ?hE ?rd ?q
    case g => simp only [go_sem, Try.ntmps35, reduceIte, reduceCtorEq, Nat.reduceAdd, Nat.reduceEqDiff, Nat.reduceLT, Nat.reduceLeDiff, Nat.reduceSub, Nat.reduceMul, Nat.reduceBEq, Int.reduceToNat, Int.reduceLE, Int.reduceLT, Int.reducePow] <;> rfl
    case it => have := iter36 z (unb es) k.toNat (by omega) (by omega); rw [← h2, hkk] at this; exact this
    case h0 =>
      exact (Conv.keepT [2] rfl).trans (Conv.eq rfl)
    case hE => simp [AVal.ids, AV.ids, Sc.ids]
    case rd =>
      intro i x hx
      have hi : i < nChunks k.toNat (unb es).length := by have := (List.getElem?_eq_some_iff.1 hx).1; rwa [chunkDs_len] at this
      rw [chunkDs_get hi] at hx
      injection hx with hx
      subst hx
      refine AWp.reg (S1 := ?S3) (ob := ?o3) (S' := ?K3) tab_ok (noKnow _) mixed [2, 5] ?r3 ?h3 ?k3 ?w3
      case r3 => simp only [go_sem, Try.ntmps35, reduceIte, reduceCtorEq, Nat.reduceAdd, Nat.reduceEqDiff, Nat.reduceLT, Nat.reduceLeDiff, Nat.reduceSub, Nat.reduceMul, Nat.reduceBEq, Int.reduceToNat, Int.reduceLE, Int.reduceLT, Int.reducePow]; rfl
      case h3 => first | exact True.intro | omega | (simp only [go_sem, Try.ntmps35, reduceIte, reduceCtorEq, Nat.reduceAdd, Nat.reduceEqDiff, Nat.reduceLT, Nat.reduceLeDiff, Nat.reduceSub, Nat.reduceMul, Nat.reduceBEq, Int.reduceToNat, Int.reduceLE, Int.reduceLT, Int.reducePow]; done) | (simp only [go_sem, Try.ntmps35, reduceIte, reduceCtorEq, Nat.reduceAdd, Nat.reduceEqDiff, Nat.reduceLT, Nat.reduceLeDiff, Nat.reduceSub, Nat.reduceMul, Nat.reduceBEq, Int.reduceToNat, Int.reduceLE, Int.reduceLT, Int.reducePow]; omega)
      case k3 => simp only [go_sem, Try.ntmps35, reduceIte, reduceCtorEq, Nat.reduceAdd, Nat.reduceEqDiff, Nat.reduceLT, Nat.reduceLeDiff, Nat.reduceSub, Nat.reduceMul, Nat.reduceBEq, Int.reduceToNat, Int.reduceLE, Int.reduceLT, Int.reducePow]; rfl
      refine ⟨rfl, ?_⟩
      refine AWp.block ?_
      refine AWp.reg (S1 := ?S4) (ob := ?o4) (S' := ?K4) tab_ok (noKnow _) mixed [] ?r4 ?h4 ?k4 ?w4
      case r4 => simp only [go_sem, Try.ntmps35, reduceIte, reduceCtorEq, Nat.reduceAdd, Nat.reduceEqDiff, Nat.reduceLT, Nat.reduceLeDiff, Nat.reduceSub, Nat.reduceMul, Nat.reduceBEq, Int.reduceToNat, Int.reduceLE, Int.reduceLT, Int.reducePow]; rfl
      case h4 =>
        rw [crow_len]
        exact ⟨rfl, by omega, by omega⟩
      case k4 => simp only [go_sem, Try.ntmps35, reduceIte, reduceCtorEq, Nat.reduceAdd, Nat.reduceEqDiff, Nat.reduceLT, Nat.reduceLeDiff, Nat.reduceSub, Nat.reduceMul, Nat.reduceBEq, Int.reduceToNat, Int.reduceLE, Int.reduceLT, Int.reducePow]; rfl
      refine ⟨rfl, ⟨[], ((fun i => ([(1, .row (crow z k.toNat (unb es) i) 38), (0, .cells [.row 1 1 0 i none] 27)], 2)) (i + 1)).1, 2⟩, Conv.rename (fun j => if j = 1 then 3 else j) (by first | (simp; done) | (simp; omega)) (by simp) (by simp) ?_ ?_, rfl, rfl⟩
      · simp [lookN, AObj.ren, AObj.ids, Sc.ids, Sc.ren, crow_succ, crow_len]
      · simp
    case q =>
      refine AWpM.of ?_
      refine AWp.seq ?_
      refine AWp.reg (S1 := ?S5) (ob := ?o5) (S' := ?K5) tab_ok (noKnow _) mixed [4] ?r5 ?h5 ?k5 ?w5
      case r5 => simp only [go_sem, Try.ntmps35, reduceIte, reduceCtorEq, Nat.reduceAdd, Nat.reduceEqDiff, Nat.reduceLT, Nat.reduceLeDiff, Nat.reduceSub, Nat.reduceMul, Nat.reduceBEq, Int.reduceToNat, Int.reduceLE, Int.reduceLT, Int.reducePow]; rfl
      case h5 => first | exact True.intro | omega | (simp only [go_sem, Try.ntmps35, reduceIte, reduceCtorEq, Nat.reduceAdd, Nat.reduceEqDiff, Nat.reduceLT, Nat.reduceLeDiff, Nat.reduceSub, Nat.reduceMul, Nat.reduceBEq, Int.reduceToNat, Int.reduceLE, Int.reduceLT, Int.reducePow]; done) | (simp only [go_sem, Try.ntmps35, reduceIte, reduceCtorEq, Nat.reduceAdd, Nat.reduceEqDiff, Nat.reduceLT, Nat.reduceLeDiff, Nat.reduceSub, Nat.reduceMul, Nat.reduceBEq, Int.reduceToNat, Int.reduceLE, Int.reduceLT, Int.reducePow]; omega)
      case k5 => simp only [go_sem, Try.ntmps35, reduceIte, reduceCtorEq, Nat.reduceAdd, Nat.reduceEqDiff, Nat.reduceLT, Nat.reduceLeDiff, Nat.reduceSub, Nat.reduceMul, Nat.reduceBEq, Int.reduceToNat, Int.reduceLE, Int.reduceLT, Int.reducePow]; rfl
      refine AWp.ret ?_
      refine ends_p (vs := ?vs1) (ob := ?ro1) (vs' := ?ws1) (ks := ?ks1) (ob2 := ?rp1) tab_ok (by simp) ?er1 ?eo1 ?ef1 ?eg1 ?en1 ?ek1 ?ev1
      case er1 => simp only [go_sem, Try.ntmps35, reduceIte, reduceCtorEq, Nat.reduceAdd, Nat.reduceEqDiff, Nat.reduceLT, Nat.reduceLeDiff, Nat.reduceSub, Nat.reduceMul, Nat.reduceBEq, Int.reduceToNat, Int.reduceLE, Int.reduceLT, Int.reducePow, Try.results35]; rfl
      case eo1 => first | exact True.intro | simp only [go_sem, Try.ntmps35, reduceIte, reduceCtorEq, Nat.reduceAdd, Nat.reduceEqDiff, Nat.reduceLT, Nat.reduceLeDiff, Nat.reduceSub, Nat.reduceMul, Nat.reduceBEq, Int.reduceToNat, Int.reduceLE, Int.reduceLT, Int.reducePow]
      case ef1 => simp only [go_sem, Try.ntmps35, reduceIte, reduceCtorEq, Nat.reduceAdd, Nat.reduceEqDiff, Nat.reduceLT, Nat.reduceLeDiff, Nat.reduceSub, Nat.reduceMul, Nat.reduceBEq, Int.reduceToNat, Int.reduceLE, Int.reduceLT, Int.reducePow]; rfl
      case eg1 => simp [crow_len, chunkDs_len]
      case en1 => simp only [go_sem, Try.ntmps35, reduceIte, reduceCtorEq, Nat.reduceAdd, Nat.reduceEqDiff, Nat.reduceLT, Nat.reduceLeDiff, Nat.reduceSub, Nat.reduceMul, Nat.reduceBEq, Int.reduceToNat, Int.reduceLE, Int.reduceLT, Int.reducePow]
      case ek1 => simp only [go_sem, Try.ntmps35, reduceIte, reduceCtorEq, Nat.reduceAdd, Nat.reduceEqDiff, Nat.reduceLT, Nat.reduceLeDiff, Nat.reduceSub, Nat.reduceMul, Nat.reduceBEq, Int.reduceToNat, Int.reduceLE, Int.reduceLT, Int.reducePow]
      case ev1 =>
        rw [chunkDs_len, ← hbl]; rfl
  · cases hq

def collF : List AV → Option (AVal × Prop)
  | [.s (.d (.func 36 [.ptr [.slice z e es], .ptr [.int .i64 k]]))] => some (.one (dv (pieceD z k es)), e = 1 ∧ es = brow (unb es) ∧ es.length ≤ 1000000000 ∧ 1 ≤ k ∧ k ≤ 1000000000)
  | _ => none
def kn21 : List (Nat × Cont) := [(35, pureK appF)]
theorem kn21_ok : ∀ p ∈ kn21, ContOk Try.prog p.1 p.2 := by
  intro p hp
  simp only [kn21, List.mem_cons, List.not_mem_nil, or_false] at hp
  rcases hp with rfl
  · exact appF_ok
theorem collF_ok : ContOk Try.prog 21 (pureK collF) := by
  refine pure_ok (nargs := 1) Try.func21 rfl (by kernel_rfl) (Nat.le_of_ble_eq_true (by kernel_rfl)) ?_
  intro args q hq hob
  unfold collF at hq
  split at hq
  · rename_i z e es k
    injection hq with hq
    subst hq
    refine ⟨rfl, by simp [AV.ids, Sc.ids], by simp [AVal.ids, AV.ids, Sc.ids], by simp, ?_⟩
    refine AWp.seq ?_
    refine AWp.reg (S1 := ?S1) (ob := ?o1) (S' := ?K1) tab_ok (knowL_ok kn21_ok) mixed [0] ?r1 ?h1 ?k1 ?w1
    case r1 => simp only [go_sem, kn21, appF, Try.ntmps21, reduceIte, reduceCtorEq, Nat.reduceAdd, Nat.reduceEqDiff, Nat.reduceLT, Nat.reduceLeDiff, Nat.reduceSub, Nat.reduceMul, Nat.reduceBEq, Int.reduceToNat, Int.reduceLE, Int.reduceLT, Int.reducePow]; rfl
    case h1 => first | exact True.intro | omega | (simp only [go_sem, kn21, appF, Try.ntmps21, reduceIte, reduceCtorEq, Nat.reduceAdd, Nat.reduceEqDiff, Nat.reduceLT, Nat.reduceLeDiff, Nat.reduceSub, Nat.reduceMul, Nat.reduceBEq, Int.reduceToNat, Int.reduceLE, Int.reduceLT, Int.reducePow]; done) | (simp only [go_sem, kn21, appF, Try.ntmps21, reduceIte, reduceCtorEq, Nat.reduceAdd, Nat.reduceEqDiff, Nat.reduceLT, Nat.reduceLeDiff, Nat.reduceSub, Nat.reduceMul, Nat.reduceBEq, Int.reduceToNat, Int.reduceLE, Int.reduceLT, Int.reducePow]; omega)
    case k1 => simp only [go_sem, kn21, appF, Try.ntmps21, reduceIte, reduceCtorEq, Nat.reduceAdd, Nat.reduceEqDiff, Nat.reduceLT, Nat.reduceLeDiff, Nat.reduceSub, Nat.reduceMul, Nat.reduceBEq, Int.reduceToNat, Int.reduceLE, Int.reduceLT, Int.reducePow]; rfl
    refine AWp.seq ?_
    refine AWp.reg (S1 := ?S2) (ob := ?o2) (S' := ?K2) tab_ok (knowL_ok kn21_ok) mixed [2] ?r2 ?h2 ?k2 ?w2
    case r2 => simp only [go_sem, kn21, appF, Try.ntmps21, reduceIte, reduceCtorEq, Nat.reduceAdd, Nat.reduceEqDiff, Nat.reduceLT, Nat.reduceLeDiff, Nat.reduceSub, Nat.reduceMul, Nat.reduceBEq, Int.reduceToNat, Int.reduceLE, Int.reduceLT, Int.reducePow]; rfl
    case h2 => first | exact True.intro | omega | (simp only [go_sem, kn21, appF, Try.ntmps21, reduceIte, reduceCtorEq, Nat.reduceAdd, Nat.reduceEqDiff, Nat.reduceLT, Nat.reduceLeDiff, Nat.reduceSub, Nat.reduceMul, Nat.reduceBEq, Int.reduceToNat, Int.reduceLE, Int.reduceLT, Int.reducePow]; done) | (simp only [go_sem, kn21, appF, Try.ntmps21, reduceIte, reduceCtorEq, Nat.reduceAdd, Nat.reduceEqDiff, Nat.reduceLT, Nat.reduceLeDiff, Nat.reduceSub, Nat.reduceMul, Nat.reduceBEq, Int.reduceToNat, Int.reduceLE, Int.reduceLT, Int.reducePow]; omega)
    case k2 => simp only [go_sem, kn21, appF, Try.ntmps21, reduceIte, reduceCtorEq, Nat.reduceAdd, Nat.reduceEqDiff, Nat.reduceLT, Nat.reduceLeDiff, Nat.reduceSub, Nat.reduceMul, Nat.reduceBEq, Int.reduceToNat, Int.reduceLE, Int.reduceLT, Int.reducePow]; rfl
    refine AWp.ret ?_
    refine ends_p (vs := ?vs1) (ob := ?ro1) (vs' := ?ws1) (ks := ?ks1) (ob2 := ?rp1) tab_ok (by simp) ?er1 ?eo1 ?ef1 ?eg1 ?en1 ?ek1 ?ev1
    case er1 => simp only [go_sem, kn21, appF, Try.ntmps21, reduceIte, reduceCtorEq, Nat.reduceAdd, Nat.reduceEqDiff, Nat.reduceLT, Nat.reduceLeDiff, Nat.reduceSub, Nat.reduceMul, Nat.reduceBEq, Int.reduceToNat, Int.reduceLE, Int.reduceLT, Int.reducePow, Try.results21]; rfl
    case eo1 => first | exact True.intro | simp only [go_sem, kn21, appF, Try.ntmps21, reduceIte, reduceCtorEq, Nat.reduceAdd, Nat.reduceEqDiff, Nat.reduceLT, Nat.reduceLeDiff, Nat.reduceSub, Nat.reduceMul, Nat.reduceBEq, Int.reduceToNat, Int.reduceLE, Int.reduceLT, Int.reducePow]
    case ef1 => simp only [go_sem, kn21, appF, Try.ntmps21, reduceIte, reduceCtorEq, Nat.reduceAdd, Nat.reduceEqDiff, Nat.reduceLT, Nat.reduceLeDiff, Nat.reduceSub, Nat.reduceMul, Nat.reduceBEq, Int.reduceToNat, Int.reduceLE, Int.reduceLT, Int.reducePow]; rfl
    case eg1 => first | exact True.intro | simp only [go_sem, kn21, appF, Try.ntmps21, reduceIte, reduceCtorEq, Nat.reduceAdd, Nat.reduceEqDiff, Nat.reduceLT, Nat.reduceLeDiff, Nat.reduceSub, Nat.reduceMul, Nat.reduceBEq, Int.reduceToNat, Int.reduceLE, Int.reduceLT, Int.reducePow]
    case en1 => simp only [go_sem, kn21, appF, Try.ntmps21, reduceIte, reduceCtorEq, Nat.reduceAdd, Nat.reduceEqDiff, Nat.reduceLT, Nat.reduceLeDiff, Nat.reduceSub, Nat.reduceMul, Nat.reduceBEq, Int.reduceToNat, Int.reduceLE, Int.reduceLT, Int.reducePow]
    case ek1 => simp only [go_sem, kn21, appF, Try.ntmps21, reduceIte, reduceCtorEq, Nat.reduceAdd, Nat.reduceEqDiff, Nat.reduceLT, Nat.reduceLeDiff, Nat.reduceSub, Nat.reduceMul, Nat.reduceBEq, Int.reduceToNat, Int.reduceLE, Int.reduceLT, Int.reducePow]
    case ev1 =>
      first | rfl | simp only [go_sem, kn21, appF, Try.ntmps21, reduceIte, reduceCtorEq, Nat.reduceAdd, Nat.reduceEqDiff, Nat.reduceLT, Nat.reduceLeDiff, Nat.reduceSub, Nat.reduceMul, Nat.reduceBEq, Int.reduceToNat, Int.reduceLE, Int.reduceLT, Int.reducePow]
  · cases hq

end Go.Proofs.Hg

set_option linter.unusedSimpArgs false
set_option linter.unusedVariables false
set_option maxHeartbeats 4000000
namespace Go.Proofs.Hg
open Go.RowKit
set_option maxRecDepth 100000
def nP (B : List UInt8) : Nat := if nChunks 4000 B.length = 0 then 1 else nChunks 4000 B.length
def recB (n : Int) (N : Nat) (B : List UInt8) (j : Nat) : List UInt8 := lowB n 8 ++ (lowB (j : Int) 2 ++ (lowB (N : Int) 2 ++ chunkAt 4000 B j))
def recR (n : Int) (N : Nat) (B : List UInt8) (i : Nat) : List (List D) := (List.range i).map fun j => [.slice none 1 (brow (recB n N B j))]
theorem recR_len (n : Int) (N : Nat) (B : List UInt8) (i : Nat) : (recR n N B i).length = i := by simp [recR]
theorem recR_succ (n : Int) (N : Nat) (B : List UInt8) (i : Nat) : recR n N B (i + 1) = recR n N B i ++ [[.slice none 1 (brow (recB n N B i))]] := by simp [recR, List.range_succ]
theorem crow_get {z : Option Bool} {k : Nat} {s : List UInt8} {n i : Nat} (h : i < n) (d : List D) : (crow z k s n).getD i d = [.slice z 1 (brow (chunkAt k s i))] := by
  simp [crow, List.getD_eq_getElem?_getD, List.getElem?_map, List.getElem?_range h]
theorem chunk_len (B : List UInt8) (j : Nat) : (chunkAt 4000 B j).length ≤ 4000 := by simp [chunkAt]; omega
theorem nChunks_le {B : List UInt8} (h : B.length ≤ 67154944) : nChunks 4000 B.length ≤ 16789 := by unfold nChunks; omega
theorem bytesL_len {l : List FileL} (h : FilesIn l) : (bytesL l).length ≤ 67154944 := by
  have := bytes_take h l.length
  rw [List.take_length] at this
  have h1 := h.1
  unfold bytesL
  omega
def encV (n : Int) (l : List FileL) : AVal :=
  if rightL n l then .tup [dv (.slice none 1 (recR n (nP (bytesL l)) (bytesL l) (nP (bytesL l)))), dv (.int .i64 0)] else .tup [dv (.slice (some true) 0 []), dv (.int .i64 201)]
theorem encV_ids (n : Int) (l : List FileL) : (encV n l).ids = [] ∧ ∀ b x, encV n l ≠ .opt b x := by
  unfold encV
  split <;> simp [AVal.ids, AV.ids, Sc.ids]
theorem wrapN {v : Nat} (h1 : v ≤ 16789) : IntKind.u64.wrap (v : Int) = (v : Int) := by rw [IntKind.wrap_u64]; omega
def encF : List AV → Option (AVal × Prop)
  | [.agg [.d (.int .i64 n), .d (.slice z e fs)]] => some (encV n (unf fs), e = 3 ∧ fs = fdrow (unf fs) ∧ FilesOk (unf fs))
  | _ => none
def kn10 : List (Nat × Cont) := [(20, pureK rightF), (23, pureK bytesF), (22, viewK chunkF), (21, pureK collF), (24, lowK)]
theorem kn10_ok : ∀ p ∈ kn10, ContOk Try.prog p.1 p.2 := by
  intro p hp
  simp only [kn10, List.mem_cons, List.not_mem_nil, or_false] at hp
  rcases hp with rfl | rfl | rfl | rfl | rfl
  · exact rightF_ok
  · exact bytesF_ok
  · exact viewK_ok chunkF_ok
  · exact collF_ok
  · exact lowK_ok
theorem encF_ok : ContOk Try.prog 10 (pureK encF) := by
  refine pure_ok (nargs := 1) Try.func10 rfl (by kernel_rfl) (Nat.le_of_ble_eq_true (by kernel_rfl)) ?_
  intro args q hq hob
  unfold encF at hq
  split at hq
  · rename_i n z e fs
    injection hq with hq
    subst hq
    obtain ⟨h1, h2, h3⟩ : e = 3 ∧ fs = fdrow (unf fs) ∧ FilesOk (unf fs) := hob
    generalize unf fs = fl at *
    subst h1 h2
    refine ⟨rfl, by simp [AV.ids, Sc.ids], (encV_ids _ _).1, (encV_ids _ _).2, ?_⟩
    refine AWp.seq ?_
    refine AWp.reg (S1 := ?S1) (ob := ?o1) (S' := ?K1) tab_ok (knowL_ok kn10_ok) mixed [1] ?r1 ?h1 ?k1 ?w1
    case r1 => simp only [go_sem, kn10, rightF, bytesF, chunkF, collF, lowK, pieceD, crow_len, unf_fdrow, Try.ntmps10, reduceIte, reduceCtorEq, Nat.reduceAdd, Nat.reduceEqDiff, Nat.reduceLT, Nat.reduceLeDiff, Nat.reduceSub, Nat.reduceMul, Nat.reduceBEq, Int.reduceToNat, Int.reduceLE, Int.reduceLT, Int.reducePow]; rfl
    case h1 => first | exact True.intro | omega | (simp only [go_sem, kn10, rightF, bytesF, chunkF, collF, lowK, pieceD, crow_len, unf_fdrow, Try.ntmps10, reduceIte, reduceCtorEq, Nat.reduceAdd, Nat.reduceEqDiff, Nat.reduceLT, Nat.reduceLeDiff, Nat.reduceSub, Nat.reduceMul, Nat.reduceBEq, Int.reduceToNat, Int.reduceLE, Int.reduceLT, Int.reducePow]; done) | (simp only [go_sem, kn10, rightF, bytesF, chunkF, collF, lowK, pieceD, crow_len, unf_fdrow, Try.ntmps10, reduceIte, reduceCtorEq, Nat.reduceAdd, Nat.reduceEqDiff, Nat.reduceLT, Nat.reduceLeDiff, Nat.reduceSub, Nat.reduceMul, Nat.reduceBEq, Int.reduceToNat, Int.reduceLE, Int.reduceLT, Int.reducePow]; omega)
    case k1 => simp only [go_sem, kn10, rightF, bytesF, chunkF, collF, lowK, pieceD, crow_len, unf_fdrow, Try.ntmps10, reduceIte, reduceCtorEq, Nat.reduceAdd, Nat.reduceEqDiff, Nat.reduceLT, Nat.reduceLeDiff, Nat.reduceSub, Nat.reduceMul, Nat.reduceBEq, Int.reduceToNat, Int.reduceLE, Int.reduceLT, Int.reducePow]; rfl
    refine AWp.seq ?_
    refine AWp.seq ?_
    refine AWp.reg (S1 := ?S2) (ob := ?o2) (S' := ?K2) tab_ok (knowL_ok kn10_ok) mixed [1, 11] ?r2 ?h2 ?k2 ?w2
    case r2 => simp only [go_sem, kn10, rightF, bytesF, chunkF, collF, lowK, pieceD, crow_len, unf_fdrow, Try.ntmps10, reduceIte, reduceCtorEq, Nat.reduceAdd, Nat.reduceEqDiff, Nat.reduceLT, Nat.reduceLeDiff, Nat.reduceSub, Nat.reduceMul, Nat.reduceBEq, Int.reduceToNat, Int.reduceLE, Int.reduceLT, Int.reducePow]; rfl
    case h2 => first | exact True.intro | omega | (simp only [go_sem, kn10, rightF, bytesF, chunkF, collF, lowK, pieceD, crow_len, unf_fdrow, Try.ntmps10, reduceIte, reduceCtorEq, Nat.reduceAdd, Nat.reduceEqDiff, Nat.reduceLT, Nat.reduceLeDiff, Nat.reduceSub, Nat.reduceMul, Nat.reduceBEq, Int.reduceToNat, Int.reduceLE, Int.reduceLT, Int.reducePow]; done) | (simp only [go_sem, kn10, rightF, bytesF, chunkF, collF, lowK, pieceD, crow_len, unf_fdrow, Try.ntmps10, reduceIte, reduceCtorEq, Nat.reduceAdd, Nat.reduceEqDiff, Nat.reduceLT, Nat.reduceLeDiff, Nat.reduceSub, Nat.reduceMul, Nat.reduceBEq, Int.reduceToNat, Int.reduceLE, Int.reduceLT, Int.reducePow]; omega)
    case k2 => simp only [go_sem, kn10, rightF, bytesF, chunkF, collF, lowK, pieceD, crow_len, unf_fdrow, Try.ntmps10, reduceIte, reduceCtorEq, Nat.reduceAdd, Nat.reduceEqDiff, Nat.reduceLT, Nat.reduceLeDiff, Nat.reduceSub, Nat.reduceMul, Nat.reduceBEq, Int.reduceToNat, Int.reduceLE, Int.reduceLT, Int.reducePow]; rfl
    refine AWp.cond (b := ?b3) ?c3 ?t3 ?f3
    case c3 => simp only [go_sem, kn10, rightF, bytesF, chunkF, collF, lowK, pieceD, crow_len, unf_fdrow, Try.ntmps10, reduceIte, reduceCtorEq, Nat.reduceAdd, Nat.reduceEqDiff, Nat.reduceLT, Nat.reduceLeDiff, Nat.reduceSub, Nat.reduceMul, Nat.reduceBEq, Int.reduceToNat, Int.reduceLE, Int.reduceLT, Int.reducePow]; rfl
    case t3 =>
      intro hb1
      have hr : rightL n fl = false := by simpa using hb1
      refine AWp.seq ?_
      refine AWp.reg (S1 := ?S4) (ob := ?o4) (S' := ?K4) tab_ok (knowL_ok kn10_ok) mixed [2, 3] ?r4 ?h4 ?k4 ?w4
      case r4 => simp only [go_sem, kn10, rightF, bytesF, chunkF, collF, lowK, pieceD, crow_len, unf_fdrow, Try.ntmps10, reduceIte, reduceCtorEq, Nat.reduceAdd, Nat.reduceEqDiff, Nat.reduceLT, Nat.reduceLeDiff, Nat.reduceSub, Nat.reduceMul, Nat.reduceBEq, Int.reduceToNat, Int.reduceLE, Int.reduceLT, Int.reducePow]; rfl
      case h4 => first | exact True.intro | omega | (simp only [go_sem, kn10, rightF, bytesF, chunkF, collF, lowK, pieceD, crow_len, unf_fdrow, Try.ntmps10, reduceIte, reduceCtorEq, Nat.reduceAdd, Nat.reduceEqDiff, Nat.reduceLT, Nat.reduceLeDiff, Nat.reduceSub, Nat.reduceMul, Nat.reduceBEq, Int.reduceToNat, Int.reduceLE, Int.reduceLT, Int.reducePow]; done) | (simp only [go_sem, kn10, rightF, bytesF, chunkF, collF, lowK, pieceD, crow_len, unf_fdrow, Try.ntmps10, reduceIte, reduceCtorEq, Nat.reduceAdd, Nat.reduceEqDiff, Nat.reduceLT, Nat.reduceLeDiff, Nat.reduceSub, Nat.reduceMul, Nat.reduceBEq, Int.reduceToNat, Int.reduceLE, Int.reduceLT, Int.reducePow]; omega)
      case k4 => simp only [go_sem, kn10, rightF, bytesF, chunkF, collF, lowK, pieceD, crow_len, unf_fdrow, Try.ntmps10, reduceIte, reduceCtorEq, Nat.reduceAdd, Nat.reduceEqDiff, Nat.reduceLT, Nat.reduceLeDiff, Nat.reduceSub, Nat.reduceMul, Nat.reduceBEq, Int.reduceToNat, Int.reduceLE, Int.reduceLT, Int.reducePow]; rfl
      refine AWp.ret ?_
      refine ends_p (vs := ?vs1) (ob := ?ro1) (vs' := ?ws1) (ks := ?ks1) (ob2 := ?rp1) tab_ok (by simp) ?er1 ?eo1 ?ef1 ?eg1 ?en1 ?ek1 ?ev1
      case er1 => simp only [go_sem, kn10, rightF, bytesF, chunkF, collF, lowK, pieceD, crow_len, unf_fdrow, Try.ntmps10, reduceIte, reduceCtorEq, Nat.reduceAdd, Nat.reduceEqDiff, Nat.reduceLT, Nat.reduceLeDiff, Nat.reduceSub, Nat.reduceMul, Nat.reduceBEq, Int.reduceToNat, Int.reduceLE, Int.reduceLT, Int.reducePow, Try.results10]; rfl
      case eo1 => first | exact True.intro | simp only [go_sem, kn10, rightF, bytesF, chunkF, collF, lowK, pieceD, crow_len, unf_fdrow, Try.ntmps10, reduceIte, reduceCtorEq, Nat.reduceAdd, Nat.reduceEqDiff, Nat.reduceLT, Nat.reduceLeDiff, Nat.reduceSub, Nat.reduceMul, Nat.reduceBEq, Int.reduceToNat, Int.reduceLE, Int.reduceLT, Int.reducePow]
      case ef1 => simp only [go_sem, kn10, rightF, bytesF, chunkF, collF, lowK, pieceD, crow_len, unf_fdrow, Try.ntmps10, reduceIte, reduceCtorEq, Nat.reduceAdd, Nat.reduceEqDiff, Nat.reduceLT, Nat.reduceLeDiff, Nat.reduceSub, Nat.reduceMul, Nat.reduceBEq, Int.reduceToNat, Int.reduceLE, Int.reduceLT, Int.reducePow]; rfl
      case eg1 => first | exact True.intro | simp only [go_sem, kn10, rightF, bytesF, chunkF, collF, lowK, pieceD, crow_len, unf_fdrow, Try.ntmps10, reduceIte, reduceCtorEq, Nat.reduceAdd, Nat.reduceEqDiff, Nat.reduceLT, Nat.reduceLeDiff, Nat.reduceSub, Nat.reduceMul, Nat.reduceBEq, Int.reduceToNat, Int.reduceLE, Int.reduceLT, Int.reducePow]
      case en1 => simp only [go_sem, kn10, rightF, bytesF, chunkF, collF, lowK, pieceD, crow_len, unf_fdrow, Try.ntmps10, reduceIte, reduceCtorEq, Nat.reduceAdd, Nat.reduceEqDiff, Nat.reduceLT, Nat.reduceLeDiff, Nat.reduceSub, Nat.reduceMul, Nat.reduceBEq, Int.reduceToNat, Int.reduceLE, Int.reduceLT, Int.reducePow]
      case ek1 => simp only [go_sem, kn10, rightF, bytesF, chunkF, collF, lowK, pieceD, crow_len, unf_fdrow, Try.ntmps10, reduceIte, reduceCtorEq, Nat.reduceAdd, Nat.reduceEqDiff, Nat.reduceLT, Nat.reduceLeDiff, Nat.reduceSub, Nat.reduceMul, Nat.reduceBEq, Int.reduceToNat, Int.reduceLE, Int.reduceLT, Int.reducePow]
      case ev1 =>
        rw [encV, hr]; rfl
    case f3 =>
      intro hb1
      have hr : rightL n fl = true := by simpa using hb1
      obtain ⟨hn0, hn1, hF⟩ := rightL_in hr
      have hB := bytesL_len hF
      have hN := nChunks_le hB
      have hw1 := wrapU hn0 hn1
      refine AWp.skip ?_
      refine AWp.seq ?_
      refine AWp.reg (S1 := ?S5) (ob := ?o5) (S' := ?K5) tab_ok (knowL_ok kn10_ok) mixed [1, 4] ?r5 ?h5 ?k5 ?w5
      case r5 => simp only [go_sem, kn10, rightF, bytesF, chunkF, collF, lowK, pieceD, crow_len, unf_fdrow, Try.ntmps10, reduceIte, reduceCtorEq, Nat.reduceAdd, Nat.reduceEqDiff, Nat.reduceLT, Nat.reduceLeDiff, Nat.reduceSub, Nat.reduceMul, Nat.reduceBEq, Int.reduceToNat, Int.reduceLE, Int.reduceLT, Int.reducePow]; rfl
      case h5 =>
        exact ⟨hF, by omega⟩
      case k5 => simp only [go_sem, kn10, rightF, bytesF, chunkF, collF, lowK, pieceD, crow_len, unf_fdrow, Try.ntmps10, reduceIte, reduceCtorEq, Nat.reduceAdd, Nat.reduceEqDiff, Nat.reduceLT, Nat.reduceLeDiff, Nat.reduceSub, Nat.reduceMul, Nat.reduceBEq, Int.reduceToNat, Int.reduceLE, Int.reduceLT, Int.reducePow]; rfl
      refine AWp.seq ?_
      refine AWp.seq ?_
      refine AWp.reg (S1 := ?S6) (ob := ?o6) (S' := ?K6) tab_ok (knowL_ok kn10_ok) mixed [1, 4, 18] ?r6 ?h6 ?k6 ?w6
      case r6 => simp only [go_sem, kn10, rightF, bytesF, chunkF, collF, lowK, pieceD, crow_len, unf_fdrow, Try.ntmps10, reduceIte, reduceCtorEq, Nat.reduceAdd, Nat.reduceEqDiff, Nat.reduceLT, Nat.reduceLeDiff, Nat.reduceSub, Nat.reduceMul, Nat.reduceBEq, Int.reduceToNat, Int.reduceLE, Int.reduceLT, Int.reducePow]; rfl
      case h6 => first | exact True.intro | omega | (simp only [go_sem, kn10, rightF, bytesF, chunkF, collF, lowK, pieceD, crow_len, unf_fdrow, Try.ntmps10, reduceIte, reduceCtorEq, Nat.reduceAdd, Nat.reduceEqDiff, Nat.reduceLT, Nat.reduceLeDiff, Nat.reduceSub, Nat.reduceMul, Nat.reduceBEq, Int.reduceToNat, Int.reduceLE, Int.reduceLT, Int.reducePow]; done) | (simp only [go_sem, kn10, rightF, bytesF, chunkF, collF, lowK, pieceD, crow_len, unf_fdrow, Try.ntmps10, reduceIte, reduceCtorEq, Nat.reduceAdd, Nat.reduceEqDiff, Nat.reduceLT, Nat.reduceLeDiff, Nat.reduceSub, Nat.reduceMul, Nat.reduceBEq, Int.reduceToNat, Int.reduceLE, Int.reduceLT, Int.reducePow]; omega)
      case k6 => simp only [go_sem, kn10, rightF, bytesF, chunkF, collF, lowK, pieceD, crow_len, unf_fdrow, Try.ntmps10, reduceIte, reduceCtorEq, Nat.reduceAdd, Nat.reduceEqDiff, Nat.reduceLT, Nat.reduceLeDiff, Nat.reduceSub, Nat.reduceMul, Nat.reduceBEq, Int.reduceToNat, Int.reduceLE, Int.reduceLT, Int.reducePow]; rfl
      refine AWp.cond (b := ?b7) ?c7 ?t7 ?f7
      case c7 => simp only [go_sem, kn10, rightF, bytesF, chunkF, collF, lowK, pieceD, crow_len, unf_fdrow, Try.ntmps10, reduceIte, reduceCtorEq, Nat.reduceAdd, Nat.reduceEqDiff, Nat.reduceLT, Nat.reduceLeDiff, Nat.reduceSub, Nat.reduceMul, Nat.reduceBEq, Int.reduceToNat, Int.reduceLE, Int.reduceLT, Int.reducePow]; rfl
      case t7 =>
        intro hb2
        have h0 : nChunks 4000 (bytesL fl).length = 0 := by simp at hb2; omega
        refine AWp.reg (S1 := ?S8) (ob := ?o8) (S' := ?K8) tab_ok (knowL_ok kn10_ok) mixed [1, 4] ?r8 ?h8 ?k8 ?w8
        case r8 => simp only [go_sem, kn10, rightF, bytesF, chunkF, collF, lowK, pieceD, crow_len, unf_fdrow, Try.ntmps10, reduceIte, reduceCtorEq, Nat.reduceAdd, Nat.reduceEqDiff, Nat.reduceLT, Nat.reduceLeDiff, Nat.reduceSub, Nat.reduceMul, Nat.reduceBEq, Int.reduceToNat, Int.reduceLE, Int.reduceLT, Int.reducePow]; rfl
        case h8 => first | exact True.intro | omega | (simp only [go_sem, kn10, rightF, bytesF, chunkF, collF, lowK, pieceD, crow_len, unf_fdrow, Try.ntmps10, reduceIte, reduceCtorEq, Nat.reduceAdd, Nat.reduceEqDiff, Nat.reduceLT, Nat.reduceLeDiff, Nat.reduceSub, Nat.reduceMul, Nat.reduceBEq, Int.reduceToNat, Int.reduceLE, Int.reduceLT, Int.reducePow]; done) | (simp only [go_sem, kn10, rightF, bytesF, chunkF, collF, lowK, pieceD, crow_len, unf_fdrow, Try.ntmps10, reduceIte, reduceCtorEq, Nat.reduceAdd, Nat.reduceEqDiff, Nat.reduceLT, Nat.reduceLeDiff, Nat.reduceSub, Nat.reduceMul, Nat.reduceBEq, Int.reduceToNat, Int.reduceLE, Int.reduceLT, Int.reducePow]; omega)
        case k8 => simp only [go_sem, kn10, rightF, bytesF, chunkF, collF, lowK, pieceD, crow_len, unf_fdrow, Try.ntmps10, reduceIte, reduceCtorEq, Nat.reduceAdd, Nat.reduceEqDiff, Nat.reduceLT, Nat.reduceLeDiff, Nat.reduceSub, Nat.reduceMul, Nat.reduceBEq, Int.reduceToNat, Int.reduceLE, Int.reduceLT, Int.reducePow]; rfl
        refine AWp.seq ?_
        refine AWp.seq ?_
        refine AWp.reg (S1 := ?S9) (ob := ?o9) (S' := ?K9) tab_ok (knowL_ok kn10_ok) mixed [1, 4, 22] ?r9 ?h9 ?k9 ?w9
        case r9 => simp only [go_sem, kn10, rightF, bytesF, chunkF, collF, lowK, pieceD, crow_len, unf_fdrow, Try.ntmps10, reduceIte, reduceCtorEq, Nat.reduceAdd, Nat.reduceEqDiff, Nat.reduceLT, Nat.reduceLeDiff, Nat.reduceSub, Nat.reduceMul, Nat.reduceBEq, Int.reduceToNat, Int.reduceLE, Int.reduceLT, Int.reducePow]; rfl
        case h9 => first | exact True.intro | omega | (simp only [go_sem, kn10, rightF, bytesF, chunkF, collF, lowK, pieceD, crow_len, unf_fdrow, Try.ntmps10, reduceIte, reduceCtorEq, Nat.reduceAdd, Nat.reduceEqDiff, Nat.reduceLT, Nat.reduceLeDiff, Nat.reduceSub, Nat.reduceMul, Nat.reduceBEq, Int.reduceToNat, Int.reduceLE, Int.reduceLT, Int.reducePow]; done) | (simp only [go_sem, kn10, rightF, bytesF, chunkF, collF, lowK, pieceD, crow_len, unf_fdrow, Try.ntmps10, reduceIte, reduceCtorEq, Nat.reduceAdd, Nat.reduceEqDiff, Nat.reduceLT, Nat.reduceLeDiff, Nat.reduceSub, Nat.reduceMul, Nat.reduceBEq, Int.reduceToNat, Int.reduceLE, Int.reduceLT, Int.reducePow]; omega)
        case k9 => simp only [go_sem, kn10, rightF, bytesF, chunkF, collF, lowK, pieceD, crow_len, unf_fdrow, Try.ntmps10, reduceIte, reduceCtorEq, Nat.reduceAdd, Nat.reduceEqDiff, Nat.reduceLT, Nat.reduceLeDiff, Nat.reduceSub, Nat.reduceMul, Nat.reduceBEq, Int.reduceToNat, Int.reduceLE, Int.reduceLT, Int.reducePow]; rfl
        refine AWp.cond (b := ?b10) ?c10 ?t10 ?f10
        case c10 => simp only [go_sem, kn10, rightF, bytesF, chunkF, collF, lowK, pieceD, crow_len, unf_fdrow, Try.ntmps10, reduceIte, reduceCtorEq, Nat.reduceAdd, Nat.reduceEqDiff, Nat.reduceLT, Nat.reduceLeDiff, Nat.reduceSub, Nat.reduceMul, Nat.reduceBEq, Int.reduceToNat, Int.reduceLE, Int.reduceLT, Int.reducePow]; rfl
        case t10 =>
          intro hb3
          exfalso; simp at hb3
        case f10 =>
          intro hb3
          refine AWp.skip ?_
          refine AWp.seq ?_
          refine AWp.reg (S1 := ?S11) (ob := ?o11) (S' := ?K11) tab_ok (knowL_ok kn10_ok) mixed [1, 4, 5] ?r11 ?h11 ?k11 ?w11
          case r11 => simp only [go_sem, kn10, rightF, bytesF, chunkF, collF, lowK, pieceD, crow_len, unf_fdrow, Try.ntmps10, reduceIte, reduceCtorEq, Nat.reduceAdd, Nat.reduceEqDiff, Nat.reduceLT, Nat.reduceLeDiff, Nat.reduceSub, Nat.reduceMul, Nat.reduceBEq, Int.reduceToNat, Int.reduceLE, Int.reduceLT, Int.reducePow]; rfl
          case h11 => first | exact True.intro | omega | (simp only [go_sem, kn10, rightF, bytesF, chunkF, collF, lowK, pieceD, crow_len, unf_fdrow, Try.ntmps10, reduceIte, reduceCtorEq, Nat.reduceAdd, Nat.reduceEqDiff, Nat.reduceLT, Nat.reduceLeDiff, Nat.reduceSub, Nat.reduceMul, Nat.reduceBEq, Int.reduceToNat, Int.reduceLE, Int.reduceLT, Int.reducePow]; done) | (simp only [go_sem, kn10, rightF, bytesF, chunkF, collF, lowK, pieceD, crow_len, unf_fdrow, Try.ntmps10, reduceIte, reduceCtorEq, Nat.reduceAdd, Nat.reduceEqDiff, Nat.reduceLT, Nat.reduceLeDiff, Nat.reduceSub, Nat.reduceMul, Nat.reduceBEq, Int.reduceToNat, Int.reduceLE, Int.reduceLT, Int.reducePow]; omega)
          case k11 => simp only [go_sem, kn10, rightF, bytesF, chunkF, collF, lowK, pieceD, crow_len, unf_fdrow, Try.ntmps10, reduceIte, reduceCtorEq, Nat.reduceAdd, Nat.reduceEqDiff, Nat.reduceLT, Nat.reduceLeDiff, Nat.reduceSub, Nat.reduceMul, Nat.reduceBEq, Int.reduceToNat, Int.reduceLE, Int.reduceLT, Int.reducePow]; rfl
          refine AWp.seq ?_
          refine AWp.seq ?_
          refine AWp.reg (S1 := ?S12) (ob := ?o12) (S' := ?K12) tab_ok (knowL_ok kn10_ok) mixed [1, 4, 5, 23, 24, 25] ?r12 ?h12 ?k12 ?w12
          case r12 => simp only [go_sem, kn10, rightF, bytesF, chunkF, collF, lowK, pieceD, crow_len, unf_fdrow, Try.ntmps10, reduceIte, reduceCtorEq, Nat.reduceAdd, Nat.reduceEqDiff, Nat.reduceLT, Nat.reduceLeDiff, Nat.reduceSub, Nat.reduceMul, Nat.reduceBEq, Int.reduceToNat, Int.reduceLE, Int.reduceLT, Int.reducePow]; rfl
          case h12 => first | exact True.intro | omega | (simp only [go_sem, kn10, rightF, bytesF, chunkF, collF, lowK, pieceD, crow_len, unf_fdrow, Try.ntmps10, reduceIte, reduceCtorEq, Nat.reduceAdd, Nat.reduceEqDiff, Nat.reduceLT, Nat.reduceLeDiff, Nat.reduceSub, Nat.reduceMul, Nat.reduceBEq, Int.reduceToNat, Int.reduceLE, Int.reduceLT, Int.reducePow]; done) | (simp only [go_sem, kn10, rightF, bytesF, chunkF, collF, lowK, pieceD, crow_len, unf_fdrow, Try.ntmps10, reduceIte, reduceCtorEq, Nat.reduceAdd, Nat.reduceEqDiff, Nat.reduceLT, Nat.reduceLeDiff, Nat.reduceSub, Nat.reduceMul, Nat.reduceBEq, Int.reduceToNat, Int.reduceLE, Int.reduceLT, Int.reducePow]; omega)
          case k12 => simp only [go_sem, kn10, rightF, bytesF, chunkF, collF, lowK, pieceD, crow_len, unf_fdrow, Try.ntmps10, reduceIte, reduceCtorEq, Nat.reduceAdd, Nat.reduceEqDiff, Nat.reduceLT, Nat.reduceLeDiff, Nat.reduceSub, Nat.reduceMul, Nat.reduceBEq, Int.reduceToNat, Int.reduceLE, Int.reduceLT, Int.reducePow]; rfl
          refine AWp.block ?_
          refine AWp.conv (Conv.nilT 5 (e := 1) (ety := 38) rfl rfl) ?_
          refine AWp.conv (Conv.keep [1, 4, 5, 23, 24, 25] [2, 1, 0] (by simp [St.nilT])) ?_
          refine AWp.loop (fun k S => ∃ i : Nat, i ≤ 1 ∧ k = 1 - i ∧ S = ⟨[(1, .one (.s (.ptr 0 0))), (4, .one (.s (.row 1 1 0 1 none))), (5, .one (.s (.row 2 1 0 i none))), (23, .one (.s (.row 1 1 0 1 none))), (24, .one (dv (.int .i64 ((1 : Nat) : Int)))), (25, .one (dv (.int .i64 ((i : Nat) : Int))))], [(2, .row (recR n 1 (bytesL fl) i) 38), (1, .row [[.slice (some true) 0 []]] 38), (0, .cells [.d (.int .i64 n), .d (.slice z 3 (fdrow fl))] 32)], 3⟩) 1 ?i1 ?n1
          case i1 =>
            exact ⟨0, by omega, rfl, by simp [St.nilT, St.keep, keepE, lookN, recR]⟩
          case n1 =>
            rintro k S ⟨i, hi0, rfl, rfl⟩
            refine AWp.seq ?_
            refine AWp.reg (S1 := ?S13) (ob := ?o13) (S' := ?K13) tab_ok (knowL_ok kn10_ok) mixed [1, 4, 5, 23, 24, 25, 26] ?r13 ?h13 ?k13 ?w13
            case r13 => simp only [go_sem, kn10, rightF, bytesF, chunkF, collF, lowK, pieceD, crow_len, unf_fdrow, Try.ntmps10, reduceIte, reduceCtorEq, Nat.reduceAdd, Nat.reduceEqDiff, Nat.reduceLT, Nat.reduceLeDiff, Nat.reduceSub, Nat.reduceMul, Nat.reduceBEq, Int.reduceToNat, Int.reduceLE, Int.reduceLT, Int.reducePow]; rfl
            case h13 => first | exact True.intro | omega | (simp only [go_sem, kn10, rightF, bytesF, chunkF, collF, lowK, pieceD, crow_len, unf_fdrow, Try.ntmps10, reduceIte, reduceCtorEq, Nat.reduceAdd, Nat.reduceEqDiff, Nat.reduceLT, Nat.reduceLeDiff, Nat.reduceSub, Nat.reduceMul, Nat.reduceBEq, Int.reduceToNat, Int.reduceLE, Int.reduceLT, Int.reducePow]; done) | (simp only [go_sem, kn10, rightF, bytesF, chunkF, collF, lowK, pieceD, crow_len, unf_fdrow, Try.ntmps10, reduceIte, reduceCtorEq, Nat.reduceAdd, Nat.reduceEqDiff, Nat.reduceLT, Nat.reduceLeDiff, Nat.reduceSub, Nat.reduceMul, Nat.reduceBEq, Int.reduceToNat, Int.reduceLE, Int.reduceLT, Int.reducePow]; omega)
            case k13 => simp only [go_sem, kn10, rightF, bytesF, chunkF, collF, lowK, pieceD, crow_len, unf_fdrow, Try.ntmps10, reduceIte, reduceCtorEq, Nat.reduceAdd, Nat.reduceEqDiff, Nat.reduceLT, Nat.reduceLeDiff, Nat.reduceSub, Nat.reduceMul, Nat.reduceBEq, Int.reduceToNat, Int.reduceLE, Int.reduceLT, Int.reducePow]; rfl
            refine AWp.seq ?_
            refine AWp.cond (b := ?b14) ?c14 ?t14 ?f14
            case c14 => simp only [go_sem, kn10, rightF, bytesF, chunkF, collF, lowK, pieceD, crow_len, unf_fdrow, Try.ntmps10, reduceIte, reduceCtorEq, Nat.reduceAdd, Nat.reduceEqDiff, Nat.reduceLT, Nat.reduceLeDiff, Nat.reduceSub, Nat.reduceMul, Nat.reduceBEq, Int.reduceToNat, Int.reduceLE, Int.reduceLT, Int.reducePow]; rfl
            case t14 =>
              intro hb4
              have hi : i < 1 := by simp at hb4; omega
              have hz : i = 0 := by omega
              have hrow : ([[D.slice (some true) 0 []]] : List (List D)).getD i [.slice (some true) 1 []] = [.slice (some true) 0 []] := by rw [hz]; rfl
              have hw3 := wrapN (v := i) (by omega)
              have hw4 := wrapN (v := 1) (by omega)
              refine AWp.skip ?_
              refine AWp.seq ?_
              refine AWp.block ?_
              refine AWp.seq ?_
              refine AWp.reg (S1 := ?S15) (ob := ?o15) (S' := ?K15) tab_ok (knowL_ok kn10_ok) mixed [1, 4, 5, 6, 7, 23, 24, 25] ?r15 ?h15 ?k15 ?w15
              case r15 => simp only [go_sem, kn10, rightF, bytesF, chunkF, collF, lowK, pieceD, crow_len, unf_fdrow, Try.ntmps10, reduceIte, reduceCtorEq, Nat.reduceAdd, Nat.reduceEqDiff, Nat.reduceLT, Nat.reduceLeDiff, Nat.reduceSub, Nat.reduceMul, Nat.reduceBEq, Int.reduceToNat, Int.reduceLE, Int.reduceLT, Int.reducePow, hrow]; rfl
              case h15 => first | exact True.intro | omega | (simp only [go_sem, kn10, rightF, bytesF, chunkF, collF, lowK, pieceD, crow_len, unf_fdrow, Try.ntmps10, reduceIte, reduceCtorEq, Nat.reduceAdd, Nat.reduceEqDiff, Nat.reduceLT, Nat.reduceLeDiff, Nat.reduceSub, Nat.reduceMul, Nat.reduceBEq, Int.reduceToNat, Int.reduceLE, Int.reduceLT, Int.reducePow]; done) | (simp only [go_sem, kn10, rightF, bytesF, chunkF, collF, lowK, pieceD, crow_len, unf_fdrow, Try.ntmps10, reduceIte, reduceCtorEq, Nat.reduceAdd, Nat.reduceEqDiff, Nat.reduceLT, Nat.reduceLeDiff, Nat.reduceSub, Nat.reduceMul, Nat.reduceBEq, Int.reduceToNat, Int.reduceLE, Int.reduceLT, Int.reducePow]; omega)
              case k15 => simp only [go_sem, kn10, rightF, bytesF, chunkF, collF, lowK, pieceD, crow_len, unf_fdrow, Try.ntmps10, reduceIte, reduceCtorEq, Nat.reduceAdd, Nat.reduceEqDiff, Nat.reduceLT, Nat.reduceLeDiff, Nat.reduceSub, Nat.reduceMul, Nat.reduceBEq, Int.reduceToNat, Int.reduceLE, Int.reduceLT, Int.reducePow]; rfl
              refine AWp.seq ?_
              refine AWp.reg (S1 := ?S16) (ob := ?o16) (S' := ?K16) tab_ok (knowL_ok kn10_ok) mixed [1, 4, 5, 7, 8, 23, 24, 25] ?r16 ?h16 ?k16 ?w16
              case r16 => simp only [go_sem, kn10, rightF, bytesF, chunkF, collF, lowK, pieceD, crow_len, unf_fdrow, Try.ntmps10, reduceIte, reduceCtorEq, Nat.reduceAdd, Nat.reduceEqDiff, Nat.reduceLT, Nat.reduceLeDiff, Nat.reduceSub, Nat.reduceMul, Nat.reduceBEq, Int.reduceToNat, Int.reduceLE, Int.reduceLT, Int.reducePow, hw1, hw3, hw4]; rfl
              case h16 =>
                (simp only [go_sem, kn10, rightF, bytesF, chunkF, collF, lowK, pieceD, crow_len, unf_fdrow, Try.ntmps10, reduceIte, reduceCtorEq, Nat.reduceAdd, Nat.reduceEqDiff, Nat.reduceLT, Nat.reduceLeDiff, Nat.reduceSub, Nat.reduceMul, Nat.reduceBEq, Int.reduceToNat, Int.reduceLE, Int.reduceLT, Int.reducePow, hw1, hw3, hw4, lowB_len]) <;> omega
              case k16 => simp only [go_sem, kn10, rightF, bytesF, chunkF, collF, lowK, pieceD, crow_len, unf_fdrow, Try.ntmps10, reduceIte, reduceCtorEq, Nat.reduceAdd, Nat.reduceEqDiff, Nat.reduceLT, Nat.reduceLeDiff, Nat.reduceSub, Nat.reduceMul, Nat.reduceBEq, Int.reduceToNat, Int.reduceLE, Int.reduceLT, Int.reducePow]; rfl
              refine AWp.reg (S1 := ?S17) (ob := ?o17) (S' := ?K17) tab_ok (knowL_ok kn10_ok) mixed [1, 4, 5, 23, 24, 25] ?r17 ?h17 ?k17 ?w17
              case r17 => simp only [go_sem, kn10, rightF, bytesF, chunkF, collF, lowK, pieceD, crow_len, unf_fdrow, Try.ntmps10, reduceIte, reduceCtorEq, Nat.reduceAdd, Nat.reduceEqDiff, Nat.reduceLT, Nat.reduceLeDiff, Nat.reduceSub, Nat.reduceMul, Nat.reduceBEq, Int.reduceToNat, Int.reduceLE, Int.reduceLT, Int.reducePow]; rfl
              case h17 =>
                have hch := chunk_len (bytesL fl) i
                simp only [go_sem, kn10, rightF, bytesF, chunkF, collF, lowK, pieceD, crow_len, unf_fdrow, Try.ntmps10, reduceIte, reduceCtorEq, Nat.reduceAdd, Nat.reduceEqDiff, Nat.reduceLT, Nat.reduceLeDiff, Nat.reduceSub, Nat.reduceMul, Nat.reduceBEq, Int.reduceToNat, Int.reduceLE, Int.reduceLT, Int.reducePow, lowB_len, recR_len]
                omega
              case k17 => simp only [go_sem, kn10, rightF, bytesF, chunkF, collF, lowK, pieceD, crow_len, unf_fdrow, Try.ntmps10, reduceIte, reduceCtorEq, Nat.reduceAdd, Nat.reduceEqDiff, Nat.reduceLT, Nat.reduceLeDiff, Nat.reduceSub, Nat.reduceMul, Nat.reduceBEq, Int.reduceToNat, Int.reduceLE, Int.reduceLT, Int.reducePow]; rfl
              refine AWp.reg (S1 := ?S18) (ob := ?o18) (S' := ?K18) tab_ok (knowL_ok kn10_ok) mixed [1, 4, 5, 23, 24, 25] ?r18 ?h18 ?k18 ?w18
              case r18 => simp only [go_sem, kn10, rightF, bytesF, chunkF, collF, lowK, pieceD, crow_len, unf_fdrow, Try.ntmps10, reduceIte, reduceCtorEq, Nat.reduceAdd, Nat.reduceEqDiff, Nat.reduceLT, Nat.reduceLeDiff, Nat.reduceSub, Nat.reduceMul, Nat.reduceBEq, Int.reduceToNat, Int.reduceLE, Int.reduceLT, Int.reducePow]; rfl
              case h18 => first | exact True.intro | omega | (simp only [go_sem, kn10, rightF, bytesF, chunkF, collF, lowK, pieceD, crow_len, unf_fdrow, Try.ntmps10, reduceIte, reduceCtorEq, Nat.reduceAdd, Nat.reduceEqDiff, Nat.reduceLT, Nat.reduceLeDiff, Nat.reduceSub, Nat.reduceMul, Nat.reduceBEq, Int.reduceToNat, Int.reduceLE, Int.reduceLT, Int.reducePow]; done) | (simp only [go_sem, kn10, rightF, bytesF, chunkF, collF, lowK, pieceD, crow_len, unf_fdrow, Try.ntmps10, reduceIte, reduceCtorEq, Nat.reduceAdd, Nat.reduceEqDiff, Nat.reduceLT, Nat.reduceLeDiff, Nat.reduceSub, Nat.reduceMul, Nat.reduceBEq, Int.reduceToNat, Int.reduceLE, Int.reduceLT, Int.reducePow]; omega)
              case k18 => simp only [go_sem, kn10, rightF, bytesF, chunkF, collF, lowK, pieceD, crow_len, unf_fdrow, Try.ntmps10, reduceIte, reduceCtorEq, Nat.reduceAdd, Nat.reduceEqDiff, Nat.reduceLT, Nat.reduceLeDiff, Nat.reduceSub, Nat.reduceMul, Nat.reduceBEq, Int.reduceToNat, Int.reduceLE, Int.reduceLT, Int.reducePow]; rfl
              subst hz
              have hc : chunkAt 4000 (bytesL fl) 0 = [] := by
                have : (bytesL fl).length = 0 := by unfold nChunks at h0; omega
                rw [List.length_eq_zero_iff.1 this]; rfl
              refine ⟨0, ⟨[(1, .one (.s (.ptr 0 0))), (4, .one (.s (.row 1 1 0 1 none))), (5, .one (.s (.row 2 1 0 1 none))), (23, .one (.s (.row 1 1 0 1 none))), (24, .one (dv (.int .i64 ((1 : Nat) : Int)))), (25, .one (dv (.int .i64 ((1 : Nat) : Int))))], [(2, .row (recR n 1 (bytesL fl) 1) 38), (1, .row [[.slice (some true) 0 []]] 38), (0, .cells [.d (.int .i64 n), .d (.slice z 3 (fdrow fl))] 32)], 3⟩, by omega, ?_, 1, by omega, rfl, rfl⟩
              exact (Conv.keep [1, 4, 5, 23, 24, 25] [8, 1, 0] (by simp)).trans (Conv.rename (fun j => if j = 2 then 8 else j) (by simp; done) (by simp; done) (by simp [St.keep, keepE, lookN, AVal.ren, AV.ren, Sc.ren, AVal.ids, AV.ids, Sc.ids, recR]; done) (by simp [St.keep, keepE, lookN, AObj.ren, AObj.ids, Sc.ids, Sc.ren, recR, recB, hc, brow]; done) (by simp; done))
            case f14 =>
              intro hb4
              have hi : i = 1 := by simp at hb4; omega
              subst hi
              refine AWp.exit ?_
              refine thenA_exit ?_
              refine thenA_exit ?_
              refine inB_eq ?_
              refine AWp.seq ?_
              refine AWp.reg (S1 := ?S19) (ob := ?o19) (S' := ?K19) tab_ok (knowL_ok kn10_ok) mixed [2, 3] ?r19 ?h19 ?k19 ?w19
              case r19 => simp only [go_sem, kn10, rightF, bytesF, chunkF, collF, lowK, pieceD, crow_len, unf_fdrow, Try.ntmps10, reduceIte, reduceCtorEq, Nat.reduceAdd, Nat.reduceEqDiff, Nat.reduceLT, Nat.reduceLeDiff, Nat.reduceSub, Nat.reduceMul, Nat.reduceBEq, Int.reduceToNat, Int.reduceLE, Int.reduceLT, Int.reducePow]; rfl
              case h19 => first | exact True.intro | omega | (simp only [go_sem, kn10, rightF, bytesF, chunkF, collF, lowK, pieceD, crow_len, unf_fdrow, Try.ntmps10, reduceIte, reduceCtorEq, Nat.reduceAdd, Nat.reduceEqDiff, Nat.reduceLT, Nat.reduceLeDiff, Nat.reduceSub, Nat.reduceMul, Nat.reduceBEq, Int.reduceToNat, Int.reduceLE, Int.reduceLT, Int.reducePow]; done) | (simp only [go_sem, kn10, rightF, bytesF, chunkF, collF, lowK, pieceD, crow_len, unf_fdrow, Try.ntmps10, reduceIte, reduceCtorEq, Nat.reduceAdd, Nat.reduceEqDiff, Nat.reduceLT, Nat.reduceLeDiff, Nat.reduceSub, Nat.reduceMul, Nat.reduceBEq, Int.reduceToNat, Int.reduceLE, Int.reduceLT, Int.reducePow]; omega)
              case k19 => simp only [go_sem, kn10, rightF, bytesF, chunkF, collF, lowK, pieceD, crow_len, unf_fdrow, Try.ntmps10, reduceIte, reduceCtorEq, Nat.reduceAdd, Nat.reduceEqDiff, Nat.reduceLT, Nat.reduceLeDiff, Nat.reduceSub, Nat.reduceMul, Nat.reduceBEq, Int.reduceToNat, Int.reduceLE, Int.reduceLT, Int.reducePow]; rfl
              refine AWp.ret ?_
              refine ends_p (vs := ?vs2) (ob := ?ro2) (vs' := ?ws2) (ks := ?ks2) (ob2 := ?rp2) tab_ok (by simp) ?er2 ?eo2 ?ef2 ?eg2 ?en2 ?ek2 ?ev2
              case er2 => simp only [go_sem, kn10, rightF, bytesF, chunkF, collF, lowK, pieceD, crow_len, unf_fdrow, Try.ntmps10, reduceIte, reduceCtorEq, Nat.reduceAdd, Nat.reduceEqDiff, Nat.reduceLT, Nat.reduceLeDiff, Nat.reduceSub, Nat.reduceMul, Nat.reduceBEq, Int.reduceToNat, Int.reduceLE, Int.reduceLT, Int.reducePow, Try.results10]; rfl
              case eo2 => first | exact True.intro | simp only [go_sem, kn10, rightF, bytesF, chunkF, collF, lowK, pieceD, crow_len, unf_fdrow, Try.ntmps10, reduceIte, reduceCtorEq, Nat.reduceAdd, Nat.reduceEqDiff, Nat.reduceLT, Nat.reduceLeDiff, Nat.reduceSub, Nat.reduceMul, Nat.reduceBEq, Int.reduceToNat, Int.reduceLE, Int.reduceLT, Int.reducePow]
              case ef2 => simp only [go_sem, kn10, rightF, bytesF, chunkF, collF, lowK, pieceD, crow_len, unf_fdrow, Try.ntmps10, reduceIte, reduceCtorEq, Nat.reduceAdd, Nat.reduceEqDiff, Nat.reduceLT, Nat.reduceLeDiff, Nat.reduceSub, Nat.reduceMul, Nat.reduceBEq, Int.reduceToNat, Int.reduceLE, Int.reduceLT, Int.reducePow]; rfl
              case eg2 => simp [recR_len]
              case en2 => simp only [go_sem, kn10, rightF, bytesF, chunkF, collF, lowK, pieceD, crow_len, unf_fdrow, Try.ntmps10, reduceIte, reduceCtorEq, Nat.reduceAdd, Nat.reduceEqDiff, Nat.reduceLT, Nat.reduceLeDiff, Nat.reduceSub, Nat.reduceMul, Nat.reduceBEq, Int.reduceToNat, Int.reduceLE, Int.reduceLT, Int.reducePow]
              case ek2 => simp only [go_sem, kn10, rightF, bytesF, chunkF, collF, lowK, pieceD, crow_len, unf_fdrow, Try.ntmps10, reduceIte, reduceCtorEq, Nat.reduceAdd, Nat.reduceEqDiff, Nat.reduceLT, Nat.reduceLeDiff, Nat.reduceSub, Nat.reduceMul, Nat.reduceBEq, Int.reduceToNat, Int.reduceLE, Int.reduceLT, Int.reducePow]
              case ev2 =>
                rw [encV, if_pos hr, show nP (bytesL fl) = 1 from by simp [nP, h0]]; rfl
      case f7 =>
        intro hb2
        have h0 : ¬ nChunks 4000 (bytesL fl).length = 0 := by simp at hb2; omega
        refine AWp.skip ?_
        refine AWp.seq ?_
        refine AWp.seq ?_
        refine AWp.reg (S1 := ?S20) (ob := ?o20) (S' := ?K20) tab_ok (knowL_ok kn10_ok) mixed [1, 4, 22] ?r20 ?h20 ?k20 ?w20
        case r20 => simp only [go_sem, kn10, rightF, bytesF, chunkF, collF, lowK, pieceD, crow_len, unf_fdrow, Try.ntmps10, reduceIte, reduceCtorEq, Nat.reduceAdd, Nat.reduceEqDiff, Nat.reduceLT, Nat.reduceLeDiff, Nat.reduceSub, Nat.reduceMul, Nat.reduceBEq, Int.reduceToNat, Int.reduceLE, Int.reduceLT, Int.reducePow]; rfl
        case h20 => first | exact True.intro | omega | (simp only [go_sem, kn10, rightF, bytesF, chunkF, collF, lowK, pieceD, crow_len, unf_fdrow, Try.ntmps10, reduceIte, reduceCtorEq, Nat.reduceAdd, Nat.reduceEqDiff, Nat.reduceLT, Nat.reduceLeDiff, Nat.reduceSub, Nat.reduceMul, Nat.reduceBEq, Int.reduceToNat, Int.reduceLE, Int.reduceLT, Int.reducePow]; done) | (simp only [go_sem, kn10, rightF, bytesF, chunkF, collF, lowK, pieceD, crow_len, unf_fdrow, Try.ntmps10, reduceIte, reduceCtorEq, Nat.reduceAdd, Nat.reduceEqDiff, Nat.reduceLT, Nat.reduceLeDiff, Nat.reduceSub, Nat.reduceMul, Nat.reduceBEq, Int.reduceToNat, Int.reduceLE, Int.reduceLT, Int.reducePow]; omega)
        case k20 => simp only [go_sem, kn10, rightF, bytesF, chunkF, collF, lowK, pieceD, crow_len, unf_fdrow, Try.ntmps10, reduceIte, reduceCtorEq, Nat.reduceAdd, Nat.reduceEqDiff, Nat.reduceLT, Nat.reduceLeDiff, Nat.reduceSub, Nat.reduceMul, Nat.reduceBEq, Int.reduceToNat, Int.reduceLE, Int.reduceLT, Int.reducePow]; rfl
        refine AWp.cond (b := ?b21) ?c21 ?t21 ?f21
        case c21 => simp only [go_sem, kn10, rightF, bytesF, chunkF, collF, lowK, pieceD, crow_len, unf_fdrow, Try.ntmps10, reduceIte, reduceCtorEq, Nat.reduceAdd, Nat.reduceEqDiff, Nat.reduceLT, Nat.reduceLeDiff, Nat.reduceSub, Nat.reduceMul, Nat.reduceBEq, Int.reduceToNat, Int.reduceLE, Int.reduceLT, Int.reducePow]; rfl
        case t21 =>
          intro hb5
          exfalso; simp at hb5; omega
        case f21 =>
          intro hb5
          refine AWp.skip ?_
          refine AWp.seq ?_
          refine AWp.reg (S1 := ?S22) (ob := ?o22) (S' := ?K22) tab_ok (knowL_ok kn10_ok) mixed [1, 4, 5] ?r22 ?h22 ?k22 ?w22
          case r22 => simp only [go_sem, kn10, rightF, bytesF, chunkF, collF, lowK, pieceD, crow_len, unf_fdrow, Try.ntmps10, reduceIte, reduceCtorEq, Nat.reduceAdd, Nat.reduceEqDiff, Nat.reduceLT, Nat.reduceLeDiff, Nat.reduceSub, Nat.reduceMul, Nat.reduceBEq, Int.reduceToNat, Int.reduceLE, Int.reduceLT, Int.reducePow]; rfl
          case h22 => first | exact True.intro | omega | (simp only [go_sem, kn10, rightF, bytesF, chunkF, collF, lowK, pieceD, crow_len, unf_fdrow, Try.ntmps10, reduceIte, reduceCtorEq, Nat.reduceAdd, Nat.reduceEqDiff, Nat.reduceLT, Nat.reduceLeDiff, Nat.reduceSub, Nat.reduceMul, Nat.reduceBEq, Int.reduceToNat, Int.reduceLE, Int.reduceLT, Int.reducePow]; done) | (simp only [go_sem, kn10, rightF, bytesF, chunkF, collF, lowK, pieceD, crow_len, unf_fdrow, Try.ntmps10, reduceIte, reduceCtorEq, Nat.reduceAdd, Nat.reduceEqDiff, Nat.reduceLT, Nat.reduceLeDiff, Nat.reduceSub, Nat.reduceMul, Nat.reduceBEq, Int.reduceToNat, Int.reduceLE, Int.reduceLT, Int.reducePow]; omega)
          case k22 => simp only [go_sem, kn10, rightF, bytesF, chunkF, collF, lowK, pieceD, crow_len, unf_fdrow, Try.ntmps10, reduceIte, reduceCtorEq, Nat.reduceAdd, Nat.reduceEqDiff, Nat.reduceLT, Nat.reduceLeDiff, Nat.reduceSub, Nat.reduceMul, Nat.reduceBEq, Int.reduceToNat, Int.reduceLE, Int.reduceLT, Int.reducePow]; rfl
          refine AWp.seq ?_
          refine AWp.seq ?_
          refine AWp.reg (S1 := ?S23) (ob := ?o23) (S' := ?K23) tab_ok (knowL_ok kn10_ok) mixed [1, 4, 5, 23, 24, 25] ?r23 ?h23 ?k23 ?w23
          case r23 => simp only [go_sem, kn10, rightF, bytesF, chunkF, collF, lowK, pieceD, crow_len, unf_fdrow, Try.ntmps10, reduceIte, reduceCtorEq, Nat.reduceAdd, Nat.reduceEqDiff, Nat.reduceLT, Nat.reduceLeDiff, Nat.reduceSub, Nat.reduceMul, Nat.reduceBEq, Int.reduceToNat, Int.reduceLE, Int.reduceLT, Int.reducePow]; rfl
          case h23 => first | exact True.intro | omega | (simp only [go_sem, kn10, rightF, bytesF, chunkF, collF, lowK, pieceD, crow_len, unf_fdrow, Try.ntmps10, reduceIte, reduceCtorEq, Nat.reduceAdd, Nat.reduceEqDiff, Nat.reduceLT, Nat.reduceLeDiff, Nat.reduceSub, Nat.reduceMul, Nat.reduceBEq, Int.reduceToNat, Int.reduceLE, Int.reduceLT, Int.reducePow]; done) | (simp only [go_sem, kn10, rightF, bytesF, chunkF, collF, lowK, pieceD, crow_len, unf_fdrow, Try.ntmps10, reduceIte, reduceCtorEq, Nat.reduceAdd, Nat.reduceEqDiff, Nat.reduceLT, Nat.reduceLeDiff, Nat.reduceSub, Nat.reduceMul, Nat.reduceBEq, Int.reduceToNat, Int.reduceLE, Int.reduceLT, Int.reducePow]; omega)
          case k23 => simp only [go_sem, kn10, rightF, bytesF, chunkF, collF, lowK, pieceD, crow_len, unf_fdrow, Try.ntmps10, reduceIte, reduceCtorEq, Nat.reduceAdd, Nat.reduceEqDiff, Nat.reduceLT, Nat.reduceLeDiff, Nat.reduceSub, Nat.reduceMul, Nat.reduceBEq, Int.reduceToNat, Int.reduceLE, Int.reduceLT, Int.reducePow]; rfl
          refine AWp.block ?_
          refine AWp.conv (Conv.nilT 5 (e := 1) (ety := 38) rfl rfl) ?_
          refine AWp.conv (Conv.keep [1, 4, 5, 23, 24, 25] [1, 0] (by simp [St.nilT])) ?_
          refine AWp.loop (fun k S => ∃ i : Nat, i ≤ nChunks 4000 (bytesL fl).length ∧ k = nChunks 4000 (bytesL fl).length - i ∧ S = ⟨[(1, .one (.s (.ptr 0 0))), (4, .one (dv (.slice none 1 (crow none 4000 (bytesL fl) (nChunks 4000 (bytesL fl).length))))), (5, .one (.s (.row 1 1 0 i none))), (23, .one (dv (.slice none 1 (crow none 4000 (bytesL fl) (nChunks 4000 (bytesL fl).length))))), (24, .one (dv (.int .i64 (((nChunks 4000 (bytesL fl).length) : Nat) : Int)))), (25, .one (dv (.int .i64 ((i : Nat) : Int))))], [(1, .row (recR n (nChunks 4000 (bytesL fl).length) (bytesL fl) i) 38), (0, .cells [.d (.int .i64 n), .d (.slice z 3 (fdrow fl))] 32)], 2⟩) (nChunks 4000 (bytesL fl).length) ?i2 ?n2
          case i2 =>
            exact ⟨0, by omega, rfl, by simp [St.nilT, St.keep, keepE, lookN, recR]⟩
          case n2 =>
            rintro k S ⟨i, hi0, rfl, rfl⟩
            refine AWp.seq ?_
            refine AWp.reg (S1 := ?S24) (ob := ?o24) (S' := ?K24) tab_ok (knowL_ok kn10_ok) mixed [1, 4, 5, 23, 24, 25, 26] ?r24 ?h24 ?k24 ?w24
            case r24 => simp only [go_sem, kn10, rightF, bytesF, chunkF, collF, lowK, pieceD, crow_len, unf_fdrow, Try.ntmps10, reduceIte, reduceCtorEq, Nat.reduceAdd, Nat.reduceEqDiff, Nat.reduceLT, Nat.reduceLeDiff, Nat.reduceSub, Nat.reduceMul, Nat.reduceBEq, Int.reduceToNat, Int.reduceLE, Int.reduceLT, Int.reducePow]; rfl
            case h24 => first | exact True.intro | omega | (simp only [go_sem, kn10, rightF, bytesF, chunkF, collF, lowK, pieceD, crow_len, unf_fdrow, Try.ntmps10, reduceIte, reduceCtorEq, Nat.reduceAdd, Nat.reduceEqDiff, Nat.reduceLT, Nat.reduceLeDiff, Nat.reduceSub, Nat.reduceMul, Nat.reduceBEq, Int.reduceToNat, Int.reduceLE, Int.reduceLT, Int.reducePow]; done) | (simp only [go_sem, kn10, rightF, bytesF, chunkF, collF, lowK, pieceD, crow_len, unf_fdrow, Try.ntmps10, reduceIte, reduceCtorEq, Nat.reduceAdd, Nat.reduceEqDiff, Nat.reduceLT, Nat.reduceLeDiff, Nat.reduceSub, Nat.reduceMul, Nat.reduceBEq, Int.reduceToNat, Int.reduceLE, Int.reduceLT, Int.reducePow]; omega)
            case k24 => simp only [go_sem, kn10, rightF, bytesF, chunkF, collF, lowK, pieceD, crow_len, unf_fdrow, Try.ntmps10, reduceIte, reduceCtorEq, Nat.reduceAdd, Nat.reduceEqDiff, Nat.reduceLT, Nat.reduceLeDiff, Nat.reduceSub, Nat.reduceMul, Nat.reduceBEq, Int.reduceToNat, Int.reduceLE, Int.reduceLT, Int.reducePow]; rfl
            refine AWp.seq ?_
            refine AWp.cond (b := ?b25) ?c25 ?t25 ?f25
            case c25 => simp only [go_sem, kn10, rightF, bytesF, chunkF, collF, lowK, pieceD, crow_len, unf_fdrow, Try.ntmps10, reduceIte, reduceCtorEq, Nat.reduceAdd, Nat.reduceEqDiff, Nat.reduceLT, Nat.reduceLeDiff, Nat.reduceSub, Nat.reduceMul, Nat.reduceBEq, Int.reduceToNat, Int.reduceLE, Int.reduceLT, Int.reducePow]; rfl
            case t25 =>
              intro hb6
              have hi : i < nChunks 4000 (bytesL fl).length := by simp at hb6; omega
              have hrow := crow_get (z := none) (k := 4000) (s := bytesL fl) hi [.slice (some true) 1 []]
              have hw3 := wrapN (v := i) (by omega)
              have hw4 := wrapN hN
              refine AWp.skip ?_
              refine AWp.seq ?_
              refine AWp.block ?_
              refine AWp.seq ?_
              refine AWp.reg (S1 := ?S26) (ob := ?o26) (S' := ?K26) tab_ok (knowL_ok kn10_ok) mixed [1, 4, 5, 6, 7, 23, 24, 25] ?r26 ?h26 ?k26 ?w26
              case r26 => simp only [go_sem, kn10, rightF, bytesF, chunkF, collF, lowK, pieceD, crow_len, unf_fdrow, Try.ntmps10, reduceIte, reduceCtorEq, Nat.reduceAdd, Nat.reduceEqDiff, Nat.reduceLT, Nat.reduceLeDiff, Nat.reduceSub, Nat.reduceMul, Nat.reduceBEq, Int.reduceToNat, Int.reduceLE, Int.reduceLT, Int.reducePow, hrow]; rfl
              case h26 => first | exact True.intro | omega | (simp only [go_sem, kn10, rightF, bytesF, chunkF, collF, lowK, pieceD, crow_len, unf_fdrow, Try.ntmps10, reduceIte, reduceCtorEq, Nat.reduceAdd, Nat.reduceEqDiff, Nat.reduceLT, Nat.reduceLeDiff, Nat.reduceSub, Nat.reduceMul, Nat.reduceBEq, Int.reduceToNat, Int.reduceLE, Int.reduceLT, Int.reducePow]; done) | (simp only [go_sem, kn10, rightF, bytesF, chunkF, collF, lowK, pieceD, crow_len, unf_fdrow, Try.ntmps10, reduceIte, reduceCtorEq, Nat.reduceAdd, Nat.reduceEqDiff, Nat.reduceLT, Nat.reduceLeDiff, Nat.reduceSub, Nat.reduceMul, Nat.reduceBEq, Int.reduceToNat, Int.reduceLE, Int.reduceLT, Int.reducePow]; omega)
              case k26 => simp only [go_sem, kn10, rightF, bytesF, chunkF, collF, lowK, pieceD, crow_len, unf_fdrow, Try.ntmps10, reduceIte, reduceCtorEq, Nat.reduceAdd, Nat.reduceEqDiff, Nat.reduceLT, Nat.reduceLeDiff, Nat.reduceSub, Nat.reduceMul, Nat.reduceBEq, Int.reduceToNat, Int.reduceLE, Int.reduceLT, Int.reducePow]; rfl
              refine AWp.seq ?_
              refine AWp.reg (S1 := ?S27) (ob := ?o27) (S' := ?K27) tab_ok (knowL_ok kn10_ok) mixed [1, 4, 5, 7, 8, 23, 24, 25] ?r27 ?h27 ?k27 ?w27
              case r27 => simp only [go_sem, kn10, rightF, bytesF, chunkF, collF, lowK, pieceD, crow_len, unf_fdrow, Try.ntmps10, reduceIte, reduceCtorEq, Nat.reduceAdd, Nat.reduceEqDiff, Nat.reduceLT, Nat.reduceLeDiff, Nat.reduceSub, Nat.reduceMul, Nat.reduceBEq, Int.reduceToNat, Int.reduceLE, Int.reduceLT, Int.reducePow, hw1, hw3, hw4]; rfl
              case h27 =>
                (simp only [go_sem, kn10, rightF, bytesF, chunkF, collF, lowK, pieceD, crow_len, unf_fdrow, Try.ntmps10, reduceIte, reduceCtorEq, Nat.reduceAdd, Nat.reduceEqDiff, Nat.reduceLT, Nat.reduceLeDiff, Nat.reduceSub, Nat.reduceMul, Nat.reduceBEq, Int.reduceToNat, Int.reduceLE, Int.reduceLT, Int.reducePow, hw1, hw3, hw4, lowB_len]) <;> omega
              case k27 => simp only [go_sem, kn10, rightF, bytesF, chunkF, collF, lowK, pieceD, crow_len, unf_fdrow, Try.ntmps10, reduceIte, reduceCtorEq, Nat.reduceAdd, Nat.reduceEqDiff, Nat.reduceLT, Nat.reduceLeDiff, Nat.reduceSub, Nat.reduceMul, Nat.reduceBEq, Int.reduceToNat, Int.reduceLE, Int.reduceLT, Int.reducePow]; rfl
              refine AWp.reg (S1 := ?S28) (ob := ?o28) (S' := ?K28) tab_ok (knowL_ok kn10_ok) mixed [1, 4, 5, 23, 24, 25] ?r28 ?h28 ?k28 ?w28
              case r28 => simp only [go_sem, kn10, rightF, bytesF, chunkF, collF, lowK, pieceD, crow_len, unf_fdrow, Try.ntmps10, reduceIte, reduceCtorEq, Nat.reduceAdd, Nat.reduceEqDiff, Nat.reduceLT, Nat.reduceLeDiff, Nat.reduceSub, Nat.reduceMul, Nat.reduceBEq, Int.reduceToNat, Int.reduceLE, Int.reduceLT, Int.reducePow]; rfl
              case h28 =>
                have hch := chunk_len (bytesL fl) i
                simp only [go_sem, kn10, rightF, bytesF, chunkF, collF, lowK, pieceD, crow_len, unf_fdrow, Try.ntmps10, reduceIte, reduceCtorEq, Nat.reduceAdd, Nat.reduceEqDiff, Nat.reduceLT, Nat.reduceLeDiff, Nat.reduceSub, Nat.reduceMul, Nat.reduceBEq, Int.reduceToNat, Int.reduceLE, Int.reduceLT, Int.reducePow, lowB_len, recR_len]
                omega
              case k28 => simp only [go_sem, kn10, rightF, bytesF, chunkF, collF, lowK, pieceD, crow_len, unf_fdrow, Try.ntmps10, reduceIte, reduceCtorEq, Nat.reduceAdd, Nat.reduceEqDiff, Nat.reduceLT, Nat.reduceLeDiff, Nat.reduceSub, Nat.reduceMul, Nat.reduceBEq, Int.reduceToNat, Int.reduceLE, Int.reduceLT, Int.reducePow]; rfl
              refine AWp.reg (S1 := ?S29) (ob := ?o29) (S' := ?K29) tab_ok (knowL_ok kn10_ok) mixed [1, 4, 5, 23, 24, 25] ?r29 ?h29 ?k29 ?w29
              case r29 => simp only [go_sem, kn10, rightF, bytesF, chunkF, collF, lowK, pieceD, crow_len, unf_fdrow, Try.ntmps10, reduceIte, reduceCtorEq, Nat.reduceAdd, Nat.reduceEqDiff, Nat.reduceLT, Nat.reduceLeDiff, Nat.reduceSub, Nat.reduceMul, Nat.reduceBEq, Int.reduceToNat, Int.reduceLE, Int.reduceLT, Int.reducePow]; rfl
              case h29 => first | exact True.intro | omega | (simp only [go_sem, kn10, rightF, bytesF, chunkF, collF, lowK, pieceD, crow_len, unf_fdrow, Try.ntmps10, reduceIte, reduceCtorEq, Nat.reduceAdd, Nat.reduceEqDiff, Nat.reduceLT, Nat.reduceLeDiff, Nat.reduceSub, Nat.reduceMul, Nat.reduceBEq, Int.reduceToNat, Int.reduceLE, Int.reduceLT, Int.reducePow]; done) | (simp only [go_sem, kn10, rightF, bytesF, chunkF, collF, lowK, pieceD, crow_len, unf_fdrow, Try.ntmps10, reduceIte, reduceCtorEq, Nat.reduceAdd, Nat.reduceEqDiff, Nat.reduceLT, Nat.reduceLeDiff, Nat.reduceSub, Nat.reduceMul, Nat.reduceBEq, Int.reduceToNat, Int.reduceLE, Int.reduceLT, Int.reducePow]; omega)
              case k29 => simp only [go_sem, kn10, rightF, bytesF, chunkF, collF, lowK, pieceD, crow_len, unf_fdrow, Try.ntmps10, reduceIte, reduceCtorEq, Nat.reduceAdd, Nat.reduceEqDiff, Nat.reduceLT, Nat.reduceLeDiff, Nat.reduceSub, Nat.reduceMul, Nat.reduceBEq, Int.reduceToNat, Int.reduceLE, Int.reduceLT, Int.reducePow]; rfl
              refine ⟨nChunks 4000 (bytesL fl).length - (i + 1), ⟨[(1, .one (.s (.ptr 0 0))), (4, .one (dv (.slice none 1 (crow none 4000 (bytesL fl) (nChunks 4000 (bytesL fl).length))))), (5, .one (.s (.row 1 1 0 (i + 1) none))), (23, .one (dv (.slice none 1 (crow none 4000 (bytesL fl) (nChunks 4000 (bytesL fl).length))))), (24, .one (dv (.int .i64 (((nChunks 4000 (bytesL fl).length) : Nat) : Int)))), (25, .one (dv (.int .i64 (((i + 1) : Nat) : Int))))], [(1, .row (recR n (nChunks 4000 (bytesL fl).length) (bytesL fl) (i + 1)) 38), (0, .cells [.d (.int .i64 n), .d (.slice z 3 (fdrow fl))] 32)], 2⟩, by omega, ?_, i + 1, by omega, rfl, rfl⟩
              exact (Conv.keep [1, 4, 5, 23, 24, 25] [7, 0] (by simp)).trans (Conv.rename (fun j => if j = 1 then 7 else j) (by simp; done) (by simp; done) (by simp [St.keep, keepE, lookN, AVal.ren, AV.ren, Sc.ren, AVal.ids, AV.ids, Sc.ids, recR_len]; done) (by simp [St.keep, keepE, lookN, AObj.ren, AObj.ids, Sc.ids, Sc.ren, recR_succ, recB, brow]; done) (by simp; done))
            case f25 =>
              intro hb6
              have hi : i = nChunks 4000 (bytesL fl).length := by simp at hb6; omega
              subst hi
              refine AWp.exit ?_
              refine thenA_exit ?_
              refine thenA_exit ?_
              refine inB_eq ?_
              refine AWp.seq ?_
              refine AWp.reg (S1 := ?S30) (ob := ?o30) (S' := ?K30) tab_ok (knowL_ok kn10_ok) mixed [2, 3] ?r30 ?h30 ?k30 ?w30
              case r30 => simp only [go_sem, kn10, rightF, bytesF, chunkF, collF, lowK, pieceD, crow_len, unf_fdrow, Try.ntmps10, reduceIte, reduceCtorEq, Nat.reduceAdd, Nat.reduceEqDiff, Nat.reduceLT, Nat.reduceLeDiff, Nat.reduceSub, Nat.reduceMul, Nat.reduceBEq, Int.reduceToNat, Int.reduceLE, Int.reduceLT, Int.reducePow]; rfl
              case h30 => first | exact True.intro | omega | (simp only [go_sem, kn10, rightF, bytesF, chunkF, collF, lowK, pieceD, crow_len, unf_fdrow, Try.ntmps10, reduceIte, reduceCtorEq, Nat.reduceAdd, Nat.reduceEqDiff, Nat.reduceLT, Nat.reduceLeDiff, Nat.reduceSub, Nat.reduceMul, Nat.reduceBEq, Int.reduceToNat, Int.reduceLE, Int.reduceLT, Int.reducePow]; done) | (simp only [go_sem, kn10, rightF, bytesF, chunkF, collF, lowK, pieceD, crow_len, unf_fdrow, Try.ntmps10, reduceIte, reduceCtorEq, Nat.reduceAdd, Nat.reduceEqDiff, Nat.reduceLT, Nat.reduceLeDiff, Nat.reduceSub, Nat.reduceMul, Nat.reduceBEq, Int.reduceToNat, Int.reduceLE, Int.reduceLT, Int.reducePow]; omega)
              case k30 => simp only [go_sem, kn10, rightF, bytesF, chunkF, collF, lowK, pieceD, crow_len, unf_fdrow, Try.ntmps10, reduceIte, reduceCtorEq, Nat.reduceAdd, Nat.reduceEqDiff, Nat.reduceLT, Nat.reduceLeDiff, Nat.reduceSub, Nat.reduceMul, Nat.reduceBEq, Int.reduceToNat, Int.reduceLE, Int.reduceLT, Int.reducePow]; rfl
              refine AWp.ret ?_
              refine ends_p (vs := ?vs3) (ob := ?ro3) (vs' := ?ws3) (ks := ?ks3) (ob2 := ?rp3) tab_ok (by simp) ?er3 ?eo3 ?ef3 ?eg3 ?en3 ?ek3 ?ev3
              case er3 => simp only [go_sem, kn10, rightF, bytesF, chunkF, collF, lowK, pieceD, crow_len, unf_fdrow, Try.ntmps10, reduceIte, reduceCtorEq, Nat.reduceAdd, Nat.reduceEqDiff, Nat.reduceLT, Nat.reduceLeDiff, Nat.reduceSub, Nat.reduceMul, Nat.reduceBEq, Int.reduceToNat, Int.reduceLE, Int.reduceLT, Int.reducePow, Try.results10]; rfl
              case eo3 => first | exact True.intro | simp only [go_sem, kn10, rightF, bytesF, chunkF, collF, lowK, pieceD, crow_len, unf_fdrow, Try.ntmps10, reduceIte, reduceCtorEq, Nat.reduceAdd, Nat.reduceEqDiff, Nat.reduceLT, Nat.reduceLeDiff, Nat.reduceSub, Nat.reduceMul, Nat.reduceBEq, Int.reduceToNat, Int.reduceLE, Int.reduceLT, Int.reducePow]
              case ef3 => simp only [go_sem, kn10, rightF, bytesF, chunkF, collF, lowK, pieceD, crow_len, unf_fdrow, Try.ntmps10, reduceIte, reduceCtorEq, Nat.reduceAdd, Nat.reduceEqDiff, Nat.reduceLT, Nat.reduceLeDiff, Nat.reduceSub, Nat.reduceMul, Nat.reduceBEq, Int.reduceToNat, Int.reduceLE, Int.reduceLT, Int.reducePow]; rfl
              case eg3 => simp [recR_len]
              case en3 => simp only [go_sem, kn10, rightF, bytesF, chunkF, collF, lowK, pieceD, crow_len, unf_fdrow, Try.ntmps10, reduceIte, reduceCtorEq, Nat.reduceAdd, Nat.reduceEqDiff, Nat.reduceLT, Nat.reduceLeDiff, Nat.reduceSub, Nat.reduceMul, Nat.reduceBEq, Int.reduceToNat, Int.reduceLE, Int.reduceLT, Int.reducePow]
              case ek3 => simp only [go_sem, kn10, rightF, bytesF, chunkF, collF, lowK, pieceD, crow_len, unf_fdrow, Try.ntmps10, reduceIte, reduceCtorEq, Nat.reduceAdd, Nat.reduceEqDiff, Nat.reduceLT, Nat.reduceLeDiff, Nat.reduceSub, Nat.reduceMul, Nat.reduceBEq, Int.reduceToNat, Int.reduceLE, Int.reduceLT, Int.reducePow]
              case ev3 =>
                rw [encV, if_pos hr, show nP (bytesL fl) = nChunks 4000 (bytesL fl).length from by simp [nP, h0]]; rfl
  · cases hq

end Go.Proofs.Hg
