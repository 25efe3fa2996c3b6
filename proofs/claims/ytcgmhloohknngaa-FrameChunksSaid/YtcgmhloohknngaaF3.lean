import Derived.Test.YtcgmhloohknngaaTab
set_option linter.unusedSimpArgs false
set_option linter.unusedVariables false
namespace Go.Proofs.Hg
open Go.RowKit
set_option maxRecDepth 100000
def twoK : Cont := fun fresh H args => match args with
  | [.s (.row i e off len none), .s (.d (.int .i64 n))] => (match H i with
    | some (.row es ty) => if ty = 5 then some ⟨.one (.s (.row fresh 1 0 (es.length + 2) none)), [(i, .row es ty)], true, [(fresh, .o (.row (es ++ brow [u8 (n / 256), u8 n]) 5)), (i, .none)],
        e = 1 ∧ off = 0 ∧ len = es.length ∧ 0 ≤ n ∧ es.length ≤ 1000000⟩ else none
    | _ => none)
  | [.s (.d (.slice (some true) e0 [])), .s (.d (.int .i64 n))] => some ⟨.one (.s (.row fresh 1 0 2 none)), [], true, [(fresh, .o (.row (brow [u8 (n / 256), u8 n]) 5))], 0 ≤ n⟩
  | _ => none
theorem twoK_ok : ContOk Try.prog 27 twoK := by
  intro fresh H args r hr hob
  unfold twoK at hr
  split at hr
  · rename_i i e off len n
    split at hr
    · rename_i es ty hH
      split at hr
      · rename_i hty
        subst hty
        injection hr with hr
        subst hr
        obtain ⟨h1, h2, h3, h4, h5⟩ : e = 1 ∧ off = 0 ∧ len = es.length ∧ 0 ≤ n ∧ es.length ≤ 1000000 := hob
        subst h1 h2 h3
        refine fn_gives (i := ⟨Try.f27, _, ⟨[(0, .one (.s (.row 0 1 0 es.length none))), (1, .one (dv (.int .i64 n)))], [(0, .row es 5)], 1⟩, 1, fun _ => i⟩) (nargs := 2) Try.func27 rfl (by kernel_rfl) ?_ ?_
        rotate_left
        · exact { len := ⟨rfl, Nat.le_of_ble_eq_true (by kernel_rfl)⟩, env := (by simp [AVal.ren, AV.ren, Sc.ren, AVal.ids, AV.ids, Sc.ids]), heap := (by simp [AObj.ren, AObj.ids]), nxt := rfl, inj := (by simp) }
        show AWp Try.prog Try.f27.ntmps 1 _ _ _
        refine AWp.seq ?_
        refine AWp.reg (S1 := ?S1) (ob := ?o1) (S' := ?K1) tab_ok (noKnow _) mixed [0, 1] ?r1 ?h1 ?k1 ?w1
        case r1 => simp only [go_sem, Try.ntmps27, reduceIte, reduceCtorEq, Nat.reduceAdd, Nat.reduceEqDiff, Nat.reduceLT, Nat.reduceLeDiff, Nat.reduceSub, Nat.reduceMul, Nat.reduceBEq, Int.reduceToNat, Int.reduceLE, Int.reduceLT, Int.reducePow]; rfl
        case h1 => first | exact True.intro | omega | (simp only [go_sem, Try.ntmps27, reduceIte, reduceCtorEq, Nat.reduceAdd, Nat.reduceEqDiff, Nat.reduceLT, Nat.reduceLeDiff, Nat.reduceSub, Nat.reduceMul, Nat.reduceBEq, Int.reduceToNat, Int.reduceLE, Int.reduceLT, Int.reducePow]; done) | (simp only [go_sem, Try.ntmps27, reduceIte, reduceCtorEq, Nat.reduceAdd, Nat.reduceEqDiff, Nat.reduceLT, Nat.reduceLeDiff, Nat.reduceSub, Nat.reduceMul, Nat.reduceBEq, Int.reduceToNat, Int.reduceLE, Int.reduceLT, Int.reducePow]; omega)
        case k1 => simp only [go_sem, Try.ntmps27, reduceIte, reduceCtorEq, Nat.reduceAdd, Nat.reduceEqDiff, Nat.reduceLT, Nat.reduceLeDiff, Nat.reduceSub, Nat.reduceMul, Nat.reduceBEq, Int.reduceToNat, Int.reduceLE, Int.reduceLT, Int.reducePow]; rfl
        refine AWp.seq ?_
        refine AWp.reg (S1 := ?S2) (ob := ?o2) (S' := ?K2) tab_ok (noKnow _) mixed [4] ?r2 ?h2 ?k2 ?w2
        case r2 => simp only [go_sem, Try.ntmps27, reduceIte, reduceCtorEq, Nat.reduceAdd, Nat.reduceEqDiff, Nat.reduceLT, Nat.reduceLeDiff, Nat.reduceSub, Nat.reduceMul, Nat.reduceBEq, Int.reduceToNat, Int.reduceLE, Int.reduceLT, Int.reducePow]; rfl
        case h2 =>
          exact ⟨by omega, by omega⟩
        case k2 => simp only [go_sem, Try.ntmps27, reduceIte, reduceCtorEq, Nat.reduceAdd, Nat.reduceEqDiff, Nat.reduceLT, Nat.reduceLeDiff, Nat.reduceSub, Nat.reduceMul, Nat.reduceBEq, Int.reduceToNat, Int.reduceLE, Int.reduceLT, Int.reducePow]; rfl
        refine AWp.ret ?_
        refine ends_o (vs := ?vs1) (ob := ?ro1) (ex := some 2) (g1 := fun x => if x = 2 then fresh else i) tab_ok (by simp) ?er1 ?eo1 ?et1
        case er1 => simp only [go_sem, Try.ntmps27, reduceIte, reduceCtorEq, Nat.reduceAdd, Nat.reduceEqDiff, Nat.reduceLT, Nat.reduceLeDiff, Nat.reduceSub, Nat.reduceMul, Nat.reduceBEq, Int.reduceToNat, Int.reduceLE, Int.reduceLT, Int.reducePow, Try.results27]; rfl
        case eo1 => first | exact True.intro | simp only [go_sem, Try.ntmps27, reduceIte, reduceCtorEq, Nat.reduceAdd, Nat.reduceEqDiff, Nat.reduceLT, Nat.reduceLeDiff, Nat.reduceSub, Nat.reduceMul, Nat.reduceBEq, Int.reduceToNat, Int.reduceLE, Int.reduceLT, Int.reducePow]
        case et1 => exact { val := (by simp [pack, AVal.ren, AV.ren, Sc.ren]), plain := (by simp [pack]), vids := (by simp [pack, AVal.ids, AV.ids, Sc.ids, CallOut.told]), fr := rfl, exn := (by simp), hand := (by simp), wr := (by
          intro p hp
          simp only [List.mem_cons, List.not_mem_nil, or_false] at hp
          rcases hp with rfl | rfl
          · exact .inr ⟨2, _, rfl, rfl, by simp [AObj.ren, brow], by simp [CallOut.told], by simp [AObj.ids]⟩
          · exact .inl ⟨rfl, _, List.mem_cons_self .., rfl⟩) }
      · cases hr
    · cases hr
  · rename_i e0 n
    injection hr with hr
    subst hr
    have h4 : 0 ≤ n := hob
    refine fn_gives (i := ⟨Try.f27, _, ⟨[(0, .one (.s (.d (.slice (some true) e0 [])))), (1, .one (dv (.int .i64 n)))], [], 0⟩, 0, id⟩) (nargs := 2) Try.func27 rfl (by kernel_rfl) ?_ ?_
    rotate_left
    · exact { len := ⟨rfl, Nat.le_of_ble_eq_true (by kernel_rfl)⟩, env := (by simp [AVal.ren, AV.ren, Sc.ren, AVal.ids, AV.ids, Sc.ids]), heap := (by simp), nxt := rfl, inj := (by simp) }
    show AWp Try.prog Try.f27.ntmps 0 _ _ _
    refine AWp.seq ?_
    refine AWp.reg (S1 := ?S51) (ob := ?o51) (S' := ?K51) tab_ok (noKnow _) mixed [0, 1] ?r51 ?h51 ?k51 ?w51
    case r51 => simp only [go_sem, Try.ntmps27, reduceIte, reduceCtorEq, Nat.reduceAdd, Nat.reduceEqDiff, Nat.reduceLT, Nat.reduceLeDiff, Nat.reduceSub, Nat.reduceMul, Nat.reduceBEq, Int.reduceToNat, Int.reduceLE, Int.reduceLT, Int.reducePow]; rfl
    case h51 => first | exact True.intro | omega | (simp only [go_sem, Try.ntmps27, reduceIte, reduceCtorEq, Nat.reduceAdd, Nat.reduceEqDiff, Nat.reduceLT, Nat.reduceLeDiff, Nat.reduceSub, Nat.reduceMul, Nat.reduceBEq, Int.reduceToNat, Int.reduceLE, Int.reduceLT, Int.reducePow]; done) | (simp only [go_sem, Try.ntmps27, reduceIte, reduceCtorEq, Nat.reduceAdd, Nat.reduceEqDiff, Nat.reduceLT, Nat.reduceLeDiff, Nat.reduceSub, Nat.reduceMul, Nat.reduceBEq, Int.reduceToNat, Int.reduceLE, Int.reduceLT, Int.reducePow]; omega)
    case k51 => simp only [go_sem, Try.ntmps27, reduceIte, reduceCtorEq, Nat.reduceAdd, Nat.reduceEqDiff, Nat.reduceLT, Nat.reduceLeDiff, Nat.reduceSub, Nat.reduceMul, Nat.reduceBEq, Int.reduceToNat, Int.reduceLE, Int.reduceLT, Int.reducePow]; rfl
    refine AWp.seq ?_
    refine AWp.reg (S1 := ?S52) (ob := ?o52) (S' := ?K52) tab_ok (noKnow _) mixed [4] ?r52 ?h52 ?k52 ?w52
    case r52 => simp only [go_sem, Try.ntmps27, reduceIte, reduceCtorEq, Nat.reduceAdd, Nat.reduceEqDiff, Nat.reduceLT, Nat.reduceLeDiff, Nat.reduceSub, Nat.reduceMul, Nat.reduceBEq, Int.reduceToNat, Int.reduceLE, Int.reduceLT, Int.reducePow]; rfl
    case h52 => first | exact True.intro | omega | (simp only [go_sem, Try.ntmps27, reduceIte, reduceCtorEq, Nat.reduceAdd, Nat.reduceEqDiff, Nat.reduceLT, Nat.reduceLeDiff, Nat.reduceSub, Nat.reduceMul, Nat.reduceBEq, Int.reduceToNat, Int.reduceLE, Int.reduceLT, Int.reducePow]; done) | (simp only [go_sem, Try.ntmps27, reduceIte, reduceCtorEq, Nat.reduceAdd, Nat.reduceEqDiff, Nat.reduceLT, Nat.reduceLeDiff, Nat.reduceSub, Nat.reduceMul, Nat.reduceBEq, Int.reduceToNat, Int.reduceLE, Int.reduceLT, Int.reducePow]; omega)
    case k52 => simp only [go_sem, Try.ntmps27, reduceIte, reduceCtorEq, Nat.reduceAdd, Nat.reduceEqDiff, Nat.reduceLT, Nat.reduceLeDiff, Nat.reduceSub, Nat.reduceMul, Nat.reduceBEq, Int.reduceToNat, Int.reduceLE, Int.reduceLT, Int.reducePow]; rfl
    refine AWp.ret ?_
    refine ends_o (vs := ?vs51) (ob := ?ro51) (ex := some 1) (g1 := fun x => fresh) tab_ok (by simp) ?er51 ?eo51 ?et51
    case er51 => simp only [go_sem, Try.ntmps27, reduceIte, reduceCtorEq, Nat.reduceAdd, Nat.reduceEqDiff, Nat.reduceLT, Nat.reduceLeDiff, Nat.reduceSub, Nat.reduceMul, Nat.reduceBEq, Int.reduceToNat, Int.reduceLE, Int.reduceLT, Int.reducePow, Try.results27]; rfl
    case eo51 => first | exact True.intro | simp only [go_sem, Try.ntmps27, reduceIte, reduceCtorEq, Nat.reduceAdd, Nat.reduceEqDiff, Nat.reduceLT, Nat.reduceLeDiff, Nat.reduceSub, Nat.reduceMul, Nat.reduceBEq, Int.reduceToNat, Int.reduceLE, Int.reduceLT, Int.reducePow]
    case et51 => exact { val := (by simp [pack, AVal.ren, AV.ren, Sc.ren]), plain := (by simp [pack]), vids := (by simp [pack, AVal.ids, AV.ids, Sc.ids, CallOut.told]), fr := rfl, exn := (by simp), hand := (by simp), wr := (by
      intro p hp
      simp only [List.mem_cons, List.not_mem_nil, or_false] at hp
      subst hp
      exact .inr ⟨1, _, rfl, rfl, by simp [AObj.ren, brow], by simp [CallOut.told], by simp [AObj.ids]⟩) }
  · cases hr

def rightF : List AV → Option (AVal × Prop)
  | [.agg [.d (.int .i64 id), .d (.int .i64 kind), .d (.slice z e es)]] => some (.one (dv (.bool (decide (0 ≤ id) && decide (id ≤ 65535) && decide (1 ≤ kind) && decide (kind ≤ 4) && decide ((es.length : Int) ≤ 4096)))), True)
  | _ => none
theorem rightF_ok : ContOk Try.prog 28 (pureK rightF) := by
  refine pure_ok (nargs := 1) Try.func28 rfl (by kernel_rfl) (Nat.le_of_ble_eq_true (by kernel_rfl)) ?_
  intro args q hq hob
  unfold rightF at hq
  split at hq
  · rename_i id kind z e es
    injection hq with hq
    subst hq
    refine ⟨rfl, by simp [AV.ids, Sc.ids], by simp [AVal.ids, AV.ids, Sc.ids], by simp, ?_⟩
    refine AWp.seq ?_
    refine AWp.reg (S1 := ?S1) (ob := ?o1) (S' := ?K1) tab_ok (noKnow _) mixed [1] ?r1 ?h1 ?k1 ?w1
    case r1 => simp only [go_sem, Try.ntmps28, reduceIte, reduceCtorEq, Nat.reduceAdd, Nat.reduceEqDiff, Nat.reduceLT, Nat.reduceLeDiff, Nat.reduceSub, Nat.reduceMul, Nat.reduceBEq, Int.reduceToNat, Int.reduceLE, Int.reduceLT, Int.reducePow]; rfl
    case h1 => first | exact True.intro | omega | (simp only [go_sem, Try.ntmps28, reduceIte, reduceCtorEq, Nat.reduceAdd, Nat.reduceEqDiff, Nat.reduceLT, Nat.reduceLeDiff, Nat.reduceSub, Nat.reduceMul, Nat.reduceBEq, Int.reduceToNat, Int.reduceLE, Int.reduceLT, Int.reducePow]; done) | (simp only [go_sem, Try.ntmps28, reduceIte, reduceCtorEq, Nat.reduceAdd, Nat.reduceEqDiff, Nat.reduceLT, Nat.reduceLeDiff, Nat.reduceSub, Nat.reduceMul, Nat.reduceBEq, Int.reduceToNat, Int.reduceLE, Int.reduceLT, Int.reducePow]; omega)
    case k1 => simp only [go_sem, Try.ntmps28, reduceIte, reduceCtorEq, Nat.reduceAdd, Nat.reduceEqDiff, Nat.reduceLT, Nat.reduceLeDiff, Nat.reduceSub, Nat.reduceMul, Nat.reduceBEq, Int.reduceToNat, Int.reduceLE, Int.reduceLT, Int.reducePow]; rfl
    refine AWp.seq ?_
    refine AWp.reg (S1 := ?S2) (ob := ?o2) (S' := ?K2) tab_ok (noKnow _) mixed [2] ?r2 ?h2 ?k2 ?w2
    case r2 => simp only [go_sem, Try.ntmps28, reduceIte, reduceCtorEq, Nat.reduceAdd, Nat.reduceEqDiff, Nat.reduceLT, Nat.reduceLeDiff, Nat.reduceSub, Nat.reduceMul, Nat.reduceBEq, Int.reduceToNat, Int.reduceLE, Int.reduceLT, Int.reducePow]; rfl
    case h2 => first | exact True.intro | omega | (simp only [go_sem, Try.ntmps28, reduceIte, reduceCtorEq, Nat.reduceAdd, Nat.reduceEqDiff, Nat.reduceLT, Nat.reduceLeDiff, Nat.reduceSub, Nat.reduceMul, Nat.reduceBEq, Int.reduceToNat, Int.reduceLE, Int.reduceLT, Int.reducePow]; done) | (simp only [go_sem, Try.ntmps28, reduceIte, reduceCtorEq, Nat.reduceAdd, Nat.reduceEqDiff, Nat.reduceLT, Nat.reduceLeDiff, Nat.reduceSub, Nat.reduceMul, Nat.reduceBEq, Int.reduceToNat, Int.reduceLE, Int.reduceLT, Int.reducePow]; omega)
    case k2 => simp only [go_sem, Try.ntmps28, reduceIte, reduceCtorEq, Nat.reduceAdd, Nat.reduceEqDiff, Nat.reduceLT, Nat.reduceLeDiff, Nat.reduceSub, Nat.reduceMul, Nat.reduceBEq, Int.reduceToNat, Int.reduceLE, Int.reduceLT, Int.reducePow]; rfl
    refine AWp.ret ?_
    refine ends_p (vs := ?vs1) (ob := ?ro1) (vs' := ?ws1) (ks := ?ks1) (ob2 := ?rp1) tab_ok (by simp) ?er1 ?eo1 ?ef1 ?eg1 ?en1 ?ek1 ?ev1
    case er1 => simp only [go_sem, Try.ntmps28, reduceIte, reduceCtorEq, Nat.reduceAdd, Nat.reduceEqDiff, Nat.reduceLT, Nat.reduceLeDiff, Nat.reduceSub, Nat.reduceMul, Nat.reduceBEq, Int.reduceToNat, Int.reduceLE, Int.reduceLT, Int.reducePow, Try.results28]; rfl
    case eo1 => first | exact True.intro | simp only [go_sem, Try.ntmps28, reduceIte, reduceCtorEq, Nat.reduceAdd, Nat.reduceEqDiff, Nat.reduceLT, Nat.reduceLeDiff, Nat.reduceSub, Nat.reduceMul, Nat.reduceBEq, Int.reduceToNat, Int.reduceLE, Int.reduceLT, Int.reducePow]
    case ef1 => simp only [go_sem, Try.ntmps28, reduceIte, reduceCtorEq, Nat.reduceAdd, Nat.reduceEqDiff, Nat.reduceLT, Nat.reduceLeDiff, Nat.reduceSub, Nat.reduceMul, Nat.reduceBEq, Int.reduceToNat, Int.reduceLE, Int.reduceLT, Int.reducePow]; rfl
    case eg1 => first | exact True.intro | simp only [go_sem, Try.ntmps28, reduceIte, reduceCtorEq, Nat.reduceAdd, Nat.reduceEqDiff, Nat.reduceLT, Nat.reduceLeDiff, Nat.reduceSub, Nat.reduceMul, Nat.reduceBEq, Int.reduceToNat, Int.reduceLE, Int.reduceLT, Int.reducePow]
    case en1 => simp only [go_sem, Try.ntmps28, reduceIte, reduceCtorEq, Nat.reduceAdd, Nat.reduceEqDiff, Nat.reduceLT, Nat.reduceLeDiff, Nat.reduceSub, Nat.reduceMul, Nat.reduceBEq, Int.reduceToNat, Int.reduceLE, Int.reduceLT, Int.reducePow]
    case ek1 => simp only [go_sem, Try.ntmps28, reduceIte, reduceCtorEq, Nat.reduceAdd, Nat.reduceEqDiff, Nat.reduceLT, Nat.reduceLeDiff, Nat.reduceSub, Nat.reduceMul, Nat.reduceBEq, Int.reduceToNat, Int.reduceLE, Int.reduceLT, Int.reducePow]
    case ev1 =>
      first | rfl | simp only [go_sem, Try.ntmps28, reduceIte, reduceCtorEq, Nat.reduceAdd, Nat.reduceEqDiff, Nat.reduceLT, Nat.reduceLeDiff, Nat.reduceSub, Nat.reduceMul, Nat.reduceBEq, Int.reduceToNat, Int.reduceLE, Int.reduceLT, Int.reducePow]
  · cases hq

def markI (qu xt ip : Bool) : Nat → Int
  | 0 => 0
  | i + 1 => if [qu, xt, ip].getD i false then bitsV .or .u8 (markI qu xt ip i) (IntKind.u8.wrap (2 ^ i)) else markI qu xt ip i
def markB (qu xt ip : Bool) : UInt8 := u8 ((if qu then 1 else 0) + (if xt then 2 else 0) + (if ip then 4 else 0))
theorem markI_eq (qu xt ip : Bool) : markI qu xt ip 3 = ((markB qu xt ip).toNat : Int) := by cases qu <;> cases xt <;> cases ip <;> rfl
def encF (f : List UInt8) : List UInt8 := u8 (f.length : Int) :: f
def reqPre (sc : List UInt8) (qu xt ip : Bool) (fl : List (List UInt8)) : List UInt8 := [markB qu xt ip, u8 ((sc.length : Int) / 256), u8 (sc.length : Int)] ++ sc ++ [u8 (fl.length : Int)]
def reqBody (sc : List UInt8) (qu xt ip : Bool) (fl : List (List UInt8)) : List UInt8 := reqPre sc qu xt ip fl ++ fl.flatMap encF
def reqOk (id : Int) (sc : List UInt8) (qu xt ip : Bool) (fl : List (List UInt8)) : Bool :=
  decide (sc.length ≤ 65535) && decide (fl.length ≤ 255) && (fl.all fun f => decide (f.length ≤ 255)) && decide (0 ≤ id) && decide (id ≤ 65535) && decide ((reqBody sc qu xt ip fl).length ≤ 4096)
def frameV (id kind : Int) (b : List UInt8) : AV := .agg [.d (.int .i64 id), .d (.int .i64 kind), .d (.slice none 1 (brow b))]
def frame0 : AV := .agg [.d (.int .i64 0), .d (.int .i64 0), .d (.slice (some true) 1 [])]
def reqV (id : Int) (sc : List UInt8) (qu xt ip : Bool) (fl : List (List UInt8)) : AVal :=
  if reqOk id sc qu xt ip fl then .tup [frameV id 1 (reqBody sc qu xt ip fl), dv (.int .i64 0)] else .tup [frame0, dv (.int .i64 231)]
theorem flat_len (l : List (List UInt8)) (h : ∀ f ∈ l, f.length ≤ 255) : (l.flatMap encF).length ≤ 256 * l.length := by
  induction l with
  | nil => simp
  | cons f l ih =>
    have h1 := h f (List.mem_cons_self ..)
    have h2 := ih fun x hx => h x (List.mem_cons_of_mem _ hx)
    simp only [List.flatMap_cons, List.length_append, encF, List.length_cons]
    omega
def boolrow (l : List Bool) : List (List D) := l.map fun b => [.bool b]
theorem boolrow_get (l : List Bool) (i : Nat) : ((boolrow l).getD i [.bool false]).getD 0 .nilp = .bool (l.getD i false) := by
  simp only [boolrow, List.getD_eq_getElem?_getD, List.getElem?_map]
  cases l[i]? <;> rfl
theorem boolrow_len (l : List Bool) : (boolrow l).length = l.length := by simp [boolrow]
theorem boolrow_len1 (l : List Bool) (i : Nat) : ((boolrow l).getD i [.bool false]).length = 1 := by
  simp only [boolrow, List.getD_eq_getElem?_getD, List.getElem?_map]
  cases l[i]? <;> rfl
theorem reqV_ids (id : Int) (sc : List UInt8) (qu xt ip : Bool) (fl : List (List UInt8)) : (reqV id sc qu xt ip fl).ids = [] ∧ ∀ b x, reqV id sc qu xt ip fl ≠ .opt b x := by
  unfold reqV frameV frame0
  split <;> simp [AVal.ids, AV.ids, Sc.ids]
def reqF : List AV → Option (AVal × Prop)
  | [.agg [.d (.int .i64 id), .d (.str sc), .d (.bool qu), .d (.bool xt), .d (.bool ip), .d (.slice z e fs)]] => some (reqV id sc qu xt ip (uns fs), e = 1 ∧ fs = srow (uns fs))
  | _ => none
def kn10 : List (Nat × Cont) := [(27, twoK), (28, pureK rightF)]
theorem kn10_ok : ∀ p ∈ kn10, ContOk Try.prog p.1 p.2 := by
  intro p hp
  simp only [kn10, List.mem_cons, List.not_mem_nil, or_false] at hp
  rcases hp with rfl | rfl
  · exact twoK_ok
  · exact rightF_ok
theorem reqF_ok : ContOk Try.prog 10 (pureK reqF) := by
  refine pure_ok (nargs := 1) Try.func10 rfl (by kernel_rfl) (Nat.le_of_ble_eq_true (by kernel_rfl)) ?_
  intro args q hq hob
  unfold reqF at hq
  split at hq
  · rename_i id sc qu xt ip z e fs
    injection hq with hq
    subst hq
    obtain ⟨h1, h2⟩ : e = 1 ∧ fs = srow (uns fs) := hob
    generalize uns fs = fl at *
    subst h1 h2
    refine ⟨rfl, by simp [AV.ids, Sc.ids], (reqV_ids _ _ _ _ _ _).1, (reqV_ids _ _ _ _ _ _).2, ?_⟩
    refine AWp.seq ?_
    refine AWp.reg (S1 := ?S1) (ob := ?o1) (S' := ?K1) tab_ok (knowL_ok kn10_ok) mixed [1, 2] ?r1 ?h1 ?k1 ?w1
    case r1 => simp only [go_sem, kn10, twoK, rightF, boolrow_get, boolrow_len, boolrow_len1, Try.ntmps10, reduceIte, reduceCtorEq, Nat.reduceAdd, Nat.reduceEqDiff, Nat.reduceLT, Nat.reduceLeDiff, Nat.reduceSub, Nat.reduceMul, Nat.reduceBEq, Int.reduceToNat, Int.reduceLE, Int.reduceLT, Int.reducePow]; rfl
    case h1 => first | exact True.intro | omega | (simp only [go_sem, kn10, twoK, rightF, boolrow_get, boolrow_len, boolrow_len1, Try.ntmps10, reduceIte, reduceCtorEq, Nat.reduceAdd, Nat.reduceEqDiff, Nat.reduceLT, Nat.reduceLeDiff, Nat.reduceSub, Nat.reduceMul, Nat.reduceBEq, Int.reduceToNat, Int.reduceLE, Int.reduceLT, Int.reducePow]; done) | (simp only [go_sem, kn10, twoK, rightF, boolrow_get, boolrow_len, boolrow_len1, Try.ntmps10, reduceIte, reduceCtorEq, Nat.reduceAdd, Nat.reduceEqDiff, Nat.reduceLT, Nat.reduceLeDiff, Nat.reduceSub, Nat.reduceMul, Nat.reduceBEq, Int.reduceToNat, Int.reduceLE, Int.reduceLT, Int.reducePow]; omega)
    case k1 => simp only [go_sem, kn10, twoK, rightF, boolrow_get, boolrow_len, boolrow_len1, Try.ntmps10, reduceIte, reduceCtorEq, Nat.reduceAdd, Nat.reduceEqDiff, Nat.reduceLT, Nat.reduceLeDiff, Nat.reduceSub, Nat.reduceMul, Nat.reduceBEq, Int.reduceToNat, Int.reduceLE, Int.reduceLT, Int.reducePow]; rfl
    refine AWp.seq ?_
    refine AWp.seq ?_
    refine AWp.reg (S1 := ?S2) (ob := ?o2) (S' := ?K2) tab_ok (knowL_ok kn10_ok) mixed [1, 2, 20] ?r2 ?h2 ?k2 ?w2
    case r2 => simp only [go_sem, kn10, twoK, rightF, boolrow_get, boolrow_len, boolrow_len1, Try.ntmps10, reduceIte, reduceCtorEq, Nat.reduceAdd, Nat.reduceEqDiff, Nat.reduceLT, Nat.reduceLeDiff, Nat.reduceSub, Nat.reduceMul, Nat.reduceBEq, Int.reduceToNat, Int.reduceLE, Int.reduceLT, Int.reducePow]; rfl
    case h2 => first | exact True.intro | omega | (simp only [go_sem, kn10, twoK, rightF, boolrow_get, boolrow_len, boolrow_len1, Try.ntmps10, reduceIte, reduceCtorEq, Nat.reduceAdd, Nat.reduceEqDiff, Nat.reduceLT, Nat.reduceLeDiff, Nat.reduceSub, Nat.reduceMul, Nat.reduceBEq, Int.reduceToNat, Int.reduceLE, Int.reduceLT, Int.reducePow]; done) | (simp only [go_sem, kn10, twoK, rightF, boolrow_get, boolrow_len, boolrow_len1, Try.ntmps10, reduceIte, reduceCtorEq, Nat.reduceAdd, Nat.reduceEqDiff, Nat.reduceLT, Nat.reduceLeDiff, Nat.reduceSub, Nat.reduceMul, Nat.reduceBEq, Int.reduceToNat, Int.reduceLE, Int.reduceLT, Int.reducePow]; omega)
    case k2 => simp only [go_sem, kn10, twoK, rightF, boolrow_get, boolrow_len, boolrow_len1, Try.ntmps10, reduceIte, reduceCtorEq, Nat.reduceAdd, Nat.reduceEqDiff, Nat.reduceLT, Nat.reduceLeDiff, Nat.reduceSub, Nat.reduceMul, Nat.reduceBEq, Int.reduceToNat, Int.reduceLE, Int.reduceLT, Int.reducePow]; rfl
    refine AWp.cond (b := ?b3) ?c3 ?t3 ?f3
    case c3 => simp only [go_sem, kn10, twoK, rightF, boolrow_get, boolrow_len, boolrow_len1, Try.ntmps10, reduceIte, reduceCtorEq, Nat.reduceAdd, Nat.reduceEqDiff, Nat.reduceLT, Nat.reduceLeDiff, Nat.reduceSub, Nat.reduceMul, Nat.reduceBEq, Int.reduceToNat, Int.reduceLE, Int.reduceLT, Int.reducePow]; rfl
    case t3 =>
      intro hb1
      have hx : ¬ (sc.length ≤ 65535 ∧ fl.length ≤ 255) := by simp at hb1; omega
      refine AWp.seq ?_
      refine AWp.reg (S1 := ?S4) (ob := ?o4) (S' := ?K4) tab_ok (knowL_ok kn10_ok) mixed [2, 3] ?r4 ?h4 ?k4 ?w4
      case r4 => simp only [go_sem, kn10, twoK, rightF, boolrow_get, boolrow_len, boolrow_len1, Try.ntmps10, reduceIte, reduceCtorEq, Nat.reduceAdd, Nat.reduceEqDiff, Nat.reduceLT, Nat.reduceLeDiff, Nat.reduceSub, Nat.reduceMul, Nat.reduceBEq, Int.reduceToNat, Int.reduceLE, Int.reduceLT, Int.reducePow]; rfl
      case h4 => first | exact True.intro | omega | (simp only [go_sem, kn10, twoK, rightF, boolrow_get, boolrow_len, boolrow_len1, Try.ntmps10, reduceIte, reduceCtorEq, Nat.reduceAdd, Nat.reduceEqDiff, Nat.reduceLT, Nat.reduceLeDiff, Nat.reduceSub, Nat.reduceMul, Nat.reduceBEq, Int.reduceToNat, Int.reduceLE, Int.reduceLT, Int.reducePow]; done) | (simp only [go_sem, kn10, twoK, rightF, boolrow_get, boolrow_len, boolrow_len1, Try.ntmps10, reduceIte, reduceCtorEq, Nat.reduceAdd, Nat.reduceEqDiff, Nat.reduceLT, Nat.reduceLeDiff, Nat.reduceSub, Nat.reduceMul, Nat.reduceBEq, Int.reduceToNat, Int.reduceLE, Int.reduceLT, Int.reducePow]; omega)
      case k4 => simp only [go_sem, kn10, twoK, rightF, boolrow_get, boolrow_len, boolrow_len1, Try.ntmps10, reduceIte, reduceCtorEq, Nat.reduceAdd, Nat.reduceEqDiff, Nat.reduceLT, Nat.reduceLeDiff, Nat.reduceSub, Nat.reduceMul, Nat.reduceBEq, Int.reduceToNat, Int.reduceLE, Int.reduceLT, Int.reducePow]; rfl
      refine AWp.ret ?_
      refine ends_p (vs := ?vs1) (ob := ?ro1) (vs' := ?ws1) (ks := ?ks1) (ob2 := ?rp1) tab_ok (by simp) ?er1 ?eo1 ?ef1 ?eg1 ?en1 ?ek1 ?ev1
      case er1 => simp only [go_sem, kn10, twoK, rightF, boolrow_get, boolrow_len, boolrow_len1, Try.ntmps10, reduceIte, reduceCtorEq, Nat.reduceAdd, Nat.reduceEqDiff, Nat.reduceLT, Nat.reduceLeDiff, Nat.reduceSub, Nat.reduceMul, Nat.reduceBEq, Int.reduceToNat, Int.reduceLE, Int.reduceLT, Int.reducePow, Try.results10]; rfl
      case eo1 => first | exact True.intro | simp only [go_sem, kn10, twoK, rightF, boolrow_get, boolrow_len, boolrow_len1, Try.ntmps10, reduceIte, reduceCtorEq, Nat.reduceAdd, Nat.reduceEqDiff, Nat.reduceLT, Nat.reduceLeDiff, Nat.reduceSub, Nat.reduceMul, Nat.reduceBEq, Int.reduceToNat, Int.reduceLE, Int.reduceLT, Int.reducePow]
      case ef1 => simp only [go_sem, kn10, twoK, rightF, boolrow_get, boolrow_len, boolrow_len1, Try.ntmps10, reduceIte, reduceCtorEq, Nat.reduceAdd, Nat.reduceEqDiff, Nat.reduceLT, Nat.reduceLeDiff, Nat.reduceSub, Nat.reduceMul, Nat.reduceBEq, Int.reduceToNat, Int.reduceLE, Int.reduceLT, Int.reducePow]; rfl
      case eg1 => first | exact True.intro | simp only [go_sem, kn10, twoK, rightF, boolrow_get, boolrow_len, boolrow_len1, Try.ntmps10, reduceIte, reduceCtorEq, Nat.reduceAdd, Nat.reduceEqDiff, Nat.reduceLT, Nat.reduceLeDiff, Nat.reduceSub, Nat.reduceMul, Nat.reduceBEq, Int.reduceToNat, Int.reduceLE, Int.reduceLT, Int.reducePow]
      case en1 => simp only [go_sem, kn10, twoK, rightF, boolrow_get, boolrow_len, boolrow_len1, Try.ntmps10, reduceIte, reduceCtorEq, Nat.reduceAdd, Nat.reduceEqDiff, Nat.reduceLT, Nat.reduceLeDiff, Nat.reduceSub, Nat.reduceMul, Nat.reduceBEq, Int.reduceToNat, Int.reduceLE, Int.reduceLT, Int.reducePow]
      case ek1 => simp only [go_sem, kn10, twoK, rightF, boolrow_get, boolrow_len, boolrow_len1, Try.ntmps10, reduceIte, reduceCtorEq, Nat.reduceAdd, Nat.reduceEqDiff, Nat.reduceLT, Nat.reduceLeDiff, Nat.reduceSub, Nat.reduceMul, Nat.reduceBEq, Int.reduceToNat, Int.reduceLE, Int.reduceLT, Int.reducePow]
      case ev1 =>
        unfold reqV
        rw [if_neg]; rfl
        simp only [reqOk, Bool.and_eq_true, decide_eq_true_eq]; omega
    case f3 =>
      intro hb1
      have hx : sc.length ≤ 65535 ∧ fl.length ≤ 255 := by simp at hb1; omega
      refine AWp.skip ?_
      refine AWp.seq ?_
      refine AWp.reg (S1 := ?S5) (ob := ?o5) (S' := ?K5) tab_ok (knowL_ok kn10_ok) mixed [1, 2, 4] ?r5 ?h5 ?k5 ?w5
      case r5 => simp only [go_sem, kn10, twoK, rightF, boolrow_get, boolrow_len, boolrow_len1, Try.ntmps10, reduceIte, reduceCtorEq, Nat.reduceAdd, Nat.reduceEqDiff, Nat.reduceLT, Nat.reduceLeDiff, Nat.reduceSub, Nat.reduceMul, Nat.reduceBEq, Int.reduceToNat, Int.reduceLE, Int.reduceLT, Int.reducePow]; rfl
      case h5 => first | exact True.intro | omega | (simp only [go_sem, kn10, twoK, rightF, boolrow_get, boolrow_len, boolrow_len1, Try.ntmps10, reduceIte, reduceCtorEq, Nat.reduceAdd, Nat.reduceEqDiff, Nat.reduceLT, Nat.reduceLeDiff, Nat.reduceSub, Nat.reduceMul, Nat.reduceBEq, Int.reduceToNat, Int.reduceLE, Int.reduceLT, Int.reducePow]; done) | (simp only [go_sem, kn10, twoK, rightF, boolrow_get, boolrow_len, boolrow_len1, Try.ntmps10, reduceIte, reduceCtorEq, Nat.reduceAdd, Nat.reduceEqDiff, Nat.reduceLT, Nat.reduceLeDiff, Nat.reduceSub, Nat.reduceMul, Nat.reduceBEq, Int.reduceToNat, Int.reduceLE, Int.reduceLT, Int.reducePow]; omega)
      case k5 => simp only [go_sem, kn10, twoK, rightF, boolrow_get, boolrow_len, boolrow_len1, Try.ntmps10, reduceIte, reduceCtorEq, Nat.reduceAdd, Nat.reduceEqDiff, Nat.reduceLT, Nat.reduceLeDiff, Nat.reduceSub, Nat.reduceMul, Nat.reduceBEq, Int.reduceToNat, Int.reduceLE, Int.reduceLT, Int.reducePow]; rfl
      refine AWp.seq ?_
      refine AWp.seq ?_
      refine AWp.reg (S1 := ?S6) (ob := ?o6) (S' := ?K6) tab_ok (knowL_ok kn10_ok) mixed [1, 2, 4, 28, 29, 30] ?r6 ?h6 ?k6 ?w6
      case r6 => simp only [go_sem, kn10, twoK, rightF, boolrow_get, boolrow_len, boolrow_len1, Try.ntmps10, reduceIte, reduceCtorEq, Nat.reduceAdd, Nat.reduceEqDiff, Nat.reduceLT, Nat.reduceLeDiff, Nat.reduceSub, Nat.reduceMul, Nat.reduceBEq, Int.reduceToNat, Int.reduceLE, Int.reduceLT, Int.reducePow]; rfl
      case h6 => first | exact True.intro | omega | (simp only [go_sem, kn10, twoK, rightF, boolrow_get, boolrow_len, boolrow_len1, Try.ntmps10, reduceIte, reduceCtorEq, Nat.reduceAdd, Nat.reduceEqDiff, Nat.reduceLT, Nat.reduceLeDiff, Nat.reduceSub, Nat.reduceMul, Nat.reduceBEq, Int.reduceToNat, Int.reduceLE, Int.reduceLT, Int.reducePow]; done) | (simp only [go_sem, kn10, twoK, rightF, boolrow_get, boolrow_len, boolrow_len1, Try.ntmps10, reduceIte, reduceCtorEq, Nat.reduceAdd, Nat.reduceEqDiff, Nat.reduceLT, Nat.reduceLeDiff, Nat.reduceSub, Nat.reduceMul, Nat.reduceBEq, Int.reduceToNat, Int.reduceLE, Int.reduceLT, Int.reducePow]; omega)
      case k6 => simp only [go_sem, kn10, twoK, rightF, boolrow_get, boolrow_len, boolrow_len1, Try.ntmps10, reduceIte, reduceCtorEq, Nat.reduceAdd, Nat.reduceEqDiff, Nat.reduceLT, Nat.reduceLeDiff, Nat.reduceSub, Nat.reduceMul, Nat.reduceBEq, Int.reduceToNat, Int.reduceLE, Int.reduceLT, Int.reducePow]; rfl
      refine AWp.block ?_
      refine AWp.loop (fun k S => ∃ i : Nat, i ≤ 3 ∧ k = 3 - i ∧ S = ⟨[(1, .one (.s (.ptr 0 0))), (2, .one (.s (.ptr 1 0))), (4, .one (dv (.int .u8 (markI qu xt ip i)))), (28, .one (.s (.row 2 1 0 3 none))), (29, .one (dv (.int .i64 3))), (30, .one (dv (.int .i64 (i : Int))))], [(2, .row (boolrow [qu, xt, ip]) 4), (1, .cells [.d (.int .i64 0), .d (.int .i64 0), .d (.slice (some true) 1 [])] 30), (0, .cells [.d (.int .i64 id), .d (.str sc), .d (.bool qu), .d (.bool xt), .d (.bool ip), .d (.slice z 1 (srow fl))] 24)], 3⟩) 3 ?i1 ?n1
      case i1 =>
        exact ⟨0, by omega, rfl, rfl⟩
      case n1 =>
        rintro k S ⟨i, hi0, rfl, rfl⟩
        refine AWp.seq ?_
        refine AWp.reg (S1 := ?S7) (ob := ?o7) (S' := ?K7) tab_ok (knowL_ok kn10_ok) mixed [1, 2, 4, 28, 29, 30, 31] ?r7 ?h7 ?k7 ?w7
        case r7 => simp only [go_sem, kn10, twoK, rightF, boolrow_get, boolrow_len, boolrow_len1, Try.ntmps10, reduceIte, reduceCtorEq, Nat.reduceAdd, Nat.reduceEqDiff, Nat.reduceLT, Nat.reduceLeDiff, Nat.reduceSub, Nat.reduceMul, Nat.reduceBEq, Int.reduceToNat, Int.reduceLE, Int.reduceLT, Int.reducePow]; rfl
        case h7 => first | exact True.intro | omega | (simp only [go_sem, kn10, twoK, rightF, boolrow_get, boolrow_len, boolrow_len1, Try.ntmps10, reduceIte, reduceCtorEq, Nat.reduceAdd, Nat.reduceEqDiff, Nat.reduceLT, Nat.reduceLeDiff, Nat.reduceSub, Nat.reduceMul, Nat.reduceBEq, Int.reduceToNat, Int.reduceLE, Int.reduceLT, Int.reducePow]; done) | (simp only [go_sem, kn10, twoK, rightF, boolrow_get, boolrow_len, boolrow_len1, Try.ntmps10, reduceIte, reduceCtorEq, Nat.reduceAdd, Nat.reduceEqDiff, Nat.reduceLT, Nat.reduceLeDiff, Nat.reduceSub, Nat.reduceMul, Nat.reduceBEq, Int.reduceToNat, Int.reduceLE, Int.reduceLT, Int.reducePow]; omega)
        case k7 => simp only [go_sem, kn10, twoK, rightF, boolrow_get, boolrow_len, boolrow_len1, Try.ntmps10, reduceIte, reduceCtorEq, Nat.reduceAdd, Nat.reduceEqDiff, Nat.reduceLT, Nat.reduceLeDiff, Nat.reduceSub, Nat.reduceMul, Nat.reduceBEq, Int.reduceToNat, Int.reduceLE, Int.reduceLT, Int.reducePow]; rfl
        refine AWp.seq ?_
        refine AWp.cond (b := ?b8) ?c8 ?t8 ?f8
        case c8 => simp only [go_sem, kn10, twoK, rightF, boolrow_get, boolrow_len, boolrow_len1, Try.ntmps10, reduceIte, reduceCtorEq, Nat.reduceAdd, Nat.reduceEqDiff, Nat.reduceLT, Nat.reduceLeDiff, Nat.reduceSub, Nat.reduceMul, Nat.reduceBEq, Int.reduceToNat, Int.reduceLE, Int.reduceLT, Int.reducePow]; rfl
        case t8 =>
          intro hb2
          have hi : i < 3 := by simp at hb2; omega
          refine AWp.skip ?_
          refine AWp.seq ?_
          refine AWp.block ?_
          refine AWp.seq ?_
          refine AWp.reg (S1 := ?S9) (ob := ?o9) (S' := ?K9) tab_ok (knowL_ok kn10_ok) mixed [1, 2, 4, 5, 6, 28, 29, 30] ?r9 ?h9 ?k9 ?w9
          case r9 => simp only [go_sem, kn10, twoK, rightF, boolrow_get, boolrow_len, boolrow_len1, Try.ntmps10, reduceIte, reduceCtorEq, Nat.reduceAdd, Nat.reduceEqDiff, Nat.reduceLT, Nat.reduceLeDiff, Nat.reduceSub, Nat.reduceMul, Nat.reduceBEq, Int.reduceToNat, Int.reduceLE, Int.reduceLT, Int.reducePow]; rfl
          case h9 => first | exact True.intro | omega | (simp only [go_sem, kn10, twoK, rightF, boolrow_get, boolrow_len, boolrow_len1, Try.ntmps10, reduceIte, reduceCtorEq, Nat.reduceAdd, Nat.reduceEqDiff, Nat.reduceLT, Nat.reduceLeDiff, Nat.reduceSub, Nat.reduceMul, Nat.reduceBEq, Int.reduceToNat, Int.reduceLE, Int.reduceLT, Int.reducePow]; done) | (simp only [go_sem, kn10, twoK, rightF, boolrow_get, boolrow_len, boolrow_len1, Try.ntmps10, reduceIte, reduceCtorEq, Nat.reduceAdd, Nat.reduceEqDiff, Nat.reduceLT, Nat.reduceLeDiff, Nat.reduceSub, Nat.reduceMul, Nat.reduceBEq, Int.reduceToNat, Int.reduceLE, Int.reduceLT, Int.reducePow]; omega)
          case k9 => simp only [go_sem, kn10, twoK, rightF, boolrow_get, boolrow_len, boolrow_len1, Try.ntmps10, reduceIte, reduceCtorEq, Nat.reduceAdd, Nat.reduceEqDiff, Nat.reduceLT, Nat.reduceLeDiff, Nat.reduceSub, Nat.reduceMul, Nat.reduceBEq, Int.reduceToNat, Int.reduceLE, Int.reduceLT, Int.reducePow]; rfl
          refine AWp.seq ?_
          refine AWp.reg (S1 := ?S10) (ob := ?o10) (S' := ?K10) tab_ok (knowL_ok kn10_ok) mixed [1, 2, 4, 5, 28, 29, 30, 35] ?r10 ?h10 ?k10 ?w10
          case r10 => simp only [go_sem, kn10, twoK, rightF, boolrow_get, boolrow_len, boolrow_len1, Try.ntmps10, reduceIte, reduceCtorEq, Nat.reduceAdd, Nat.reduceEqDiff, Nat.reduceLT, Nat.reduceLeDiff, Nat.reduceSub, Nat.reduceMul, Nat.reduceBEq, Int.reduceToNat, Int.reduceLE, Int.reduceLT, Int.reducePow]; rfl
          case h10 => first | exact True.intro | omega | (simp only [go_sem, kn10, twoK, rightF, boolrow_get, boolrow_len, boolrow_len1, Try.ntmps10, reduceIte, reduceCtorEq, Nat.reduceAdd, Nat.reduceEqDiff, Nat.reduceLT, Nat.reduceLeDiff, Nat.reduceSub, Nat.reduceMul, Nat.reduceBEq, Int.reduceToNat, Int.reduceLE, Int.reduceLT, Int.reducePow]; done) | (simp only [go_sem, kn10, twoK, rightF, boolrow_get, boolrow_len, boolrow_len1, Try.ntmps10, reduceIte, reduceCtorEq, Nat.reduceAdd, Nat.reduceEqDiff, Nat.reduceLT, Nat.reduceLeDiff, Nat.reduceSub, Nat.reduceMul, Nat.reduceBEq, Int.reduceToNat, Int.reduceLE, Int.reduceLT, Int.reducePow]; omega)
          case k10 => simp only [go_sem, kn10, twoK, rightF, boolrow_get, boolrow_len, boolrow_len1, Try.ntmps10, reduceIte, reduceCtorEq, Nat.reduceAdd, Nat.reduceEqDiff, Nat.reduceLT, Nat.reduceLeDiff, Nat.reduceSub, Nat.reduceMul, Nat.reduceBEq, Int.reduceToNat, Int.reduceLE, Int.reduceLT, Int.reducePow]; rfl
          refine AWp.cond (b := ?b11) ?c11 ?t11 ?f11
          case c11 => simp only [go_sem, kn10, twoK, rightF, boolrow_get, boolrow_len, boolrow_len1, Try.ntmps10, reduceIte, reduceCtorEq, Nat.reduceAdd, Nat.reduceEqDiff, Nat.reduceLT, Nat.reduceLeDiff, Nat.reduceSub, Nat.reduceMul, Nat.reduceBEq, Int.reduceToNat, Int.reduceLE, Int.reduceLT, Int.reducePow]; rfl
          case t11 =>
            intro hb3
            refine AWp.reg (S1 := ?S12) (ob := ?o12) (S' := ?K12) tab_ok (knowL_ok kn10_ok) mixed [1, 2, 4, 28, 29, 30] ?r12 ?h12 ?k12 ?w12
            case r12 => simp only [go_sem, kn10, twoK, rightF, boolrow_get, boolrow_len, boolrow_len1, Try.ntmps10, reduceIte, reduceCtorEq, Nat.reduceAdd, Nat.reduceEqDiff, Nat.reduceLT, Nat.reduceLeDiff, Nat.reduceSub, Nat.reduceMul, Nat.reduceBEq, Int.reduceToNat, Int.reduceLE, Int.reduceLT, Int.reducePow]; rfl
            case h12 => first | exact True.intro | omega | (simp only [go_sem, kn10, twoK, rightF, boolrow_get, boolrow_len, boolrow_len1, Try.ntmps10, reduceIte, reduceCtorEq, Nat.reduceAdd, Nat.reduceEqDiff, Nat.reduceLT, Nat.reduceLeDiff, Nat.reduceSub, Nat.reduceMul, Nat.reduceBEq, Int.reduceToNat, Int.reduceLE, Int.reduceLT, Int.reducePow]; done) | (simp only [go_sem, kn10, twoK, rightF, boolrow_get, boolrow_len, boolrow_len1, Try.ntmps10, reduceIte, reduceCtorEq, Nat.reduceAdd, Nat.reduceEqDiff, Nat.reduceLT, Nat.reduceLeDiff, Nat.reduceSub, Nat.reduceMul, Nat.reduceBEq, Int.reduceToNat, Int.reduceLE, Int.reduceLT, Int.reducePow]; omega)
            case k12 => simp only [go_sem, kn10, twoK, rightF, boolrow_get, boolrow_len, boolrow_len1, Try.ntmps10, reduceIte, reduceCtorEq, Nat.reduceAdd, Nat.reduceEqDiff, Nat.reduceLT, Nat.reduceLeDiff, Nat.reduceSub, Nat.reduceMul, Nat.reduceBEq, Int.reduceToNat, Int.reduceLE, Int.reduceLT, Int.reducePow]; rfl
            refine AWp.reg (S1 := ?S13) (ob := ?o13) (S' := ?K13) tab_ok (knowL_ok kn10_ok) mixed [1, 2, 4, 28, 29, 30] ?r13 ?h13 ?k13 ?w13
            case r13 => simp only [go_sem, kn10, twoK, rightF, boolrow_get, boolrow_len, boolrow_len1, Try.ntmps10, reduceIte, reduceCtorEq, Nat.reduceAdd, Nat.reduceEqDiff, Nat.reduceLT, Nat.reduceLeDiff, Nat.reduceSub, Nat.reduceMul, Nat.reduceBEq, Int.reduceToNat, Int.reduceLE, Int.reduceLT, Int.reducePow]; rfl
            case h13 => first | exact True.intro | omega | (simp only [go_sem, kn10, twoK, rightF, boolrow_get, boolrow_len, boolrow_len1, Try.ntmps10, reduceIte, reduceCtorEq, Nat.reduceAdd, Nat.reduceEqDiff, Nat.reduceLT, Nat.reduceLeDiff, Nat.reduceSub, Nat.reduceMul, Nat.reduceBEq, Int.reduceToNat, Int.reduceLE, Int.reduceLT, Int.reducePow]; done) | (simp only [go_sem, kn10, twoK, rightF, boolrow_get, boolrow_len, boolrow_len1, Try.ntmps10, reduceIte, reduceCtorEq, Nat.reduceAdd, Nat.reduceEqDiff, Nat.reduceLT, Nat.reduceLeDiff, Nat.reduceSub, Nat.reduceMul, Nat.reduceBEq, Int.reduceToNat, Int.reduceLE, Int.reduceLT, Int.reducePow]; omega)
            case k13 => simp only [go_sem, kn10, twoK, rightF, boolrow_get, boolrow_len, boolrow_len1, Try.ntmps10, reduceIte, reduceCtorEq, Nat.reduceAdd, Nat.reduceEqDiff, Nat.reduceLT, Nat.reduceLeDiff, Nat.reduceSub, Nat.reduceMul, Nat.reduceBEq, Int.reduceToNat, Int.reduceLE, Int.reduceLT, Int.reducePow]; rfl
            refine ⟨3 - (i + 1), _, by omega, Conv.refl _, i + 1, by omega, rfl, ?_⟩
            simp only [markI, hb3]
            try rw [if_pos (show i ≤ 8 by omega)]
            simp only [if_true, Bool.false_eq_true, if_false, Int.one_mul]
            rfl
          case f11 =>
            intro hb3
            refine AWp.skip ?_
            refine AWp.reg (S1 := ?S14) (ob := ?o14) (S' := ?K14) tab_ok (knowL_ok kn10_ok) mixed [1, 2, 4, 28, 29, 30] ?r14 ?h14 ?k14 ?w14
            case r14 => simp only [go_sem, kn10, twoK, rightF, boolrow_get, boolrow_len, boolrow_len1, Try.ntmps10, reduceIte, reduceCtorEq, Nat.reduceAdd, Nat.reduceEqDiff, Nat.reduceLT, Nat.reduceLeDiff, Nat.reduceSub, Nat.reduceMul, Nat.reduceBEq, Int.reduceToNat, Int.reduceLE, Int.reduceLT, Int.reducePow]; rfl
            case h14 => first | exact True.intro | omega | (simp only [go_sem, kn10, twoK, rightF, boolrow_get, boolrow_len, boolrow_len1, Try.ntmps10, reduceIte, reduceCtorEq, Nat.reduceAdd, Nat.reduceEqDiff, Nat.reduceLT, Nat.reduceLeDiff, Nat.reduceSub, Nat.reduceMul, Nat.reduceBEq, Int.reduceToNat, Int.reduceLE, Int.reduceLT, Int.reducePow]; done) | (simp only [go_sem, kn10, twoK, rightF, boolrow_get, boolrow_len, boolrow_len1, Try.ntmps10, reduceIte, reduceCtorEq, Nat.reduceAdd, Nat.reduceEqDiff, Nat.reduceLT, Nat.reduceLeDiff, Nat.reduceSub, Nat.reduceMul, Nat.reduceBEq, Int.reduceToNat, Int.reduceLE, Int.reduceLT, Int.reducePow]; omega)
            case k14 => simp only [go_sem, kn10, twoK, rightF, boolrow_get, boolrow_len, boolrow_len1, Try.ntmps10, reduceIte, reduceCtorEq, Nat.reduceAdd, Nat.reduceEqDiff, Nat.reduceLT, Nat.reduceLeDiff, Nat.reduceSub, Nat.reduceMul, Nat.reduceBEq, Int.reduceToNat, Int.reduceLE, Int.reduceLT, Int.reducePow]; rfl
            refine ⟨3 - (i + 1), _, by omega, Conv.refl _, i + 1, by omega, rfl, ?_⟩
            simp only [markI, hb3]
            try rw [if_pos (show i ≤ 8 by omega)]
            simp only [if_true, Bool.false_eq_true, if_false, Int.one_mul]
            rfl
        case f8 =>
          intro hb2
          have hi : i = 3 := by simp at hb2; omega
          subst hi
          refine AWp.exit ?_
          refine thenA_exit ?_
          refine thenA_exit ?_
          refine inB_eq ?_
          refine AWp.seq ?_
          refine AWp.reg (S1 := ?S15) (ob := ?o15) (S' := ?K15) tab_ok (knowL_ok kn10_ok) mixed [1, 2, 7] ?r15 ?h15 ?k15 ?w15
          case r15 => simp only [go_sem, kn10, twoK, rightF, boolrow_get, boolrow_len, boolrow_len1, Try.ntmps10, reduceIte, reduceCtorEq, Nat.reduceAdd, Nat.reduceEqDiff, Nat.reduceLT, Nat.reduceLeDiff, Nat.reduceSub, Nat.reduceMul, Nat.reduceBEq, Int.reduceToNat, Int.reduceLE, Int.reduceLT, Int.reducePow]; rfl
          case h15 => first | exact True.intro | omega | (simp only [go_sem, kn10, twoK, rightF, boolrow_get, boolrow_len, boolrow_len1, Try.ntmps10, reduceIte, reduceCtorEq, Nat.reduceAdd, Nat.reduceEqDiff, Nat.reduceLT, Nat.reduceLeDiff, Nat.reduceSub, Nat.reduceMul, Nat.reduceBEq, Int.reduceToNat, Int.reduceLE, Int.reduceLT, Int.reducePow]; done) | (simp only [go_sem, kn10, twoK, rightF, boolrow_get, boolrow_len, boolrow_len1, Try.ntmps10, reduceIte, reduceCtorEq, Nat.reduceAdd, Nat.reduceEqDiff, Nat.reduceLT, Nat.reduceLeDiff, Nat.reduceSub, Nat.reduceMul, Nat.reduceBEq, Int.reduceToNat, Int.reduceLE, Int.reduceLT, Int.reducePow]; omega)
          case k15 => simp only [go_sem, kn10, twoK, rightF, boolrow_get, boolrow_len, boolrow_len1, Try.ntmps10, reduceIte, reduceCtorEq, Nat.reduceAdd, Nat.reduceEqDiff, Nat.reduceLT, Nat.reduceLeDiff, Nat.reduceSub, Nat.reduceMul, Nat.reduceBEq, Int.reduceToNat, Int.reduceLE, Int.reduceLT, Int.reducePow]; rfl
          refine AWp.seq ?_
          refine AWp.drw (S1 := ?S16) (ob := ?o16) (lts := ?t16) (S' := ?K16) tab_ok (knowL_ok kn10_ok) mixed [1, 2, 7] ?r16 ?d16 ?h16 ?k16 ?w16
          case r16 => simp only [go_sem, kn10, twoK, rightF, boolrow_get, boolrow_len, boolrow_len1, Try.ntmps10, reduceIte, reduceCtorEq, Nat.reduceAdd, Nat.reduceEqDiff, Nat.reduceLT, Nat.reduceLeDiff, Nat.reduceSub, Nat.reduceMul, Nat.reduceBEq, Int.reduceToNat, Int.reduceLE, Int.reduceLT, Int.reducePow]; rfl
          case d16 => rfl
          case h16 => first | exact True.intro | omega | (simp only [go_sem, kn10, twoK, rightF, boolrow_get, boolrow_len, boolrow_len1, Try.ntmps10, reduceIte, reduceCtorEq, Nat.reduceAdd, Nat.reduceEqDiff, Nat.reduceLT, Nat.reduceLeDiff, Nat.reduceSub, Nat.reduceMul, Nat.reduceBEq, Int.reduceToNat, Int.reduceLE, Int.reduceLT, Int.reducePow]; done) | (simp only [go_sem, kn10, twoK, rightF, boolrow_get, boolrow_len, boolrow_len1, Try.ntmps10, reduceIte, reduceCtorEq, Nat.reduceAdd, Nat.reduceEqDiff, Nat.reduceLT, Nat.reduceLeDiff, Nat.reduceSub, Nat.reduceMul, Nat.reduceBEq, Int.reduceToNat, Int.reduceLE, Int.reduceLT, Int.reducePow]; omega)
          case k16 => simp only [go_sem, kn10, twoK, rightF, boolrow_get, boolrow_len, boolrow_len1, Try.ntmps10, reduceIte, reduceCtorEq, Nat.reduceAdd, Nat.reduceEqDiff, Nat.reduceLT, Nat.reduceLeDiff, Nat.reduceSub, Nat.reduceMul, Nat.reduceBEq, Int.reduceToNat, Int.reduceLE, Int.reduceLT, Int.reducePow]; rfl
          refine AWp.seq ?_
          refine AWp.seq ?_
          refine AWp.reg (S1 := ?S17) (ob := ?o17) (S' := ?K17) tab_ok (knowL_ok kn10_ok) mixed [1, 2, 7, 58, 59, 60] ?r17 ?h17 ?k17 ?w17
          case r17 => simp only [go_sem, kn10, twoK, rightF, boolrow_get, boolrow_len, boolrow_len1, Try.ntmps10, reduceIte, reduceCtorEq, Nat.reduceAdd, Nat.reduceEqDiff, Nat.reduceLT, Nat.reduceLeDiff, Nat.reduceSub, Nat.reduceMul, Nat.reduceBEq, Int.reduceToNat, Int.reduceLE, Int.reduceLT, Int.reducePow]; rfl
          case h17 => first | exact True.intro | omega | (simp only [go_sem, kn10, twoK, rightF, boolrow_get, boolrow_len, boolrow_len1, Try.ntmps10, reduceIte, reduceCtorEq, Nat.reduceAdd, Nat.reduceEqDiff, Nat.reduceLT, Nat.reduceLeDiff, Nat.reduceSub, Nat.reduceMul, Nat.reduceBEq, Int.reduceToNat, Int.reduceLE, Int.reduceLT, Int.reducePow]; done) | (simp only [go_sem, kn10, twoK, rightF, boolrow_get, boolrow_len, boolrow_len1, Try.ntmps10, reduceIte, reduceCtorEq, Nat.reduceAdd, Nat.reduceEqDiff, Nat.reduceLT, Nat.reduceLeDiff, Nat.reduceSub, Nat.reduceMul, Nat.reduceBEq, Int.reduceToNat, Int.reduceLE, Int.reduceLT, Int.reducePow]; omega)
          case k17 => simp only [go_sem, kn10, twoK, rightF, boolrow_get, boolrow_len, boolrow_len1, Try.ntmps10, reduceIte, reduceCtorEq, Nat.reduceAdd, Nat.reduceEqDiff, Nat.reduceLT, Nat.reduceLeDiff, Nat.reduceSub, Nat.reduceMul, Nat.reduceBEq, Int.reduceToNat, Int.reduceLE, Int.reduceLT, Int.reducePow]; rfl
          refine AWp.block ?_
          refine AWp.conv (Conv.keep [1, 2, 7, 58, 59, 60] [7, 1, 0] (by simp)) ?_
          refine AWp.loop (fun k S => ∃ j : Nat, j ≤ fl.length ∧ k = fl.length - j ∧ (∀ f ∈ fl.take j, f.length ≤ 255) ∧ S = ⟨[(1, .one (.s (.ptr 0 0))), (2, .one (.s (.ptr 1 0))), (7, .one (.s (.row 7 1 0 (reqPre sc qu xt ip fl ++ (fl.take j).flatMap encF).length none))), (58, .one (.s (.d (.slice z 1 (srow fl))))), (59, .one (dv (.int .i64 (fl.length : Int)))), (60, .one (dv (.int .i64 (j : Int))))], [(7, .row (brow (reqPre sc qu xt ip fl ++ (fl.take j).flatMap encF)) 5), (1, .cells [.d (.int .i64 0), .d (.int .i64 0), .d (.slice (some true) 1 [])] 30), (0, .cells [.d (.int .i64 id), .d (.str sc), .d (.bool qu), .d (.bool xt), .d (.bool ip), .d (.slice z 1 (srow fl))] 24)], 8⟩) fl.length ?i2 ?n2
          case i2 =>
            refine ⟨0, by omega, rfl, by simp, ?_⟩
            simp [St.keep, keepE, lookN, markI_eq, reqPre, brow]
            omega
          case n2 =>
            rintro k S ⟨j, hj0, rfl, ht, rfl⟩
            refine AWp.seq ?_
            refine AWp.reg (S1 := ?S18) (ob := ?o18) (S' := ?K18) tab_ok (knowL_ok kn10_ok) mixed [1, 2, 7, 58, 59, 60, 61] ?r18 ?h18 ?k18 ?w18
            case r18 => simp only [go_sem, kn10, twoK, rightF, boolrow_get, boolrow_len, boolrow_len1, Try.ntmps10, reduceIte, reduceCtorEq, Nat.reduceAdd, Nat.reduceEqDiff, Nat.reduceLT, Nat.reduceLeDiff, Nat.reduceSub, Nat.reduceMul, Nat.reduceBEq, Int.reduceToNat, Int.reduceLE, Int.reduceLT, Int.reducePow]; rfl
            case h18 => first | exact True.intro | omega | (simp only [go_sem, kn10, twoK, rightF, boolrow_get, boolrow_len, boolrow_len1, Try.ntmps10, reduceIte, reduceCtorEq, Nat.reduceAdd, Nat.reduceEqDiff, Nat.reduceLT, Nat.reduceLeDiff, Nat.reduceSub, Nat.reduceMul, Nat.reduceBEq, Int.reduceToNat, Int.reduceLE, Int.reduceLT, Int.reducePow]; done) | (simp only [go_sem, kn10, twoK, rightF, boolrow_get, boolrow_len, boolrow_len1, Try.ntmps10, reduceIte, reduceCtorEq, Nat.reduceAdd, Nat.reduceEqDiff, Nat.reduceLT, Nat.reduceLeDiff, Nat.reduceSub, Nat.reduceMul, Nat.reduceBEq, Int.reduceToNat, Int.reduceLE, Int.reduceLT, Int.reducePow]; omega)
            case k18 => simp only [go_sem, kn10, twoK, rightF, boolrow_get, boolrow_len, boolrow_len1, Try.ntmps10, reduceIte, reduceCtorEq, Nat.reduceAdd, Nat.reduceEqDiff, Nat.reduceLT, Nat.reduceLeDiff, Nat.reduceSub, Nat.reduceMul, Nat.reduceBEq, Int.reduceToNat, Int.reduceLE, Int.reduceLT, Int.reducePow]; rfl
            refine AWp.seq ?_
            refine AWp.cond (b := ?b19) ?c19 ?t19 ?f19
            case c19 => simp only [go_sem, kn10, twoK, rightF, boolrow_get, boolrow_len, boolrow_len1, Try.ntmps10, reduceIte, reduceCtorEq, Nat.reduceAdd, Nat.reduceEqDiff, Nat.reduceLT, Nat.reduceLeDiff, Nat.reduceSub, Nat.reduceMul, Nat.reduceBEq, Int.reduceToNat, Int.reduceLE, Int.reduceLT, Int.reducePow]; rfl
            case t19 =>
              intro hb4
              have hj : j < fl.length := by simp at hb4; omega
              refine AWp.skip ?_
              refine AWp.seq ?_
              refine AWp.block ?_
              refine AWp.seq ?_
              refine AWp.reg (S1 := ?S20) (ob := ?o20) (S' := ?K20) tab_ok (knowL_ok kn10_ok) mixed [1, 2, 7, 9, 58, 59, 60] ?r20 ?h20 ?k20 ?w20
              case r20 => simp only [go_sem, kn10, twoK, rightF, boolrow_get, boolrow_len, boolrow_len1, Try.ntmps10, reduceIte, reduceCtorEq, Nat.reduceAdd, Nat.reduceEqDiff, Nat.reduceLT, Nat.reduceLeDiff, Nat.reduceSub, Nat.reduceMul, Nat.reduceBEq, Int.reduceToNat, Int.reduceLE, Int.reduceLT, Int.reducePow]; rfl
              case h20 => first | exact True.intro | omega | (simp only [go_sem, kn10, twoK, rightF, boolrow_get, boolrow_len, boolrow_len1, Try.ntmps10, reduceIte, reduceCtorEq, Nat.reduceAdd, Nat.reduceEqDiff, Nat.reduceLT, Nat.reduceLeDiff, Nat.reduceSub, Nat.reduceMul, Nat.reduceBEq, Int.reduceToNat, Int.reduceLE, Int.reduceLT, Int.reducePow]; done) | (simp only [go_sem, kn10, twoK, rightF, boolrow_get, boolrow_len, boolrow_len1, Try.ntmps10, reduceIte, reduceCtorEq, Nat.reduceAdd, Nat.reduceEqDiff, Nat.reduceLT, Nat.reduceLeDiff, Nat.reduceSub, Nat.reduceMul, Nat.reduceBEq, Int.reduceToNat, Int.reduceLE, Int.reduceLT, Int.reducePow]; omega)
              case k20 => simp only [go_sem, kn10, twoK, rightF, boolrow_get, boolrow_len, boolrow_len1, Try.ntmps10, reduceIte, reduceCtorEq, Nat.reduceAdd, Nat.reduceEqDiff, Nat.reduceLT, Nat.reduceLeDiff, Nat.reduceSub, Nat.reduceMul, Nat.reduceBEq, Int.reduceToNat, Int.reduceLE, Int.reduceLT, Int.reducePow]; rfl
              refine AWp.seq ?_
              refine AWp.seq ?_
              refine AWp.reg (S1 := ?S21) (ob := ?o21) (S' := ?K21) tab_ok (knowL_ok kn10_ok) mixed [1, 2, 7, 9, 58, 59, 60, 66] ?r21 ?h21 ?k21 ?w21
              case r21 => simp only [go_sem, kn10, twoK, rightF, boolrow_get, boolrow_len, boolrow_len1, Try.ntmps10, reduceIte, reduceCtorEq, Nat.reduceAdd, Nat.reduceEqDiff, Nat.reduceLT, Nat.reduceLeDiff, Nat.reduceSub, Nat.reduceMul, Nat.reduceBEq, Int.reduceToNat, Int.reduceLE, Int.reduceLT, Int.reducePow]; rfl
              case h21 => first | exact True.intro | omega | (simp only [go_sem, kn10, twoK, rightF, boolrow_get, boolrow_len, boolrow_len1, Try.ntmps10, reduceIte, reduceCtorEq, Nat.reduceAdd, Nat.reduceEqDiff, Nat.reduceLT, Nat.reduceLeDiff, Nat.reduceSub, Nat.reduceMul, Nat.reduceBEq, Int.reduceToNat, Int.reduceLE, Int.reduceLT, Int.reducePow]; done) | (simp only [go_sem, kn10, twoK, rightF, boolrow_get, boolrow_len, boolrow_len1, Try.ntmps10, reduceIte, reduceCtorEq, Nat.reduceAdd, Nat.reduceEqDiff, Nat.reduceLT, Nat.reduceLeDiff, Nat.reduceSub, Nat.reduceMul, Nat.reduceBEq, Int.reduceToNat, Int.reduceLE, Int.reduceLT, Int.reducePow]; omega)
              case k21 => simp only [go_sem, kn10, twoK, rightF, boolrow_get, boolrow_len, boolrow_len1, Try.ntmps10, reduceIte, reduceCtorEq, Nat.reduceAdd, Nat.reduceEqDiff, Nat.reduceLT, Nat.reduceLeDiff, Nat.reduceSub, Nat.reduceMul, Nat.reduceBEq, Int.reduceToNat, Int.reduceLE, Int.reduceLT, Int.reducePow]; rfl
              refine AWp.cond (b := ?b22) ?c22 ?t22 ?f22
              case c22 => simp only [go_sem, kn10, twoK, rightF, boolrow_get, boolrow_len, boolrow_len1, Try.ntmps10, reduceIte, reduceCtorEq, Nat.reduceAdd, Nat.reduceEqDiff, Nat.reduceLT, Nat.reduceLeDiff, Nat.reduceSub, Nat.reduceMul, Nat.reduceBEq, Int.reduceToNat, Int.reduceLE, Int.reduceLT, Int.reducePow]; rfl
              case t22 =>
                intro hb5
                have hl : ¬ (fl.getD j []).length ≤ 255 := by simp only [decide_eq_true_eq] at hb5; omega
                refine AWp.seq ?_
                refine AWp.reg (S1 := ?S23) (ob := ?o23) (S' := ?K23) tab_ok (knowL_ok kn10_ok) mixed [2, 3] ?r23 ?h23 ?k23 ?w23
                case r23 => simp only [go_sem, kn10, twoK, rightF, boolrow_get, boolrow_len, boolrow_len1, Try.ntmps10, reduceIte, reduceCtorEq, Nat.reduceAdd, Nat.reduceEqDiff, Nat.reduceLT, Nat.reduceLeDiff, Nat.reduceSub, Nat.reduceMul, Nat.reduceBEq, Int.reduceToNat, Int.reduceLE, Int.reduceLT, Int.reducePow]; rfl
                case h23 => first | exact True.intro | omega | (simp only [go_sem, kn10, twoK, rightF, boolrow_get, boolrow_len, boolrow_len1, Try.ntmps10, reduceIte, reduceCtorEq, Nat.reduceAdd, Nat.reduceEqDiff, Nat.reduceLT, Nat.reduceLeDiff, Nat.reduceSub, Nat.reduceMul, Nat.reduceBEq, Int.reduceToNat, Int.reduceLE, Int.reduceLT, Int.reducePow]; done) | (simp only [go_sem, kn10, twoK, rightF, boolrow_get, boolrow_len, boolrow_len1, Try.ntmps10, reduceIte, reduceCtorEq, Nat.reduceAdd, Nat.reduceEqDiff, Nat.reduceLT, Nat.reduceLeDiff, Nat.reduceSub, Nat.reduceMul, Nat.reduceBEq, Int.reduceToNat, Int.reduceLE, Int.reduceLT, Int.reducePow]; omega)
                case k23 => simp only [go_sem, kn10, twoK, rightF, boolrow_get, boolrow_len, boolrow_len1, Try.ntmps10, reduceIte, reduceCtorEq, Nat.reduceAdd, Nat.reduceEqDiff, Nat.reduceLT, Nat.reduceLeDiff, Nat.reduceSub, Nat.reduceMul, Nat.reduceBEq, Int.reduceToNat, Int.reduceLE, Int.reduceLT, Int.reducePow]; rfl
                refine AWp.ret ?_
                refine ends_p (vs := ?vs2) (ob := ?ro2) (vs' := ?ws2) (ks := ?ks2) (ob2 := ?rp2) tab_ok (by simp) ?er2 ?eo2 ?ef2 ?eg2 ?en2 ?ek2 ?ev2
                case er2 => simp only [go_sem, kn10, twoK, rightF, boolrow_get, boolrow_len, boolrow_len1, Try.ntmps10, reduceIte, reduceCtorEq, Nat.reduceAdd, Nat.reduceEqDiff, Nat.reduceLT, Nat.reduceLeDiff, Nat.reduceSub, Nat.reduceMul, Nat.reduceBEq, Int.reduceToNat, Int.reduceLE, Int.reduceLT, Int.reducePow, Try.results10]; rfl
                case eo2 => first | exact True.intro | simp only [go_sem, kn10, twoK, rightF, boolrow_get, boolrow_len, boolrow_len1, Try.ntmps10, reduceIte, reduceCtorEq, Nat.reduceAdd, Nat.reduceEqDiff, Nat.reduceLT, Nat.reduceLeDiff, Nat.reduceSub, Nat.reduceMul, Nat.reduceBEq, Int.reduceToNat, Int.reduceLE, Int.reduceLT, Int.reducePow]
                case ef2 => simp only [go_sem, kn10, twoK, rightF, boolrow_get, boolrow_len, boolrow_len1, Try.ntmps10, reduceIte, reduceCtorEq, Nat.reduceAdd, Nat.reduceEqDiff, Nat.reduceLT, Nat.reduceLeDiff, Nat.reduceSub, Nat.reduceMul, Nat.reduceBEq, Int.reduceToNat, Int.reduceLE, Int.reduceLT, Int.reducePow]; rfl
                case eg2 => first | exact True.intro | simp only [go_sem, kn10, twoK, rightF, boolrow_get, boolrow_len, boolrow_len1, Try.ntmps10, reduceIte, reduceCtorEq, Nat.reduceAdd, Nat.reduceEqDiff, Nat.reduceLT, Nat.reduceLeDiff, Nat.reduceSub, Nat.reduceMul, Nat.reduceBEq, Int.reduceToNat, Int.reduceLE, Int.reduceLT, Int.reducePow]
                case en2 => simp only [go_sem, kn10, twoK, rightF, boolrow_get, boolrow_len, boolrow_len1, Try.ntmps10, reduceIte, reduceCtorEq, Nat.reduceAdd, Nat.reduceEqDiff, Nat.reduceLT, Nat.reduceLeDiff, Nat.reduceSub, Nat.reduceMul, Nat.reduceBEq, Int.reduceToNat, Int.reduceLE, Int.reduceLT, Int.reducePow]
                case ek2 => simp only [go_sem, kn10, twoK, rightF, boolrow_get, boolrow_len, boolrow_len1, Try.ntmps10, reduceIte, reduceCtorEq, Nat.reduceAdd, Nat.reduceEqDiff, Nat.reduceLT, Nat.reduceLeDiff, Nat.reduceSub, Nat.reduceMul, Nat.reduceBEq, Int.reduceToNat, Int.reduceLE, Int.reduceLT, Int.reducePow]
                case ev2 =>
                  unfold reqV
                  rw [if_neg]; rfl
                  simp only [reqOk, Bool.and_eq_true, decide_eq_true_eq, List.all_eq_true]
                  intro h
                  exact hl (h.1.1.1.2 _ (by rw [getD_lt hj]; exact List.getElem_mem _))
              case f22 =>
                intro hb5
                have hl : (fl.getD j []).length ≤ 255 := by simp only [decide_eq_false_iff_not] at hb5; omega
                refine AWp.skip ?_
                refine AWp.reg (S1 := ?S24) (ob := ?o24) (S' := ?K24) tab_ok (knowL_ok kn10_ok) mixed [1, 2, 7, 58, 59, 60] ?r24 ?h24 ?k24 ?w24
                case r24 => simp only [go_sem, kn10, twoK, rightF, boolrow_get, boolrow_len, boolrow_len1, Try.ntmps10, reduceIte, reduceCtorEq, Nat.reduceAdd, Nat.reduceEqDiff, Nat.reduceLT, Nat.reduceLeDiff, Nat.reduceSub, Nat.reduceMul, Nat.reduceBEq, Int.reduceToNat, Int.reduceLE, Int.reduceLT, Int.reducePow]; rfl
                case h24 =>
                  have hb : ((fl.take j).flatMap encF).length ≤ 256 * j := by have := flat_len _ ht; simp only [List.length_take] at this; omega
                  have hp : (reqPre sc qu xt ip fl).length = sc.length + 4 := by simp [reqPre]
                  omega
                case k24 => simp only [go_sem, kn10, twoK, rightF, boolrow_get, boolrow_len, boolrow_len1, Try.ntmps10, reduceIte, reduceCtorEq, Nat.reduceAdd, Nat.reduceEqDiff, Nat.reduceLT, Nat.reduceLeDiff, Nat.reduceSub, Nat.reduceMul, Nat.reduceBEq, Int.reduceToNat, Int.reduceLE, Int.reduceLT, Int.reducePow]; rfl
                refine AWp.reg (S1 := ?S25) (ob := ?o25) (S' := ?K25) tab_ok (knowL_ok kn10_ok) mixed [1, 2, 7, 58, 59, 60] ?r25 ?h25 ?k25 ?w25
                case r25 => simp only [go_sem, kn10, twoK, rightF, boolrow_get, boolrow_len, boolrow_len1, Try.ntmps10, reduceIte, reduceCtorEq, Nat.reduceAdd, Nat.reduceEqDiff, Nat.reduceLT, Nat.reduceLeDiff, Nat.reduceSub, Nat.reduceMul, Nat.reduceBEq, Int.reduceToNat, Int.reduceLE, Int.reduceLT, Int.reducePow]; rfl
                case h25 => first | exact True.intro | omega | (simp only [go_sem, kn10, twoK, rightF, boolrow_get, boolrow_len, boolrow_len1, Try.ntmps10, reduceIte, reduceCtorEq, Nat.reduceAdd, Nat.reduceEqDiff, Nat.reduceLT, Nat.reduceLeDiff, Nat.reduceSub, Nat.reduceMul, Nat.reduceBEq, Int.reduceToNat, Int.reduceLE, Int.reduceLT, Int.reducePow]; done) | (simp only [go_sem, kn10, twoK, rightF, boolrow_get, boolrow_len, boolrow_len1, Try.ntmps10, reduceIte, reduceCtorEq, Nat.reduceAdd, Nat.reduceEqDiff, Nat.reduceLT, Nat.reduceLeDiff, Nat.reduceSub, Nat.reduceMul, Nat.reduceBEq, Int.reduceToNat, Int.reduceLE, Int.reduceLT, Int.reducePow]; omega)
                case k25 => simp only [go_sem, kn10, twoK, rightF, boolrow_get, boolrow_len, boolrow_len1, Try.ntmps10, reduceIte, reduceCtorEq, Nat.reduceAdd, Nat.reduceEqDiff, Nat.reduceLT, Nat.reduceLeDiff, Nat.reduceSub, Nat.reduceMul, Nat.reduceBEq, Int.reduceToNat, Int.reduceLE, Int.reduceLT, Int.reducePow]; rfl
                have hT : reqPre sc qu xt ip fl ++ (fl.take (j + 1)).flatMap encF = reqPre sc qu xt ip fl ++ (fl.take j).flatMap encF ++ u8 ((fl.getD j []).length : Int) :: fl.getD j [] := by rw [take_one hj [], List.flatMap_append, ← List.append_assoc]; simp [encF]
                refine ⟨fl.length - (j + 1), ⟨[(1, .one (.s (.ptr 0 0))), (2, .one (.s (.ptr 1 0))), (7, .one (.s (.row 7 1 0 ((reqPre sc qu xt ip fl ++ (fl.take j).flatMap encF) ++ u8 ((fl.getD j []).length : Int) :: fl.getD j []).length none))), (58, .one (.s (.d (.slice z 1 (srow fl))))), (59, .one (dv (.int .i64 (fl.length : Int)))), (60, .one (dv (.int .i64 ((j + 1 : Nat) : Int))))], [(7, .row (brow ((reqPre sc qu xt ip fl ++ (fl.take j).flatMap encF) ++ u8 ((fl.getD j []).length : Int) :: fl.getD j [])) 5), (1, .cells [.d (.int .i64 0), .d (.int .i64 0), .d (.slice (some true) 1 [])] 30), (0, .cells [.d (.int .i64 id), .d (.str sc), .d (.bool qu), .d (.bool xt), .d (.bool ip), .d (.slice z 1 (srow fl))] 24)], 8⟩, by omega, ?_, j + 1, by omega, rfl, ?_, ?_⟩
                · refine Conv.rename (fun i => if i = 7 then 10 else i) (by simp) (by simp) ?_ ?_ ?_
                  · simp [lookN, AVal.ren, AV.ren, Sc.ren, AVal.ids, AV.ids, Sc.ids, Nat.add_assoc, Nat.add_comm 1]
                  · simp [lookN, AObj.ren, AObj.ids, Sc.ids, Sc.ren, brow_append, ← brow_cons, List.append_assoc]
                  · simp
                · rw [take_one hj []]; intro s hs; rcases List.mem_append.1 hs with h | h; exact ht s h; simp only [List.mem_singleton] at h; subst h; exact hl
                · rw [hT]
            case f19 =>
              intro hb4
              have hj : j = fl.length := by simp at hb4; omega
              subst hj
              refine AWp.exit ?_
              refine thenA_exit ?_
              refine thenA_exit ?_
              refine inB_eq ?_
              refine AWp.seq ?_
              have hB : reqPre sc qu xt ip fl ++ (fl.take fl.length).flatMap encF = reqBody sc qu xt ip fl := by simp [reqBody]
              rw [hB]
              refine AWp.conv (Conv.freezeAt 7 7 rfl (by simp) rfl (by simp only [brow_length, reqBody, List.length_append, List.take_length])) ?_
              refine AWp.reg (S1 := ?S26) (ob := ?o26) (S' := ?K26) tab_ok (knowL_ok kn10_ok) mixed [2, 10] ?r26 ?h26 ?k26 ?w26
              case r26 => simp only [go_sem, kn10, twoK, rightF, boolrow_get, boolrow_len, boolrow_len1, Try.ntmps10, reduceIte, reduceCtorEq, Nat.reduceAdd, Nat.reduceEqDiff, Nat.reduceLT, Nat.reduceLeDiff, Nat.reduceSub, Nat.reduceMul, Nat.reduceBEq, Int.reduceToNat, Int.reduceLE, Int.reduceLT, Int.reducePow]; rfl
              case h26 => first | exact True.intro | omega | (simp only [go_sem, kn10, twoK, rightF, boolrow_get, boolrow_len, boolrow_len1, Try.ntmps10, reduceIte, reduceCtorEq, Nat.reduceAdd, Nat.reduceEqDiff, Nat.reduceLT, Nat.reduceLeDiff, Nat.reduceSub, Nat.reduceMul, Nat.reduceBEq, Int.reduceToNat, Int.reduceLE, Int.reduceLT, Int.reducePow]; done) | (simp only [go_sem, kn10, twoK, rightF, boolrow_get, boolrow_len, boolrow_len1, Try.ntmps10, reduceIte, reduceCtorEq, Nat.reduceAdd, Nat.reduceEqDiff, Nat.reduceLT, Nat.reduceLeDiff, Nat.reduceSub, Nat.reduceMul, Nat.reduceBEq, Int.reduceToNat, Int.reduceLE, Int.reduceLT, Int.reducePow]; omega)
              case k26 => simp only [go_sem, kn10, twoK, rightF, boolrow_get, boolrow_len, boolrow_len1, Try.ntmps10, reduceIte, reduceCtorEq, Nat.reduceAdd, Nat.reduceEqDiff, Nat.reduceLT, Nat.reduceLeDiff, Nat.reduceSub, Nat.reduceMul, Nat.reduceBEq, Int.reduceToNat, Int.reduceLE, Int.reduceLT, Int.reducePow]; rfl
              refine AWp.seq ?_
              refine AWp.seq ?_
              refine AWp.reg (S1 := ?S27) (ob := ?o27) (S' := ?K27) tab_ok (knowL_ok kn10_ok) mixed [2, 10, 83] ?r27 ?h27 ?k27 ?w27
              case r27 => simp only [go_sem, kn10, twoK, rightF, boolrow_get, boolrow_len, boolrow_len1, Try.ntmps10, reduceIte, reduceCtorEq, Nat.reduceAdd, Nat.reduceEqDiff, Nat.reduceLT, Nat.reduceLeDiff, Nat.reduceSub, Nat.reduceMul, Nat.reduceBEq, Int.reduceToNat, Int.reduceLE, Int.reduceLT, Int.reducePow]; rfl
              case h27 => first | exact True.intro | omega | (simp only [go_sem, kn10, twoK, rightF, boolrow_get, boolrow_len, boolrow_len1, Try.ntmps10, reduceIte, reduceCtorEq, Nat.reduceAdd, Nat.reduceEqDiff, Nat.reduceLT, Nat.reduceLeDiff, Nat.reduceSub, Nat.reduceMul, Nat.reduceBEq, Int.reduceToNat, Int.reduceLE, Int.reduceLT, Int.reducePow]; done) | (simp only [go_sem, kn10, twoK, rightF, boolrow_get, boolrow_len, boolrow_len1, Try.ntmps10, reduceIte, reduceCtorEq, Nat.reduceAdd, Nat.reduceEqDiff, Nat.reduceLT, Nat.reduceLeDiff, Nat.reduceSub, Nat.reduceMul, Nat.reduceBEq, Int.reduceToNat, Int.reduceLE, Int.reduceLT, Int.reducePow]; omega)
              case k27 => simp only [go_sem, kn10, twoK, rightF, boolrow_get, boolrow_len, boolrow_len1, Try.ntmps10, reduceIte, reduceCtorEq, Nat.reduceAdd, Nat.reduceEqDiff, Nat.reduceLT, Nat.reduceLeDiff, Nat.reduceSub, Nat.reduceMul, Nat.reduceBEq, Int.reduceToNat, Int.reduceLE, Int.reduceLT, Int.reducePow]; rfl
              refine AWp.cond (b := ?b28) ?c28 ?t28 ?f28
              case c28 => simp only [go_sem, kn10, twoK, rightF, boolrow_get, boolrow_len, boolrow_len1, Try.ntmps10, reduceIte, reduceCtorEq, Nat.reduceAdd, Nat.reduceEqDiff, Nat.reduceLT, Nat.reduceLeDiff, Nat.reduceSub, Nat.reduceMul, Nat.reduceBEq, Int.reduceToNat, Int.reduceLE, Int.reduceLT, Int.reducePow]; rfl
              case t28 =>
                intro hb6
                refine AWp.seq ?_
                refine AWp.reg (S1 := ?S29) (ob := ?o29) (S' := ?K29) tab_ok (knowL_ok kn10_ok) mixed [2, 3] ?r29 ?h29 ?k29 ?w29
                case r29 => simp only [go_sem, kn10, twoK, rightF, boolrow_get, boolrow_len, boolrow_len1, Try.ntmps10, reduceIte, reduceCtorEq, Nat.reduceAdd, Nat.reduceEqDiff, Nat.reduceLT, Nat.reduceLeDiff, Nat.reduceSub, Nat.reduceMul, Nat.reduceBEq, Int.reduceToNat, Int.reduceLE, Int.reduceLT, Int.reducePow]; rfl
                case h29 => first | exact True.intro | omega | (simp only [go_sem, kn10, twoK, rightF, boolrow_get, boolrow_len, boolrow_len1, Try.ntmps10, reduceIte, reduceCtorEq, Nat.reduceAdd, Nat.reduceEqDiff, Nat.reduceLT, Nat.reduceLeDiff, Nat.reduceSub, Nat.reduceMul, Nat.reduceBEq, Int.reduceToNat, Int.reduceLE, Int.reduceLT, Int.reducePow]; done) | (simp only [go_sem, kn10, twoK, rightF, boolrow_get, boolrow_len, boolrow_len1, Try.ntmps10, reduceIte, reduceCtorEq, Nat.reduceAdd, Nat.reduceEqDiff, Nat.reduceLT, Nat.reduceLeDiff, Nat.reduceSub, Nat.reduceMul, Nat.reduceBEq, Int.reduceToNat, Int.reduceLE, Int.reduceLT, Int.reducePow]; omega)
                case k29 => simp only [go_sem, kn10, twoK, rightF, boolrow_get, boolrow_len, boolrow_len1, Try.ntmps10, reduceIte, reduceCtorEq, Nat.reduceAdd, Nat.reduceEqDiff, Nat.reduceLT, Nat.reduceLeDiff, Nat.reduceSub, Nat.reduceMul, Nat.reduceBEq, Int.reduceToNat, Int.reduceLE, Int.reduceLT, Int.reducePow]; rfl
                refine AWp.ret ?_
                refine ends_p (vs := ?vs3) (ob := ?ro3) (vs' := ?ws3) (ks := ?ks3) (ob2 := ?rp3) tab_ok (by simp) ?er3 ?eo3 ?ef3 ?eg3 ?en3 ?ek3 ?ev3
                case er3 => simp only [go_sem, kn10, twoK, rightF, boolrow_get, boolrow_len, boolrow_len1, Try.ntmps10, reduceIte, reduceCtorEq, Nat.reduceAdd, Nat.reduceEqDiff, Nat.reduceLT, Nat.reduceLeDiff, Nat.reduceSub, Nat.reduceMul, Nat.reduceBEq, Int.reduceToNat, Int.reduceLE, Int.reduceLT, Int.reducePow, Try.results10]; rfl
                case eo3 => first | exact True.intro | simp only [go_sem, kn10, twoK, rightF, boolrow_get, boolrow_len, boolrow_len1, Try.ntmps10, reduceIte, reduceCtorEq, Nat.reduceAdd, Nat.reduceEqDiff, Nat.reduceLT, Nat.reduceLeDiff, Nat.reduceSub, Nat.reduceMul, Nat.reduceBEq, Int.reduceToNat, Int.reduceLE, Int.reduceLT, Int.reducePow]
                case ef3 => simp only [go_sem, kn10, twoK, rightF, boolrow_get, boolrow_len, boolrow_len1, Try.ntmps10, reduceIte, reduceCtorEq, Nat.reduceAdd, Nat.reduceEqDiff, Nat.reduceLT, Nat.reduceLeDiff, Nat.reduceSub, Nat.reduceMul, Nat.reduceBEq, Int.reduceToNat, Int.reduceLE, Int.reduceLT, Int.reducePow]; rfl
                case eg3 => first | exact True.intro | simp only [go_sem, kn10, twoK, rightF, boolrow_get, boolrow_len, boolrow_len1, Try.ntmps10, reduceIte, reduceCtorEq, Nat.reduceAdd, Nat.reduceEqDiff, Nat.reduceLT, Nat.reduceLeDiff, Nat.reduceSub, Nat.reduceMul, Nat.reduceBEq, Int.reduceToNat, Int.reduceLE, Int.reduceLT, Int.reducePow]
                case en3 => simp only [go_sem, kn10, twoK, rightF, boolrow_get, boolrow_len, boolrow_len1, Try.ntmps10, reduceIte, reduceCtorEq, Nat.reduceAdd, Nat.reduceEqDiff, Nat.reduceLT, Nat.reduceLeDiff, Nat.reduceSub, Nat.reduceMul, Nat.reduceBEq, Int.reduceToNat, Int.reduceLE, Int.reduceLT, Int.reducePow]
                case ek3 => simp only [go_sem, kn10, twoK, rightF, boolrow_get, boolrow_len, boolrow_len1, Try.ntmps10, reduceIte, reduceCtorEq, Nat.reduceAdd, Nat.reduceEqDiff, Nat.reduceLT, Nat.reduceLeDiff, Nat.reduceSub, Nat.reduceMul, Nat.reduceBEq, Int.reduceToNat, Int.reduceLE, Int.reduceLT, Int.reducePow]
                case ev3 =>
                  unfold reqV
                  rw [if_neg]; rfl
                  intro h
                  simp only [reqOk, Bool.and_eq_true] at h
                  simp [h.1.1.2, h.1.2, h.2] at hb6
                  have := h.2; simp at this; omega
              case f28 =>
                intro hb6
                refine AWp.skip ?_
                refine AWp.seq ?_
                refine AWp.reg (S1 := ?S30) (ob := ?o30) (S' := ?K30) tab_ok (knowL_ok kn10_ok) mixed [2, 3] ?r30 ?h30 ?k30 ?w30
                case r30 => simp only [go_sem, kn10, twoK, rightF, boolrow_get, boolrow_len, boolrow_len1, Try.ntmps10, reduceIte, reduceCtorEq, Nat.reduceAdd, Nat.reduceEqDiff, Nat.reduceLT, Nat.reduceLeDiff, Nat.reduceSub, Nat.reduceMul, Nat.reduceBEq, Int.reduceToNat, Int.reduceLE, Int.reduceLT, Int.reducePow]; rfl
                case h30 => first | exact True.intro | omega | (simp only [go_sem, kn10, twoK, rightF, boolrow_get, boolrow_len, boolrow_len1, Try.ntmps10, reduceIte, reduceCtorEq, Nat.reduceAdd, Nat.reduceEqDiff, Nat.reduceLT, Nat.reduceLeDiff, Nat.reduceSub, Nat.reduceMul, Nat.reduceBEq, Int.reduceToNat, Int.reduceLE, Int.reduceLT, Int.reducePow]; done) | (simp only [go_sem, kn10, twoK, rightF, boolrow_get, boolrow_len, boolrow_len1, Try.ntmps10, reduceIte, reduceCtorEq, Nat.reduceAdd, Nat.reduceEqDiff, Nat.reduceLT, Nat.reduceLeDiff, Nat.reduceSub, Nat.reduceMul, Nat.reduceBEq, Int.reduceToNat, Int.reduceLE, Int.reduceLT, Int.reducePow]; omega)
                case k30 => simp only [go_sem, kn10, twoK, rightF, boolrow_get, boolrow_len, boolrow_len1, Try.ntmps10, reduceIte, reduceCtorEq, Nat.reduceAdd, Nat.reduceEqDiff, Nat.reduceLT, Nat.reduceLeDiff, Nat.reduceSub, Nat.reduceMul, Nat.reduceBEq, Int.reduceToNat, Int.reduceLE, Int.reduceLT, Int.reducePow]; rfl
                refine AWp.ret ?_
                refine ends_p (vs := ?vs4) (ob := ?ro4) (vs' := ?ws4) (ks := ?ks4) (ob2 := ?rp4) tab_ok (by simp) ?er4 ?eo4 ?ef4 ?eg4 ?en4 ?ek4 ?ev4
                case er4 => simp only [go_sem, kn10, twoK, rightF, boolrow_get, boolrow_len, boolrow_len1, Try.ntmps10, reduceIte, reduceCtorEq, Nat.reduceAdd, Nat.reduceEqDiff, Nat.reduceLT, Nat.reduceLeDiff, Nat.reduceSub, Nat.reduceMul, Nat.reduceBEq, Int.reduceToNat, Int.reduceLE, Int.reduceLT, Int.reducePow, Try.results10]; rfl
                case eo4 => first | exact True.intro | simp only [go_sem, kn10, twoK, rightF, boolrow_get, boolrow_len, boolrow_len1, Try.ntmps10, reduceIte, reduceCtorEq, Nat.reduceAdd, Nat.reduceEqDiff, Nat.reduceLT, Nat.reduceLeDiff, Nat.reduceSub, Nat.reduceMul, Nat.reduceBEq, Int.reduceToNat, Int.reduceLE, Int.reduceLT, Int.reducePow]
                case ef4 => simp only [go_sem, kn10, twoK, rightF, boolrow_get, boolrow_len, boolrow_len1, Try.ntmps10, reduceIte, reduceCtorEq, Nat.reduceAdd, Nat.reduceEqDiff, Nat.reduceLT, Nat.reduceLeDiff, Nat.reduceSub, Nat.reduceMul, Nat.reduceBEq, Int.reduceToNat, Int.reduceLE, Int.reduceLT, Int.reducePow]; rfl
                case eg4 => first | exact True.intro | simp only [go_sem, kn10, twoK, rightF, boolrow_get, boolrow_len, boolrow_len1, Try.ntmps10, reduceIte, reduceCtorEq, Nat.reduceAdd, Nat.reduceEqDiff, Nat.reduceLT, Nat.reduceLeDiff, Nat.reduceSub, Nat.reduceMul, Nat.reduceBEq, Int.reduceToNat, Int.reduceLE, Int.reduceLT, Int.reducePow]
                case en4 => simp only [go_sem, kn10, twoK, rightF, boolrow_get, boolrow_len, boolrow_len1, Try.ntmps10, reduceIte, reduceCtorEq, Nat.reduceAdd, Nat.reduceEqDiff, Nat.reduceLT, Nat.reduceLeDiff, Nat.reduceSub, Nat.reduceMul, Nat.reduceBEq, Int.reduceToNat, Int.reduceLE, Int.reduceLT, Int.reducePow]
                case ek4 => simp only [go_sem, kn10, twoK, rightF, boolrow_get, boolrow_len, boolrow_len1, Try.ntmps10, reduceIte, reduceCtorEq, Nat.reduceAdd, Nat.reduceEqDiff, Nat.reduceLT, Nat.reduceLeDiff, Nat.reduceSub, Nat.reduceMul, Nat.reduceBEq, Int.reduceToNat, Int.reduceLE, Int.reduceLT, Int.reducePow]
                case ev4 =>
                  unfold reqV
                  rw [if_pos]; rfl
                  simp only [Bool.not_eq_false', Bool.and_eq_true] at hb6
                  simp only [reqOk, Bool.and_eq_true]
                  refine ⟨⟨⟨⟨by simp; omega, ?_⟩, hb6.1.1⟩, hb6.1.2⟩, ?_⟩
                  · rw [List.all_eq_true]; intro f hf; rw [List.take_length] at ht; simpa using ht f hf
                  · have := hb6.2; simp at this ⊢; omega
  · cases hq

end Go.Proofs.Hg
