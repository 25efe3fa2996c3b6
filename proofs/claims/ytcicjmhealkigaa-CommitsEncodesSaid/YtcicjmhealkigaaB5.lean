/- Every operation that the abstract machine takes is one that the model carries out so. -/
import Derived.Test.YtcicjmhealkigaaB4
set_option linter.unusedVariables false
set_option linter.unusedSimpArgs false
namespace Go.Proofs.Hg
open Go.RowKit

section
variable {P : Program} {c : Ctx} {φ : Names} {m : Mem} {f : StF} {a : Act} {W : World}

theorem gives_re {s : Sem Value} {r r' : Res} (h : Gives P s c φ m f a W r') (e1 : r'.val = r.val) (e4 : r'.wr = r.wr) : Gives P s c φ m f a W r := by
  obtain ⟨φ', m', W', V, h1, h2, h3, h4, h5⟩ := h
  exact ⟨φ', m', W', V, e4 ▸ h1, h2, h3, h4, e1 ▸ h5⟩

theorem reads_re {r r' : Res} {fr : Nat} (h : r.Reads fr f) (e2 : r'.rd = r.rd) (e3 : r'.fr = r.fr) : r'.Reads fr f := ⟨fun p hp => h.1 p (e2 ▸ hp), fun hf => h.2 (e3 ▸ hf)⟩

theorem callGives_re {g : FuncId} {vals : Array Value} {r r' : Res} (h : CallGives P g vals c φ m f a W r') (e1 : r'.val = r.val) (e4 : r'.wr = r.wr) : CallGives P g vals c φ m f a W r := by
  intro ro n
  refine (h ro n).mono ?_
  rintro e W' ⟨φ', m', V, h1, h2, h3, h4, h5⟩
  exact ⟨φ', m', V, h1, e4 ▸ h2, h3, h4, e1 ▸ h5⟩

theorem opndsOf_eq {op : Op} (h : ∀ c, op ≠ .call c) : opndsOf op = op.operands.toList := by
  cases op <;> first | rfl | exact absurd rfl (h _)

theorem zip_parts {ps : List (Nat × Operand)} {us : List AV} (hl : us.length = (ps.map (·.2)).length) (hu : ∀ (j : Nat) (x : AV), us[j]? = some x → ∃ y, (ps.map (·.2))[j]? = some y ∧ x.rel φ m (a.eval y)) :
    (ps.map fun p => (p.1, a.eval p.2)).length = ((ps.map (·.1)).zip us).length ∧
    ∀ (j : Nat) (p : Nat × AV), ((ps.map (·.1)).zip us)[j]? = some p → ∃ V : Value, (ps.map fun p => (p.1, a.eval p.2))[j]? = some (p.1, V) ∧ p.2.rel φ m V := by
  refine ⟨by simp at hl ⊢; omega, fun j p hj => ?_⟩
  rw [List.getElem?_zip_eq_some] at hj
  obtain ⟨h1, h2⟩ := hj
  obtain ⟨y, h3, h4⟩ := hu j p.2 h2
  rw [List.getElem?_map] at h1 h3
  cases hp : ps[j]? with
  | none => simp [hp] at h1
  | some q =>
    simp [hp] at h1 h3
    exact ⟨a.eval q.2, by simp [hp, h1], h3 ▸ h4⟩

theorem eqGuard_plain {b : BinOp} {t : TypeId} {x y : Operand} {X Y : Value} (h1 : ∀ xs ys, ¬ (X = .agg xs ∧ Y = .agg ys)) (h2 : ¬ (X = .nilIface ∧ Y = .nilIface)) : (eqGuard b t x y X Y).run P W = .ok () W := by
  cases b <;> first | rfl | (cases X <;> cases Y <;> first | rfl | exact absurd ⟨rfl, rfl⟩ h2 | exact absurd ⟨rfl, rfl⟩ (h1 _ _))

theorem evBinOp_nili (T : Tab) (op : BinOp) (t : TypeId) (x : Sc) : evBinOp T op t (.s x) (.s (.d .nili)) = none := by
  have h0 : evBinOp T op t (.s x) (.s (.d .nili)) = (match lookN t T with
    | some ⟨.bool, _, _, _⟩ => none
    | some ⟨.ptr _, _, _, _⟩ => none
    | some ⟨.slice _, _, _, _⟩ => none
    | _ => none) := by
    have hb : evBinD op x .nili = none := by
      cases x <;> try rfl
      rename_i d
      cases d <;> rfl
    cases x <;> (simp only [evBinOp, hb, litP, litS, Bool.false_eq_true, if_false]; (repeat' split) <;> first | rfl | simp_all)
  rw [h0]
  (repeat' split) <;> rfl

theorem evOp_ok {T : Tab} (hT : TabOk P T) {K : Know} (hK : KnowOk P K) {S : St} {gc : Bool} (hg : gc = true) {o : Oper} {r : Res} (h : evOp T K S gc o.type o.op = some r) (hob : r.ob) (hrd : r.Reads S.nxt f)
    (hs : Sees S (opndsOf o.op) f) (hc : RelC c φ m f a W) (hdst : (∃ t p v, o.op = .store t p v) → o.dst = none) : StepOk P o c φ m f a W r := by
  obtain ⟨dst, op, type, pos, after, guard⟩ := o
  simp only at h hs hdst
  cases op <;> simp only [evOp, reduceCtorEq] at h
  case move x =>
    cases hv : S.opnd x with
    | none => simp [hv] at h
    | some v =>
      simp [hv] at h
      subst h
      exact stepOk_gives (s := pure (a.eval x)) (by simp) rfl ⟨φ, m, W, _, hc, NamesLe.refl φ, MemLe.refl m, rfl, opnd_ok hs hc (by simp [opndsOf, Op.operands]) hv⟩
  case assign x =>
    cases hv : S.opnd x with
    | none => simp [hv] at h
    | some v =>
      simp [hv] at h
      subst h
      exact stepOk_gives (s := pure (a.eval x)) (by simp) rfl ⟨φ, m, W, _, hc, NamesLe.refl φ, MemLe.refl m, rfl, opnd_ok hs hc (by simp [opndsOf, Op.operands]) hv⟩
  case pick x y z =>
    split at h
    · rename_i u v w h1 h2 h3
      have hx := opnd_ok hs hc (x := x) (by simp [opndsOf, Op.operands]) h1
      have hy := opnd_ok hs hc (x := y) (by simp [opndsOf, Op.operands]) h2
      have hz := opnd_ok hs hc (x := z) (by simp [opndsOf, Op.operands]) h3
      have hgv := evPick_ok (P := P) hg h hob hc hx hy hz
      refine stepOk_gives (by simp) ?_ hgv
      simp only [execOp]
      cases hb : a.eval x <;> simp [asBool] <;> rfl
    · cases h
  case alloc e => exact stepOk_gives (by simp) rfl (evAlloc_ok hT h hrd hc)
  case box e x =>
    obtain ⟨u, r', h1, h2, h3, e1, e2, e3, e4⟩ := arg1_ok hg hs hc (by simp [opndsOf, Op.operands]) h hob
    exact stepOk_gives (by simp) rfl (gives_re (evBox_ok h1 (reads_re hrd e2 e3) hc h3) e1 e4)
  case build t ps =>
    obtain ⟨us, r', h1, h2, h3, h4, e1, e2, e3, e4⟩ := argL_ok hg hs hc _ (fun x hx => by simpa [opndsOf, Op.operands] using hx) h hob
    obtain ⟨z1, z2⟩ := zip_parts h3 h4
    refine stepOk_gives (by simp) ?_ (gives_re (evBuild_ok hT h1 h2 hc z1 z2) e1 e4)
    simp only [execOp]
    congr 2
    apply Array.ext'
    simp
  case buildSlice t len ps =>
    obtain ⟨us, r', h1, h2, h3, h4, e1, e2, e3, e4⟩ := argL_ok hg hs hc _ (fun x hx => by simpa [opndsOf, Op.operands] using hx) h hob
    obtain ⟨z1, z2⟩ := zip_parts h3 h4
    refine stepOk_gives (by simp) ?_ (gives_re (evBuildSlice_ok hT h1 h2 (reads_re hrd e2 e3) hc z1 z2) e1 e4)
    simp only [execOp]
    congr 2
    apply Array.ext'
    simp
  case load t p =>
    obtain ⟨u, r', h1, h2, h3, e1, e2, e3, e4⟩ := arg1_ok hg hs hc (by simp [opndsOf, Op.operands]) h hob
    exact stepOk_gives (by simp) rfl (gives_re (evLoad_ok hT h1 h2 (reads_re hrd e2 e3) hc h3) e1 e4)
  case store t p v =>
    obtain ⟨u, r1, h1, h2, h3, e1, e2, e3, e4⟩ := arg1_ok hg hs hc (by simp [opndsOf, Op.operands]) h hob
    obtain ⟨u2, r2, g1, g2, g3, d1, d2, d3, d4⟩ := arg1_ok hg hs hc (by simp [opndsOf, Op.operands]) h1 h2
    obtain ⟨φ', m', W', k1, k2, k3, k4, k5⟩ := evStore_ok (P := P) hT g1 g2 (reads_re hrd (d2.trans e2) (d3.trans e3)) hc h3 g3
    refine ⟨by simp, .inl ⟨φ', m', W', (d4.trans e4) ▸ k1, k2, k3, .inr ⟨?_, hdst ⟨t, p, v, rfl⟩⟩⟩⟩
    simp only [execOp, Sem.run_bind, k4, Result.andThen]
    rfl
  case makeSlice t l k =>
    obtain ⟨u, r1, h1, h2, h3, e1, e2, e3, e4⟩ := arg1_ok hg hs hc (by simp [opndsOf, Op.operands]) h hob
    obtain ⟨u2, r2, g1, g2, g3, d1, d2, d3, d4⟩ := arg1_ok hg hs hc (by simp [opndsOf, Op.operands]) h1 h2
    exact stepOk_gives (by simp) rfl (gives_re (evMakeSlice_ok hT g1 g2 (reads_re hrd (d2.trans e2) (d3.trans e3)) hc h3 g3) (d1.trans e1) (d4.trans e4))
  case nilCheck x =>
    obtain ⟨u, r', h1, h2, h3, e1, e2, e3, e4⟩ := arg1_ok hg hs hc (by simp [opndsOf, Op.operands]) h hob
    obtain ⟨k1, k2⟩ := evNilCheck_ok (P := P) (W := W) h1 h3
    subst k1
    refine ⟨by simp, .inl ⟨φ, m, W, ?_, NamesLe.refl φ, MemLe.refl m, .inl ⟨a.eval x, k2, ?_⟩⟩⟩
    · rw [← e4]; exact hc
    · rw [← e1]; exact h3
  case binOp b t x y ty =>
    obtain ⟨u, r1, h1, h2, h3, e1, e2, e3, e4⟩ := arg1_ok hg hs hc (by simp [opndsOf, Op.operands]) h hob
    obtain ⟨u2, r2, g1, g2, g3, d1, d2, d3, d4⟩ := arg1_ok hg hs hc (by simp [opndsOf, Op.operands]) h1 h2
    have hgv := evBinOp_ok (P := P) hT g1 g2 hc h3 g3
    refine stepOk_gives (s := (do eqGuard b t x y (a.eval x) (a.eval y); binOp b t (a.eval x) (a.eval y))) (by simp) rfl (gives_re ?_ (d1.trans e1) (d4.trans e4))
    obtain ⟨φ', m', W', V, k1, k2, k3, k4, k5⟩ := hgv
    refine ⟨φ', m', W', V, k1, k2, k3, ?_, k5⟩
    have heq : (eqGuard b t x y (a.eval x) (a.eval y)).run P W = .ok () W := by
      have g0 := g1
      unfold evBinOp at g1
      split at g1
      · obtain ⟨_, _, _, _, hy⟩ := g3
        refine eqGuard_plain ?_ ?_
        · rintro xs ys ⟨_, h9⟩
          rw [h9] at hy
          cases hy
        · rintro ⟨_, h9⟩
          rw [h9] at hy
          cases hy
      · split at g1
        · rename_i fs _ _ _ ht
          obtain ⟨vs, hX, _⟩ := h3
          obtain ⟨us, hY, _⟩ := g3
          have hext := (hT.at ht).ext
          simp only [extraOk, Bool.and_eq_true, Bool.not_eq_true'] at hext
          rw [hX, hY]
          exact run_eqGuard_agg W b t x y _ _ hext.2.1.2
        · cases g1
      · rename_i p q
        change q.rel m _ at g3
        refine eqGuard_plain ?_ ?_
        · rintro xs ys ⟨_, hy⟩
          rw [hy] at g3
          cases q <;> simp [D.rel] at g3
        · rintro ⟨hx9, hy⟩
          rw [hy] at g3
          cases q <;> simp [D.rel] at g3
          rw [evBinOp_nili] at g0
          cases g0
      · cases g1
    simp only [Sem.run_bind, heq, Result.andThen, k4]
  case unOp b t x =>
    obtain ⟨u, r', h1, h2, h3, e1, e2, e3, e4⟩ := arg1_ok hg hs hc (by simp [opndsOf, Op.operands]) h hob
    exact stepOk_gives (by simp) rfl (gives_re (evUn_ok h1 h2 hc h3) e1 e4)
  case convert s d x =>
    obtain ⟨u, r', h1, h2, h3, e1, e2, e3, e4⟩ := arg1_ok hg hs hc (by simp [opndsOf, Op.operands]) h hob
    exact stepOk_gives (by simp) rfl (gives_re (evConvert_ok hT h1 h2 (reads_re hrd e2 e3) hc h3) e1 e4)
  case makeFunc fn first caps =>
    cases fn <;> simp only [reduceCtorEq] at h
    rename_i g
    split at h
    · rename_i hfi
      obtain ⟨us, r', h1, h2, h3, h4, e1, e2, e3, e4⟩ := argL_ok hg hs hc _ (fun x hx => by simp [opndsOf, Op.operands]; exact .inr (by simpa using hx)) h hob
      have hf0 : first = #[] := by
        have : first.toList = [] := by simpa using hfi
        simpa using this
      subst hf0
      refine stepOk_gives (s := Instr.makeFunc (.func g) #[] (caps.toList.map a.eval).toArray) (by simp) ?_ (gives_re (evMakeFunc_ok h1 hc (by simp [h3]) (fun j x hj => ?_)) e1 e4)
      · have hm : caps.map a.eval = (caps.toList.map a.eval).toArray := by apply Array.ext'; simp
        have h0 : (#[] : Array Operand).map a.eval = #[] := by simp
        simp only [execOp, hm, h0]
      · obtain ⟨y, hy1, hy2⟩ := h4 j x hj
        exact ⟨a.eval y, by rw [List.getElem?_map, hy1]; rfl, hy2⟩
    · cases h
  case slice t x lo hi mx =>
    obtain ⟨u, r1, h1, h2, h3, e1, e2, e3, e4⟩ := arg1_ok hg hs hc (by simp [opndsOf, Op.operands]) h hob
    obtain ⟨u2, r2, g1, g2, g3, d1, d2, d3, d4⟩ := argO_ok hg hs hc (fun y hy => by subst hy; simp [opndsOf, Op.operands]) h1 h2
    obtain ⟨u3, r3, i1, i2, i3, b1, b2, b3, b4⟩ := argO_ok hg hs hc (fun y hy => by subst hy; simp [opndsOf, Op.operands]) g1 g2
    obtain ⟨u4, r4, j1, j2, j3, c1, c2, c3, c4⟩ := argO_ok hg hs hc (fun y hy => by subst hy; simp [opndsOf, Op.operands]) i1 i2
    exact stepOk_gives (by simp) rfl (gives_re (evSlice_ok hT j1 j2 hc h3 g3 i3 j3) (c1.trans (b1.trans (d1.trans e1))) (c4.trans (b4.trans (d4.trans e4))))
  case fieldAddr t x fld =>
    obtain ⟨u, r', h1, h2, h3, e1, e2, e3, e4⟩ := arg1_ok hg hs hc (by simp [opndsOf, Op.operands]) h hob
    exact stepOk_gives (by simp) rfl (gives_re (evFieldAddr_ok hT h1 hc h3) e1 e4)
  case field t x fld =>
    obtain ⟨u, r', h1, h2, h3, e1, e2, e3, e4⟩ := arg1_ok hg hs hc (by simp [opndsOf, Op.operands]) h hob
    exact stepOk_gives (by simp) rfl (gives_re (evField_ok hT h1 h2 hc h3) e1 e4)
  case indexAddr t x i =>
    obtain ⟨u, r1, h1, h2, h3, e1, e2, e3, e4⟩ := arg1_ok hg hs hc (by simp [opndsOf, Op.operands]) h hob
    obtain ⟨u2, r2, g1, g2, g3, d1, d2, d3, d4⟩ := arg1_ok hg hs hc (by simp [opndsOf, Op.operands]) h1 h2
    exact stepOk_gives (by simp) rfl (gives_re (evIndexAddr_ok hT g1 g2 hc h3 g3) (d1.trans e1) (d4.trans e4))
  case index t x i =>
    obtain ⟨u, r1, h1, h2, h3, e1, e2, e3, e4⟩ := arg1_ok hg hs hc (by simp [opndsOf, Op.operands]) h hob
    obtain ⟨u2, r2, g1, g2, g3, d1, d2, d3, d4⟩ := arg1_ok hg hs hc (by simp [opndsOf, Op.operands]) h1 h2
    exact stepOk_gives (by simp) rfl (gives_re (evIndex_ok hT g1 g2 hc h3 g3) (d1.trans e1) (d4.trans e4))
  case extract x i =>
    cases hv : S.opnd x with
    | none => simp [hv] at h
    | some v =>
      simp [hv] at h
      exact stepOk_gives (by simp) rfl (evExtract_ok h hc (opnd_ok hs hc (by simp [opndsOf, Op.operands]) hv))
  case call cl =>
    obtain ⟨callee, args, argTypes⟩ := cl
    cases callee <;> simp only [reduceCtorEq] at h
    case builtin b =>
      obtain ⟨us, r', h1, h2, h3, h4, e1, e2, e3, e4⟩ := argL_ok hg hs hc _ (fun x hx => by simpa [opndsOf] using hx) h hob
      have hargs : args.map a.eval = (args.toList.map a.eval).toArray := by apply Array.ext'; simp
      unfold evBuiltin at h1
      split at h1
      · rename_i t u x y hat
        obtain ⟨y1, hy1, hy2⟩ := h4 0 x rfl
        obtain ⟨y2, hz1, hz2⟩ := h4 1 y rfl
        have hl : args.toList = [y1, y2] := by
          match hq : args.toList, h3, hy1, hz1 with
          | [p, q], _, hy1, hz1 => simp [hq] at hy1 hz1; rw [hy1, hz1]
        have hat' : argTypes = #[t, u] := by rw [← Array.toArray_toList (xs := argTypes), hat]
        refine stepOk_gives (s := Builtin.append_ #[t, u] type #[a.eval y1, a.eval y2]) (by simp) ?_ (gives_re (evAppend_ok hT h1 h2 (reads_re hrd e2 e3) hc hy2 hz2) e1 e4)
        simp only [execOp, resolve, hargs, hl, hat']
        rfl
      · rename_i t x hat
        obtain ⟨y1, hy1, hy2⟩ := h4 0 x rfl
        have hl : args.toList = [y1] := by
          match hq : args.toList, h3, hy1 with
          | [p], _, hy1 => simp [hq] at hy1; rw [hy1]
        have hat' : argTypes = #[t] := by rw [← Array.toArray_toList (xs := argTypes), hat]
        refine stepOk_gives (s := Builtin.len_ #[t] type #[a.eval y1]) (by simp) ?_ (gives_re (evLen_ok hT h1 hc hy2) e1 e4)
        simp only [execOp, resolve, hargs, hl, hat']
        rfl
      · rename_i x y
        obtain ⟨y1, hy1, hy2⟩ := h4 0 x rfl
        obtain ⟨y2, hz1, hz2⟩ := h4 1 y rfl
        have hl : args.toList = [y1, y2] := by
          match hq : args.toList, h3, hy1, hz1 with
          | [p, q], _, hy1, hz1 => simp [hq] at hy1 hz1; rw [hy1, hz1]
        refine stepOk_gives (s := Builtin.min_ argTypes type #[a.eval y1, a.eval y2]) (by simp) ?_ (gives_re (evMin_ok h1 hc hy2 hz2 _ _) e1 e4)
        simp only [execOp, resolve, hargs, hl]
        rfl
      · rename_i x
        obtain ⟨y1, hy1, hy2⟩ := h4 0 x rfl
        have hl : args.toList = [y1] := by
          match hq : args.toList, h3, hy1 with
          | [p], _, hy1 => simp [hq] at hy1; rw [hy1]
        refine stepOk_gives (s := Builtin.real_ argTypes type #[a.eval y1]) (by simp) ?_ (gives_re (evReal_ok h1 hc hy2 _ _) e1 e4)
        simp only [execOp, resolve, hargs, hl]
        rfl
      · rename_i x
        obtain ⟨y1, hy1, hy2⟩ := h4 0 x rfl
        have hl : args.toList = [y1] := by
          match hq : args.toList, h3, hy1 with
          | [p], _, hy1 => simp [hq] at hy1; rw [hy1]
        refine stepOk_gives (s := Builtin.imag_ argTypes type #[a.eval y1]) (by simp) ?_ (gives_re (evImag_ok h1 hc hy2 _ _) e1 e4)
        simp only [execOp, resolve, hargs, hl]
        rfl
      · rename_i x y
        obtain ⟨y1, hy1, hy2⟩ := h4 0 x rfl
        obtain ⟨y2, hz1, hz2⟩ := h4 1 y rfl
        have hl : args.toList = [y1, y2] := by
          match hq : args.toList, h3, hy1, hz1 with
          | [p, q], _, hy1, hz1 => simp [hq] at hy1 hz1; rw [hy1, hz1]
        refine stepOk_gives (s := Builtin.complex_ argTypes type #[a.eval y1, a.eval y2]) (by simp) ?_ (gives_re (evComplex_ok h1 hc hy2 hz2 _ _) e1 e4)
        simp only [execOp, resolve, hargs, hl]
        rfl
      · rename_i t x hat
        obtain ⟨y1, hy1, hy2⟩ := h4 0 x rfl
        have hl : args.toList = [y1] := by
          match hq : args.toList, h3, hy1 with
          | [p], _, hy1 => simp [hq] at hy1; rw [hy1]
        have hat' : argTypes = #[t] := by rw [← Array.toArray_toList (xs := argTypes), hat]
        split at h1
        · rename_i eb _ _ _ hty
          refine stepOk_gives (s := Builtin.unsafeSliceData_ #[t] type #[a.eval y1]) (by simp) ?_ (gives_re (evSliceData_ok hT ((hT.at hty).desc (d := .pointer eb) (fun d' hd => kindOf_ptr hd)) h1 (reads_re hrd e2 e3) hc hy2) e1 e4)
          simp only [execOp, resolve, hargs, hl, hat']
          rfl
        · cases h1
      · rename_i pt it x y hat
        obtain ⟨y1, hy1, hy2⟩ := h4 0 x rfl
        obtain ⟨y2, hz1, hz2⟩ := h4 1 y rfl
        have hl : args.toList = [y1, y2] := by
          match hq : args.toList, h3, hy1, hz1 with
          | [p, q], _, hy1, hz1 => simp [hq] at hy1 hz1; rw [hy1, hz1]
        have hat' : argTypes = #[pt, it] := by rw [← Array.toArray_toList (xs := argTypes), hat]
        refine stepOk_gives (s := Builtin.unsafeString_ #[pt, it] type #[a.eval y1, a.eval y2]) (by simp) ?_ (gives_re (evUStr_ok hT h1 h2 (reads_re hrd e2 e3) hc hy2 hz2) e1 e4)
        simp only [execOp, resolve, hargs, hl, hat']
        rfl
      · cases h1
    case value g =>
      obtain ⟨u, r1, h1, h2, h3, e1, e2, e3, e4⟩ := arg1_ok hg hs hc (x := g) (by simp [opndsOf]) h hob
      obtain ⟨us, r2, g1, g2, g3, g4, d1, d2, d3, d4⟩ := argL_ok hg hs hc _ (fun x hx => by simp only [opndsOf, List.mem_cons]; exact .inr hx) h1 h2
      unfold evCall at g1
      have hasz : args.toList.length = args.size := by simp
      split at g1
      · rename_i fn caps
        obtain ⟨vs, hv, hvl, hvc⟩ := h3
        have hcall := hK fn S.nxt S.H _ r2 g1 g2 c φ m f a W (args.toList.map a.eval ++ vs) (reads_re hrd (d2.trans e2) (d3.trans e3)) hc (by simp [g3, hvl]) (fun j x hj => by
          rw [List.getElem?_append] at hj
          split at hj
          · rename_i hjl
            obtain ⟨y, hy1, hy2⟩ := g4 j x hj
            refine ⟨a.eval y, ?_, hy2⟩
            rw [List.getElem?_append_left (by simp; omega), List.getElem?_map, hy1]
            rfl
          · rename_i hjl
            rw [List.getElem?_map] at hj
            cases hcap : caps[j - us.length]? with
            | none => simp [hcap] at hj
            | some p =>
              simp [hcap] at hj
              subst hj
              obtain ⟨b, C, e, hb, hvj⟩ := hvc (j - us.length) p.1 p.2 (by simpa using hcap)
              refine ⟨_, ?_, b, C, e, hb, rfl⟩
              rw [List.getElem?_append_right (by simp; omega)]
              simp only [List.length_map]
              rw [← g3]
              exact hvj)
        have hargs : args.map a.eval = (args.toList.map a.eval).toArray := by apply Array.ext'; simp
        have hex : ∀ w, (execOp a.eval ⟨dst, .call { callee := .value g, args, argTypes }, type, pos, after, guard⟩).run P w = (callFunc fn (args.toList.map a.eval ++ vs).toArray).run P w := by
          intro w
          simp only [execOp, resolve, Deferred.ofValue, hv, hargs, Sem.run_bind, Sem.run_pure, Result.andThen, invoke, List.append_toArray, List.nil_append, Array.empty_append]
        rcases hcall with ⟨k1, k2⟩ | ⟨φ', m', W', V, k1, k2, k3, k4, k5⟩
        · exact ⟨by simp, .inr ⟨fn, _, (hex W).trans (k1 W), callGives_re k2 (d1.trans e1) (d4.trans e4)⟩⟩
        · exact ⟨by simp, .inl ⟨φ', m', W', (d4.trans e4) ▸ k2, k3, k4, .inl ⟨V, (hex W).trans k1, (d1.trans e1) ▸ k5⟩⟩⟩
      · cases g1

end
end Go.Proofs.Hg
