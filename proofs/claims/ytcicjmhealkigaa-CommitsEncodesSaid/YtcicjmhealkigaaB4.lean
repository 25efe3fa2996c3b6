/- One operation of a region, whatever it is; a region's operations in a row. -/
import Derived.Test.YtcicjmhealkigaaB3
set_option linter.unusedVariables false
set_option linter.unusedSimpArgs false
namespace Go.Proofs.Hg
open Go.RowKit

/-- A state of the abstract machine, written out. -/
structure St where
  env : List (Nat × AVal)
  heap : List (Nat × AObj)
  nxt : Nat

def St.fn (S : St) : StF
  | .t n => match lookN n S.env with
    | some v => .v v
    | none => .none
  | .h n => match lookN n S.heap with
    | some o => .o o
    | none => if S.nxt ≤ n then .free else .none

def eraseN {α : Type} (i : Nat) : List (Nat × α) → List (Nat × α)
  | [] => []
  | (a, b) :: r => if a = i then eraseN i r else (a, b) :: eraseN i r

def wrHeap : List (Nat × Ent) → List (Nat × AObj) → List (Nat × AObj)
  | [], h => h
  | (i, .o o) :: r, h => (i, o) :: eraseN i (wrHeap r h)
  | (i, _) :: r, h => eraseN i (wrHeap r h)

/-- What functions are known to do: a Go function's number, a fresh name, the heap, the arguments. -/
abbrev Know := Nat → Nat → Heap → List AV → Option Res

def CallGives (P : Program) (g : FuncId) (vals : Array Value) (c : Ctx) (φ : Names) (m : Mem) (f : StF) (a : Act) (W : World) (r : Res) : Prop :=
  ∀ (ro : Option Nat) (n : Nat), CallsIn (wideR ro) n P g vals W fun e W' => ∃ φ' m' V, e = .returned V ∧ RelC c φ' m' (wrApp r.wr f) a W' ∧ NamesLe φ φ' ∧ MemLe m m' ∧ r.val.rel φ' m' V

/-- A call that answers at once (a function without a Go body). -/
def CallNow (P : Program) (g : FuncId) (vals : Array Value) (c : Ctx) (φ : Names) (m : Mem) (f : StF) (a : Act) (W : World) (r : Res) : Prop :=
  ∃ φ' m' W' V, (callFunc g vals).run P W = .ok (.value V) W' ∧ RelC c φ' m' (wrApp r.wr f) a W' ∧ NamesLe φ φ' ∧ MemLe m m' ∧ r.val.rel φ' m' V

def KnowOk (P : Program) (K : Know) : Prop :=
  ∀ (g fresh : Nat) (H : Heap) (args : List AV) (r : Res), K g fresh H args = some r → r.ob → ∀ (c : Ctx) (φ : Names) (m : Mem) (f : StF) (a : Act) (W : World) (vals : List Value), r.Reads fresh f → RelC c φ m f a W →
    vals.length = args.length → (∀ (j : Nat) (x : AV), args[j]? = some x → ∃ V : Value, vals[j]? = some V ∧ x.rel φ m V) →
    ((∀ w, (callFunc g vals.toArray).run P w = .ok (.enter g vals.toArray) w) ∧ CallGives P g vals.toArray c φ m f a W r) ∨ CallNow P g vals.toArray c φ m f a W r

def ofVal : Value → Option AVal
  | .bool b => some (.one (dv (.bool b)))
  | .int k n => some (.one (dv (.int k n)))
  | .float k n => some (.one (dv (.float k n)))
  | .complex k x y => some (.one (dv (.complex k x y)))
  | .string s => some (.one (dv (.str s.data.toList)))
  | .pointer none => some (.one (dv .nilp))
  | .slice none 0 0 => some (.one (dv (.slice (some true) 0 [])))
  | .nilFunc => some (.one (dv .nilf))
  | .map none => some (.one (dv .nilm))
  | .nilIface => some (.one (dv .nili))
  | _ => none

theorem ofVal_ok {v : Value} {x : AVal} (h : ofVal v = some x) (φ : Names) (m : Mem) : x.rel φ m v := by
  unfold ofVal at h
  split at h <;> simp only [Option.some.injEq, reduceCtorEq] at h <;> subst h <;> simp [AVal.rel, AV.rel, Sc.rel, D.rel]

def St.opnd (S : St) : Operand → Option AVal
  | .tmp t => lookN t S.env
  | .const v => ofVal v
  | .func f => some (.one (.s (.func f [])))
  | .global _ => none

/-- An operand's value, where the operation's condition holds. -/
def use (gc : Bool) : AVal → Option (AV × Prop)
  | .one x => some (x, True)
  | .opt g x => some (x, gc = true → g = true)
  | _ => none

def arg (S : St) (gc : Bool) (x : Operand) : Option (AV × Prop) := (S.opnd x).bind (use gc)

def withOb (p : Prop) (r : Res) : Res := { r with ob := p ∧ r.ob }

def arg1 (S : St) (gc : Bool) (x : Operand) (k : AV → Option Res) : Option Res :=
  match arg S gc x with
  | some q => (k q.1).map (withOb q.2)
  | none => none
def arg2 (S : St) (gc : Bool) (x y : Operand) (k : AV → AV → Option Res) : Option Res := arg1 S gc x fun u => arg1 S gc y fun v => k u v
def argO (S : St) (gc : Bool) (x : Option Operand) (k : Option AV → Option Res) : Option Res :=
  match x with
  | none => k none
  | some x => arg1 S gc x fun u => k (some u)
def argL (S : St) (gc : Bool) : List Operand → (List AV → Option Res) → Option Res
  | [], k => k []
  | x :: xs, k => arg1 S gc x fun u => argL S gc xs fun us => k (u :: us)

def St.H (S : St) : Heap := fun i => lookN i S.heap

def evBuiltin (T : Tab) (S : St) (ty : TypeId) (b : Builtin) (argTypes : List TypeId) (args : List AV) : Option Res :=
  match b, argTypes, args with
  | .append, [t, u], [x, y] => evAppend T S.nxt S.H t u x y
  | .len, [t], [x] => evLen T t x
  | .min, _, [x, y] => evMin x y
  | .real, _, [x] => evReal x
  | .imag, _, [x] => evImag x
  | .complex, _, [x, y] => evComplex x y
  | .unsafeSliceData, [t], [x] => match lookN ty T with
    | some ⟨.ptr _, _, _, _⟩ => evSliceData T S.H t x
    | _ => none
  | .unsafeString, [pt, _], [x, y] => evUStr T S.H pt x y
  | _, _, _ => none

def evCall (K : Know) (S : St) (g : AV) (args : List AV) : Option Res :=
  match g with
  | .s (.func f caps) => K f S.nxt S.H (args ++ caps.map fun p => .s (.ptr p.1 p.2))
  | _ => none

def evOp (T : Tab) (K : Know) (S : St) (gc : Bool) (ty : TypeId) (op : Op) : Option Res :=
  match op with
  | .move x => (S.opnd x).map fun v => ⟨v, [], false, [], True⟩
  | .assign x => (S.opnd x).map fun v => ⟨v, [], false, [], True⟩
  | .pick c a b => match S.opnd c, S.opnd a, S.opnd b with
    | some x, some y, some z => evPick gc x y z
    | _, _, _ => none
  | .alloc e => evAlloc T S.nxt e
  | .box e x => arg1 S gc x (evBox S.nxt e)
  | .build t ps => argL S gc (ps.toList.map (·.2)) fun us => evBuild T t ((ps.toList.map (·.1)).zip us)
  | .buildSlice t len ps => argL S gc (ps.toList.map (·.2)) fun us => evBuildSlice T S.nxt S.H t len ((ps.toList.map (·.1)).zip us)
  | .load t p => arg1 S gc p (evLoad T S.H t)
  | .store t p v => arg2 S gc p v (evStore T S.H t)
  | .makeSlice t l k => arg2 S gc l k (evMakeSlice T S.nxt t)
  | .nilCheck x => arg1 S gc x evNilCheck
  | .binOp op t x y _ => arg2 S gc x y (evBinOp T op t)
  | .unOp op _ x => arg1 S gc x (evUn op)
  | .convert s d x => arg1 S gc x (evConvert T S.nxt S.H s d)
  | .makeFunc (.func f) first caps => if first.toList.isEmpty then argL S gc caps.toList (evMakeFunc f) else none
  | .slice t x lo hi mx => arg1 S gc x fun u => argO S gc lo fun l => argO S gc hi fun h => argO S gc mx fun k => evSlice T t u l h k
  | .fieldAddr t x fld => arg1 S gc x fun u => evFieldAddr T t u fld
  | .field t x fld => arg1 S gc x fun u => evField T t u fld
  | .indexAddr t x i => arg2 S gc x i (evIndexAddr T t)
  | .index t x i => arg2 S gc x i (evIndex T t)
  | .extract x i => (S.opnd x).bind fun v => evExtract v i
  | .call { callee := .builtin b, args, argTypes } => argL S gc args.toList (evBuiltin T S ty b argTypes.toList)
  | .call { callee := .value g, args, .. } => arg1 S gc g fun u => argL S gc args.toList (evCall K S u)
  | _ => none

/-- The operands of an operation that the step looks at. -/
def opndsOf : Op → List Operand
  | .call { callee := .value g, args, .. } => g :: args.toList
  | .call { callee := .builtin _, args, .. } => args.toList
  | op => op.operands.toList

def preOf (S : St) (xs : List Operand) : List (Key × Ent) :=
  xs.filterMap fun x => match x with
    | .tmp t => (lookN t S.env).map fun v => (Key.t t, Ent.v v)
    | _ => none

/-- What an operation is found to do. -/
def StepOk (P : Program) (o : Oper) (c : Ctx) (φ : Names) (m : Mem) (f : StF) (a : Act) (W : World) (r : Res) : Prop :=
  (∀ d, o.op ≠ .defer d) ∧
  ((∃ φ' m' W', RelC c φ' m' (wrApp r.wr f) a W' ∧ NamesLe φ φ' ∧ MemLe m m' ∧
      ((∃ V, (execOp a.eval o).run P W = .ok (.value V) W' ∧ r.val.rel φ' m' V) ∨ ((execOp a.eval o).run P W = .ok .skip W' ∧ o.dst = none))) ∨
   (∃ g vals, (execOp a.eval o).run P W = .ok (.enter g vals) W ∧ CallGives P g vals c φ m f a W r))

section
variable {P : Program} {c : Ctx} {φ : Names} {m : Mem} {f : StF} {a : Act} {W : World}

theorem stepOk_gives {o : Oper} {s : Sem Value} {r : Res} (hd : ∀ d, o.op ≠ .defer d) (he : execOp a.eval o = (do pure (Next.value (← s)))) (h : Gives P s c φ m f a W r) : StepOk P o c φ m f a W r := by
  obtain ⟨φ', m', W', V, h1, h2, h3, h4, h5⟩ := h
  refine ⟨hd, .inl ⟨φ', m', W', h1, h2, h3, .inl ⟨V, ?_, h5⟩⟩⟩
  rw [he]
  simp [h4]

/-- The state is what the relation speaks of, as far as the operands go. -/
def Sees (S : St) (xs : List Operand) (f : StF) : Prop := ∀ x ∈ xs, ∀ t v, x = .tmp t → lookN t S.env = some v → f (.t t) = .v v

theorem opnd_ok {S : St} {xs : List Operand} (hs : Sees S xs f) (hc : RelC c φ m f a W) {x : Operand} (hx : x ∈ xs) {v : AVal} (h : S.opnd x = some v) : v.rel φ m (a.eval x) := by
  cases x with
  | tmp t =>
    have := hs _ hx t v rfl h
    obtain ⟨V, h1, h2⟩ := hc.env t v this
    simp [Act.eval, h1]
    exact h2
  | const w => exact ofVal_ok h φ m
  | func g =>
    simp only [St.opnd, Option.some.injEq] at h
    subst h
    exact ⟨[], rfl, rfl, fun j i off hj => by simp at hj⟩
  | global g => simp [St.opnd] at h

theorem use_ok {gc : Bool} (hg : gc = true) {x : AVal} {u : AV} {p : Prop} (h : use gc x = some (u, p)) (hp : p) {V : Value} (hx : x.rel φ m V) : u.rel φ m V := by
  unfold use at h
  split at h <;> simp only [Option.some.injEq, Prod.mk.injEq, reduceCtorEq] at h <;> obtain ⟨rfl, rfl⟩ := h
  · exact hx
  · exact hx.1 (hp hg)

theorem arg_ok {S : St} {gc : Bool} (hg : gc = true) {xs : List Operand} (hs : Sees S xs f) (hc : RelC c φ m f a W) {x : Operand} (hx : x ∈ xs) {u : AV} {p : Prop} (h : arg S gc x = some (u, p)) (hp : p) : u.rel φ m (a.eval x) := by
  unfold arg at h
  cases hv : S.opnd x with
  | none => simp [hv] at h
  | some v =>
    simp [hv] at h
    exact use_ok hg h hp (opnd_ok hs hc hx hv)

theorem arg1_ok {S : St} {gc : Bool} (hg : gc = true) {xs : List Operand} (hs : Sees S xs f) (hc : RelC c φ m f a W) {x : Operand} (hx : x ∈ xs) {k : AV → Option Res} {r : Res} (h : arg1 S gc x k = some r) (hob : r.ob) :
    ∃ u r', k u = some r' ∧ r'.ob ∧ u.rel φ m (a.eval x) ∧ r'.val = r.val ∧ r'.rd = r.rd ∧ r'.fr = r.fr ∧ r'.wr = r.wr := by
  unfold arg1 at h
  cases hv : arg S gc x with
  | none => simp [hv] at h
  | some q =>
    simp only [hv, Option.map_eq_some_iff] at h
    obtain ⟨r', h1, rfl⟩ := h
    exact ⟨q.1, r', h1, hob.2, arg_ok hg hs hc hx (p := q.2) hv hob.1, rfl, rfl, rfl, rfl⟩

theorem argL_ok {S : St} {gc : Bool} (hg : gc = true) {xs : List Operand} (hs : Sees S xs f) (hc : RelC c φ m f a W) : ∀ (l : List Operand), (∀ x ∈ l, x ∈ xs) → ∀ {k : List AV → Option Res} {r : Res}, argL S gc l k = some r → r.ob →
    ∃ us r', k us = some r' ∧ r'.ob ∧ us.length = l.length ∧ (∀ (j : Nat) (x : AV), us[j]? = some x → ∃ y, l[j]? = some y ∧ x.rel φ m (a.eval y)) ∧ r'.val = r.val ∧ r'.rd = r.rd ∧ r'.fr = r.fr ∧ r'.wr = r.wr
  | [], _, k, r, h, hob => ⟨[], r, h, hob, rfl, fun j x hj => by simp at hj, rfl, rfl, rfl, rfl⟩
  | x :: l, hx, k, r, h, hob => by
    obtain ⟨u, r', h1, h2, h3, e1, e2, e3, e4⟩ := arg1_ok hg hs hc (hx x (List.mem_cons_self ..)) h hob
    obtain ⟨us, r2, g1, g2, g3, g4, f1, f2, f3, f4⟩ := argL_ok hg hs hc l (fun y hy => hx y (List.mem_cons_of_mem _ hy)) h1 h2
    refine ⟨u :: us, r2, g1, g2, by simp [g3], fun j y hj => ?_, f1.trans e1, f2.trans e2, f3.trans e3, f4.trans e4⟩
    cases j with
    | zero => simp at hj; subst hj; exact ⟨x, rfl, h3⟩
    | succ j => simpa using g4 j y (by simpa using hj)

theorem argO_ok {S : St} {gc : Bool} (hg : gc = true) {xs : List Operand} (hs : Sees S xs f) (hc : RelC c φ m f a W) {x : Option Operand} (hx : ∀ y, x = some y → y ∈ xs) {k : Option AV → Option Res} {r : Res} (h : argO S gc x k = some r) (hob : r.ob) :
    ∃ u r', k u = some r' ∧ r'.ob ∧ optRel φ m u (x.map a.eval) ∧ r'.val = r.val ∧ r'.rd = r.rd ∧ r'.fr = r.fr ∧ r'.wr = r.wr := by
  cases x with
  | none => exact ⟨none, r, h, hob, trivial, rfl, rfl, rfl, rfl⟩
  | some x =>
    obtain ⟨u, r', h1, h2, h3, e⟩ := arg1_ok hg hs hc (hx x rfl) (k := fun u => k (some u)) h hob
    exact ⟨some u, r', h1, h2, h3, e⟩

end
end Go.Proofs.Hg
