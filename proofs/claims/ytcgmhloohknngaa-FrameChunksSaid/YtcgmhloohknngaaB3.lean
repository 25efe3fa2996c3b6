/- Small operations: tests of nil, function values, parts of tuples, builtins on numbers. -/
import Derived.Test.YtcgmhloohknngaaB2
set_option linter.unusedVariables false
set_option linter.unusedSimpArgs false
namespace Go.Proofs.Hg
open Go.RowKit

section
variable {P : Program} {c : Ctx} {φ : Names} {m : Mem} {f : StF} {a : Act} {W : World}

def evNilCheck (x : AV) : Option Res :=
  match x with
  | .s (.ptr i off) => some (valRes x True)
  | .s (.eptr i k fo) => some (valRes x True)
  | .s (.d (.ptr cs)) => some (valRes x True)
  | .s (.func f caps) => some (valRes x True)
  | .s (.yield l) => some (valRes x True)
  | _ => none

/-- What nilCheck hands on. -/
def nilSem (v : Value) : Sem Next :=
  match v with
  | .pointer none | .nilIface | .nilFunc => runtimePanic .nilDeref
  | .func (.method name) first captured =>
    match (first[0]? : Option Value) with
    | some .nilIface => runtimePanic .nilDeref
    | some (.iface t w) => do
      if (← nilAhead ((← program).types.size + Made.depth) t w name) != some false then
        unsupported (.noEntry "op/nilCheck.the method's receiver behind this interface value is a nil pointer, or cannot be seen to be none, and the arguments act or may panic (ledger 612)")
      pure (.value (.func (.method name) first captured))
    | _ => pure (.value (.func (.method name) first captured))
  | x => pure (.value x)

theorem evNilCheck_ok {x : AV} {r : Res} (h : evNilCheck x = some r) {V : Value} (hx : x.rel φ m V) : r = valRes x True ∧ (nilSem V).run P W = .ok (.value V) W := by
  unfold evNilCheck at h
  split at h <;> simp only [Option.some.injEq, reduceCtorEq] at h <;> refine ⟨h.symm, ?_⟩
  · obtain ⟨b, C, e, _, rfl⟩ := hx; rfl
  · obtain ⟨b, C, e, _, rfl⟩ := hx; rfl
  · simp only [AV.rel, Sc.rel, D.rel] at hx; obtain ⟨b, o, rfl, _⟩ := hx; rfl
  · obtain ⟨vs, rfl, _⟩ := hx; rfl
  · obtain ⟨b, C, e, _, rfl⟩ := hx; rfl

def capsOf : List AV → Option (List (Nat × Nat))
  | [] => some []
  | .s (.ptr i off) :: r => (capsOf r).map ((i, off) :: ·)
  | _ :: _ => none

def evMakeFunc (f : FuncId) (caps : List AV) : Option Res := (capsOf caps).map fun l => valRes (.s (.func f l)) True

theorem capsOf_ok : ∀ (xs : List AV) (l : List (Nat × Nat)), capsOf xs = some l → l.length = xs.length ∧ ∀ (j i off : Nat), l[j]? = some (i, off) → xs[j]? = some (.s (.ptr i off))
  | [], l, h => by simp [capsOf] at h; subst h; exact ⟨rfl, fun j i off hj => by simp at hj⟩
  | .s (.ptr i off) :: r, l, h => by
    simp only [capsOf, Option.map_eq_some_iff] at h
    obtain ⟨l', h1, rfl⟩ := h
    obtain ⟨h2, h3⟩ := capsOf_ok r l' h1
    refine ⟨by simp [h2], fun j i' off' hj => ?_⟩
    cases j with
    | zero => simp at hj; obtain ⟨rfl, rfl⟩ := hj; rfl
    | succ j => simpa using h3 j i' off' (by simpa using hj)
  | .s (.d _) :: _, _, h => by simp [capsOf] at h
  | .s (.eptr _ _ _) :: _, _, h => by simp [capsOf] at h
  | .s (.row _ _ _ _ _) :: _, _, h => by simp [capsOf] at h
  | .s (.func _ _) :: _, _, h => by simp [capsOf] at h
  | .s (.yield _) :: _, _, h => by simp [capsOf] at h
  | .s (.map _) :: _, _, h => by simp [capsOf] at h
  | .s .junk :: _, _, h => by simp [capsOf] at h
  | .agg _ :: _, _, h => by simp [capsOf] at h

theorem evMakeFunc_ok {fn : FuncId} {xs : List AV} {r : Res} (h : evMakeFunc fn xs = some r) (hc : RelC c φ m f a W) {vs : List Value} (hl : vs.length = xs.length)
    (hv : ∀ (j : Nat) (x : AV), xs[j]? = some x → ∃ V : Value, vs[j]? = some V ∧ x.rel φ m V) : Gives P (Instr.makeFunc (.func fn) #[] vs.toArray) c φ m f a W r := by
  unfold evMakeFunc at h
  cases hcap : capsOf xs with
  | none => simp [hcap] at h
  | some l =>
    simp [hcap] at h
    subst h
    obtain ⟨h1, h2⟩ := capsOf_ok xs l hcap
    refine gives_val hc (V := .func (.func fn) #[] vs.toArray) rfl ?_
    refine ⟨vs, rfl, by omega, fun j i off hj => ?_⟩
    obtain ⟨V, h3, b, C, e, h4, rfl⟩ := hv j _ (h2 j i off hj)
    exact ⟨b, C, e, h4, h3⟩

def evExtract (x : AVal) (i : Nat) : Option Res :=
  match x with
  | .tup xs => (xs[i]?).map fun y => valRes y True
  | _ => none

theorem evExtract_ok {x : AVal} {i : Nat} {r : Res} (h : evExtract x i = some r) (hc : RelC c φ m f a W) {V : Value} (hx : x.rel φ m V) : Gives P (Instr.extract V i) c φ m f a W r := by
  unfold evExtract at h
  split at h
  · rename_i xs
    obtain ⟨vs, rfl, hl, hv⟩ := hx
    cases hxi : xs[i]? with
    | none => simp [hxi] at h
    | some y =>
      simp [hxi] at h
      subst h
      obtain ⟨v, h1, h2⟩ := hv i y hxi
      exact gives_val hc (V := v) (by simp [Instr.extract, h1]) h2
  · cases h

def evMin (x y : AV) : Option Res :=
  match x, y with
  | .s (.d (.int k a)), .s (.d (.int k' b)) => some (valRes (dv (.int k (if b < a then b else a))) True)
  | _, _ => none

theorem evMin_ok {x y : AV} {r : Res} (h : evMin x y = some r) (hc : RelC c φ m f a W) {X Y : Value} (hx : x.rel φ m X) (hy : y.rel φ m Y) (ts : Array TypeId) (ty : TypeId) : Gives P (Builtin.min_ ts ty #[X, Y]) c φ m f a W r := by
  unfold evMin at h
  split at h
  · rename_i k p k' q
    injection h with h
    subst h
    simp only [AV.rel, Sc.rel, D.rel] at hx hy
    subst hx; subst hy
    exact gives_val hc (V := .int k (if q < p then q else p)) (by simp [Builtin.min_, Builtin.min2]) (by simp [AV.rel, Sc.rel, D.rel])
  · cases h

def evReal (x : AV) : Option Res := match x with | .s (.d (.complex k a b)) => some (valRes (dv (.float k a)) True) | _ => none
def evImag (x : AV) : Option Res := match x with | .s (.d (.complex k a b)) => some (valRes (dv (.float k b)) True) | _ => none
def evComplex (x y : AV) : Option Res := match x, y with | .s (.d (.float k a)), .s (.d (.float k' b)) => if k = k' then some (valRes (dv (.complex k a b)) True) else none | _, _ => none

theorem evReal_ok {x : AV} {r : Res} (h : evReal x = some r) (hc : RelC c φ m f a W) {X : Value} (hx : x.rel φ m X) (ts : Array TypeId) (ty : TypeId) : Gives P (Builtin.real_ ts ty #[X]) c φ m f a W r := by
  unfold evReal at h
  split at h <;> simp only [Option.some.injEq, reduceCtorEq] at h
  subst h
  simp only [AV.rel, Sc.rel, D.rel] at hx
  subst hx
  exact gives_val hc (V := .float _ _) rfl (by simp [AV.rel, Sc.rel, D.rel])
theorem evImag_ok {x : AV} {r : Res} (h : evImag x = some r) (hc : RelC c φ m f a W) {X : Value} (hx : x.rel φ m X) (ts : Array TypeId) (ty : TypeId) : Gives P (Builtin.imag_ ts ty #[X]) c φ m f a W r := by
  unfold evImag at h
  split at h <;> simp only [Option.some.injEq, reduceCtorEq] at h
  subst h
  simp only [AV.rel, Sc.rel, D.rel] at hx
  subst hx
  exact gives_val hc (V := .float _ _) rfl (by simp [AV.rel, Sc.rel, D.rel])
theorem evComplex_ok {x y : AV} {r : Res} (h : evComplex x y = some r) (hc : RelC c φ m f a W) {X Y : Value} (hx : x.rel φ m X) (hy : y.rel φ m Y) (ts : Array TypeId) (ty : TypeId) : Gives P (Builtin.complex_ ts ty #[X, Y]) c φ m f a W r := by
  unfold evComplex at h
  split at h
  · split at h
    · rename_i e
      subst e
      injection h with h
      subst h
      simp only [AV.rel, Sc.rel, D.rel] at hx hy
      subst hx; subst hy
      exact gives_val hc (V := .complex _ _ _) (run_complex W ts ty _ _ _) (by simp [AV.rel, Sc.rel, D.rel])
    · cases h
  · cases h

/-! ### '&&' and '||' -/
def asB : AVal → Option (Bool × Prop)
  | .one (.s (.d (.bool b))) => some (b, True)
  | .opt g (.s (.d (.bool b))) => some (b, g = true)
  | _ => none

def evPick (gc : Bool) (x y z : AVal) : Option Res :=
  match asB x, asB y, asB z with
  | some (b, p), some (u, q), some (v, s) => some (valRes (dv (.bool (bif b then u else v))) ((gc = true → p) ∧ (b = true → gc = true → q) ∧ (b = false → gc = true → s)))
  | _, _, _ => none

theorem asB_ok {x : AVal} {b : Bool} {p : Prop} (h : asB x = some (b, p)) (hp : p) {V : Value} (hx : x.rel φ m V) : V = .bool b := by
  unfold asB at h
  split at h <;> simp only [Option.some.injEq, Prod.mk.injEq, reduceCtorEq] at h <;> obtain ⟨rfl, rfl⟩ := h
  · simpa [AVal.rel, AV.rel, Sc.rel, D.rel] using hx
  · have := hx.1 hp
    simpa [AV.rel, Sc.rel, D.rel] using this

theorem evPick_ok {gc : Bool} (hg : gc = true) {x y z : AVal} {r : Res} (h : evPick gc x y z = some r) (hob : r.ob) (hc : RelC c φ m f a W) {X Y Z : Value} (hx : x.rel φ m X) (hy : y.rel φ m Y) (hz : z.rel φ m Z) :
    Gives P (do pure (if ← asBool X then Y else Z)) c φ m f a W r := by
  unfold evPick at h
  split at h
  · rename_i b p u q v s h1 h2 h3
    injection h with h
    subst h
    obtain ⟨o1, o2, o3⟩ := hob
    have := asB_ok h1 (o1 hg) hx
    subst this
    cases b with
    | true =>
      have := asB_ok h2 (o2 rfl hg) hy
      subst this
      exact gives_val hc (V := .bool u) (by simp [asBool]) (by simp [AV.rel, Sc.rel, D.rel])
    | false =>
      have := asB_ok h3 (o3 rfl hg) hz
      subst this
      exact gives_val hc (V := .bool v) (by simp [asBool]) (by simp [AV.rel, Sc.rel, D.rel])
  · cases h

end
end Go.Proofs.Hg
