/- Contracts of functions, from their bodies; what is known of all of them together. -/
import Derived.Test.YtcicjmhealkigaaC2
import Derived.Conc.MuLone
set_option linter.unusedVariables false
set_option linter.unusedSimpArgs false
namespace Go.Proofs.Hg
open Go.RowKit

abbrev Cont := Nat → Heap → List AV → Option Res

def ContOk (P : Program) (g : Nat) (k : Cont) : Prop :=
  ∀ (fresh : Nat) (H : Heap) (args : List AV) (r : Res), k fresh H args = some r → r.ob → ∀ (c : Ctx) (φ : Names) (m : Mem) (f : StF) (a : Act) (W : World) (vals : List Value), r.Reads fresh f → RelC c φ m f a W →
    vals.length = args.length → (∀ (j : Nat) (x : AV), args[j]? = some x → ∃ V : Value, vals[j]? = some V ∧ x.rel φ m V) →
    (∀ w, (callFunc g vals.toArray).run P w = .ok (.enter g vals.toArray) w) ∧ CallGives P g vals.toArray c φ m f a W r

def knowL (l : List (Nat × Cont)) : Know := fun g fresh H args => match lookN g l with
  | some k => k fresh H args
  | none => none

/-- A function without a Go body that answers at once. -/
def NowOk (P : Program) (g : Nat) (k : Cont) : Prop :=
  ∀ (fresh : Nat) (H : Heap) (args : List AV) (r : Res), k fresh H args = some r → r.ob → ∀ (c : Ctx) (φ : Names) (m : Mem) (f : StF) (a : Act) (W : World) (vals : List Value), r.Reads fresh f → RelC c φ m f a W →
    vals.length = args.length → (∀ (j : Nat) (x : AV), args[j]? = some x → ∃ V : Value, vals[j]? = some V ∧ x.rel φ m V) → CallNow P g vals.toArray c φ m f a W r

theorem knowX_ok {P : Program} {l : List (Nat × Cont)} (hl : ∀ p ∈ l, ContOk P p.1 p.2 ∨ NowOk P p.1 p.2) : KnowOk P (knowL l) := by
  intro g fresh H args r hr hob c φ m f a W vals h1 h2 h3 h4
  unfold knowL at hr
  split at hr
  · rename_i k hk
    rcases hl _ (lookN_mem hk) with h | h
    · exact .inl (h fresh H args r hr hob c φ m f a W vals h1 h2 h3 h4)
    · exact .inr (h fresh H args r hr hob c φ m f a W vals h1 h2 h3 h4)
  · cases hr

theorem knowL_ok {P : Program} {l : List (Nat × Cont)} (hl : ∀ p ∈ l, ContOk P p.1 p.2) : KnowOk P (knowL l) := knowX_ok fun p hp => .inl (hl p hp)

section
variable {P : Program}

def Ends (P : Program) (i : CallIn) (fresh : Nat) (r : Res) : Exit → St → Prop := fun e S => (e = .normal ∨ e = .ret) ∧ ∃ o, EndsTo P i.fn i.k S o.val o.S2 ∧ Told i o fresh r

theorem fn_gives {g : FuncId} {i : CallIn} {nargs : Nat} {fresh : Nat} {r : Res} {args : List AV} (hf : P.funcs[g]? = some i.fn) (hb : i.fn.body = some i.code) (hname : (i.fn.name == "runtime.NumGoroutine") = false)
    (hw : AWp P i.fn.ntmps i.k i.code i.S0 (Ends P i fresh r)) (hh : Handed i nargs r args) :
    ∀ (c : Ctx) (φ : Names) (m : Mem) (f : StF) (a : Act) (W : World) (vals : List Value), r.Reads fresh f → RelC c φ m f a W →
    vals.length = args.length → (∀ (j : Nat) (x : AV), args[j]? = some x → ∃ V : Value, vals[j]? = some V ∧ x.rel φ m V) →
    (∀ w, (callFunc g vals.toArray).run P w = .ok (.enter g vals.toArray) w) ∧ CallGives P g vals.toArray c φ m f a W r := by
  intro c φ m f a W vals hrd hc hl hv
  refine ⟨fun w => Go.MuLone.run_callFunc_enter hf hname hb _ w, fun ro n => ?_⟩
  have hstart := call_start hh hrd hc hl hv
  have key : CallsIn (wideR none) n P g vals.toArray W fun e W' => ∃ φ' m' V, e = .returned V ∧ RelC c φ' m' (wrApp r.wr f) a W' ∧ NamesLe φ φ' ∧ MemLe m m' ∧ r.val.rel φ' m' V := by
    refine callsIn_of_wp hf hb trivial ?_ rfl
    refine wpIn_mono (hw (inCtx i φ m W) none n _ _ _ _ rfl (fun x hx => by simp only [inCtx]; rw [if_neg (by omega)]) hstart) ?_
    rintro e a' W' ⟨φ1, m1, S1, c1, d1, he, o, ho, ht⟩
    obtain ⟨φ2, m2, V, c2, r2, v2⟩ := ho (inCtx i φ m W) φ1 m1 a' W' rfl (fun x hx => by simp only [inCtx]; rw [if_neg (by omega)]) c1
    obtain ⟨φ3, m3, q1, q2, q3, q4⟩ := call_end hh ht hrd hc c2 v2
    rcases he with rfl | rfl
    · exact ⟨d1, V, r2, φ3, m3, V, rfl, q1, q2, q3, q4⟩
    · exact ⟨d1, V, r2, φ3, m3, V, rfl, q1, q2, q3, q4⟩
  exact key

/-! ### functions of values alone -/
def pureK (F : List AV → Option (AVal × Prop)) : Cont := fun _ _ args => (F args).map fun q => ⟨q.1, [], false, [], q.2⟩

def envOf (args : List AV) : List (Nat × AVal) := args.zipIdx.map fun p => (p.2, .one p.1)

def EndsP (P : Program) (fn : Func) (val : AVal) : Exit → St → Prop := fun e S => (e = .normal ∨ e = .ret) ∧ ∃ S2, EndsTo P fn 0 S val S2

theorem Sc.ren_none {g : Nat → Nat} {x : Sc} (h : x.ids = []) : x.ren g = x := by
  cases x with
  | func f caps =>
    simp only [Sc.ids, List.map_eq_nil_iff] at h
    subst h
    rfl
  | _ => first | rfl | (simp [Sc.ids] at h)

theorem Scs.ren_none {g : Nat → Nat} {xs : List Sc} (h : xs.flatMap (·.ids) = []) : xs.map (·.ren g) = xs := by
  rw [List.flatMap_eq_nil_iff] at h
  conv => rhs; rw [← List.map_id xs]
  exact List.map_congr_left fun x hx => Sc.ren_none (h x hx)

theorem AV.ren_none {g : Nat → Nat} {x : AV} (h : x.ids = []) : x.ren g = x := by
  cases x with
  | s x => exact congrArg AV.s (Sc.ren_none h)
  | agg xs => exact congrArg AV.agg (Scs.ren_none h)

theorem AVal.ren_none {g : Nat → Nat} {x : AVal} (h : x.ids = []) : x.ren g = x := by
  cases x with
  | one x => exact congrArg AVal.one (AV.ren_none h)
  | tup xs =>
    simp only [AVal.ids, List.flatMap_eq_nil_iff] at h
    refine congrArg AVal.tup ?_
    conv => rhs; rw [← List.map_id xs]
    exact List.map_congr_left fun x hx => AV.ren_none (h x hx)
  | opt b x => exact congrArg (AVal.opt b) (AV.ren_none h)
  | junk => rfl

/-- A function of values alone, its body walked. -/
theorem pure_ok {g : FuncId} {fn : Func} {code : Code} {nargs : Nat} {F : List AV → Option (AVal × Prop)} (hf : P.funcs[g]? = some fn) (hb : fn.body = some code) (hname : (fn.name == "runtime.NumGoroutine") = false) (hn : nargs ≤ fn.ntmps)
    (hF : ∀ args q, F args = some q → q.2 → args.length = nargs ∧ (∀ x ∈ args, x.ids = []) ∧ q.1.ids = [] ∧ (∀ b x, q.1 ≠ .opt b x) ∧ AWp P fn.ntmps 0 code ⟨envOf args, [], 0⟩ (EndsP P fn q.1)) : ContOk P g (pureK F) := by
  intro fresh H args r hr hob
  simp only [pureK, Option.map_eq_some_iff] at hr
  obtain ⟨q, hq, rfl⟩ := hr
  obtain ⟨h1, h2, h3, h4, h5⟩ := hF args q hq hob
  refine fn_gives (i := ⟨fn, code, ⟨envOf args, [], 0⟩, 0, id⟩) (nargs := nargs) hf hb hname (h5.mono ?_) ?_
  · rintro e S ⟨he, S2, hS⟩
    refine ⟨S, Conv.refl S, he, ⟨q.1, S2, none, id⟩, hS, ?_⟩
    exact { val := (AVal.ren_none h3).symm, plain := h4, vids := (fun x hx => by rw [h3] at hx; simp at hx), fr := rfl, exn := (fun x hx => by cases hx), hand := (fun p hp => by simp at hp), wr := (fun p hp => by simp at hp) }
  · refine { len := ⟨h1, hn⟩, env := (fun p hp => ?_), heap := (fun p hp => by simp at hp), nxt := rfl, inj := (fun p hp => by simp at hp) }
    simp only [envOf, List.mem_map] at hp
    obtain ⟨⟨x, j⟩, hx, rfl⟩ := hp
    have hj := List.mem_zipIdx_iff_getElem?.1 hx
    simp only at hj
    have hxm : x ∈ args := List.mem_of_getElem? hj
    refine ⟨x, hj, ?_, fun y hy => ?_⟩
    · simp only [AVal.ren]
      rw [AV.ren_none (h2 x hxm)]
    · simp only [AVal.ids] at hy
      rw [h2 x hxm] at hy
      simp at hy

end
end Go.Proofs.Hg
