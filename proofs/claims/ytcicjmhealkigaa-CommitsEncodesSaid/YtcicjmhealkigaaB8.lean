/- Code of the abstract machine: rules for regions, sequences, branches, blocks, loops; states that say the same. -/
import Derived.Test.YtcicjmhealkigaaB7
import Derived.Sort.LoopGhostIn
set_option linter.unusedVariables false
set_option linter.unusedSimpArgs false
namespace Go.Proofs.Hg
open Go.RowKit

/-- What code does from a state: in every context whose handed objects bear the names below h. -/
def AWp (P : Program) (N h : Nat) (code : Code) (S : St) (Q : Exit → St → Prop) : Prop :=
  ∀ (c : Ctx) (ro : Option Nat) (n : Nat) (φ : Names) (m : Mem) (a : Act) (W : World), c.nt = N → (∀ i, h ≤ i → c.φ0 i = none) → RelC c φ m S.fn a W →
    code.wpIn (wideR ro) n P (fun e a' W' => ∃ φ' m' S', RelC c φ' m' S'.fn a' W' ∧ a'.defers = a.defers ∧ Q e S') a W

/-- Whatever stands in the one state stands in the other. -/
def Conv (N h : Nat) (S S' : St) : Prop :=
  ∀ (c : Ctx) (φ : Names) (m : Mem) (a : Act) (W : World), c.nt = N → (∀ i, h ≤ i → c.φ0 i = none) → RelC c φ m S.fn a W → ∃ φ' m', RelC c φ' m' S'.fn a W

def thenA (next : St → Prop) (Q : Exit → St → Prop) : Exit → St → Prop
  | .normal, S => next S
  | e, S => Q e S
def inBlockA (id : Nat) (Q : Exit → St → Prop) : Exit → St → Prop
  | .exit i, S => if i = id then Q .normal S else Q (.exit i) S
  | e, S => Q e S

section
variable {P : Program} {N h : Nat} {S S' : St} {Q Q' : Exit → St → Prop}

theorem Conv.refl (S : St) : Conv N h S S := fun c φ m a W _ _ hc => ⟨φ, m, hc⟩
theorem Conv.trans {S1 S2 S3 : St} (h1 : Conv N h S1 S2) (h2 : Conv N h S2 S3) : Conv N h S1 S3 := fun c φ m a W hN h0 hc =>
  let ⟨φ1, m1, c1⟩ := h1 c φ m a W hN h0 hc
  h2 c φ1 m1 a W hN h0 c1

theorem AWp.conv {code : Code} (hv : Conv N h S S') (hw : AWp P N h code S' Q) : AWp P N h code S Q := fun c ro n φ m a W hN h0 hc =>
  let ⟨φ1, m1, c1⟩ := hv c φ m a W hN h0 hc
  hw c ro n φ1 m1 a W hN h0 c1

theorem AWp.mono {code : Code} (hw : AWp P N h code S Q) (hq : ∀ e S', Q e S' → ∃ S'', Conv N h S' S'' ∧ Q' e S'') : AWp P N h code S Q' := fun c ro n φ m a W hN h0 hc => by
  refine wpIn_mono (hw c ro n φ m a W hN h0 hc) ?_
  rintro e a' W' ⟨φ1, m1, S1, c1, d1, q1⟩
  obtain ⟨S2, v2, q2⟩ := hq e S1 q1
  obtain ⟨φ2, m2, c2⟩ := v2 c φ1 m1 a' W' hN h0 c1
  exact ⟨φ2, m2, S2, c2, d1, q2⟩

theorem AWp.skip (hq : Q .normal S) : AWp P N h .skip S Q := fun c ro n φ m a W hN h0 hc => wpIn_skip ⟨φ, m, S, hc, rfl, hq⟩
theorem AWp.label {l : Nat} (hq : Q .normal S) : AWp P N h (.label l) S Q := fun c ro n φ m a W hN h0 hc => wpIn_label ⟨φ, m, S, hc, rfl, hq⟩
theorem AWp.exit {i : Nat} (hq : Q (.exit i) S) : AWp P N h (.exit i) S Q := fun c ro n φ m a W hN h0 hc => wpIn_exit ⟨φ, m, S, hc, rfl, hq⟩
theorem AWp.goto {l : Nat} (hq : Q (.goto l) S) : AWp P N h (.goto l) S Q := fun c ro n φ m a W hN h0 hc => wpIn_goto ⟨φ, m, S, hc, rfl, hq⟩
theorem AWp.ret (hq : Q .ret S) : AWp P N h .ret S Q := fun c ro n φ m a W hN h0 hc => wpIn_ret ⟨φ, m, S, hc, rfl, hq⟩

theorem AWp.seq {x y : Code} (hx : AWp P N h x S (thenA (fun S1 => AWp P N h y S1 Q) Q)) : AWp P N h (.seq x y) S Q := fun c ro n φ m a W hN h0 hc => by
  refine wpIn_seq (wpIn_mono (hx c ro n φ m a W hN h0 hc) ?_)
  rintro e a' W' ⟨φ1, m1, S1, c1, d1, q1⟩
  cases e with
  | normal =>
    refine wpIn_mono (q1 c ro n φ1 m1 a' W' hN h0 c1) ?_
    rintro e2 a2 W2 ⟨φ2, m2, S2, c2, d2, q2⟩
    exact ⟨φ2, m2, S2, c2, d2.trans d1, q2⟩
  | exit i => exact ⟨φ1, m1, S1, c1, d1, q1⟩
  | goto l => exact ⟨φ1, m1, S1, c1, d1, q1⟩
  | ret => exact ⟨φ1, m1, S1, c1, d1, q1⟩
  | panic x => exact ⟨φ1, m1, S1, c1, d1, q1⟩
  | outgrown => exact ⟨φ1, m1, S1, c1, d1, q1⟩

theorem AWp.block {i : Nat} {x : Code} (hx : AWp P N h x S (inBlockA i Q)) : AWp P N h (.block i x) S Q := fun c ro n φ m a W hN h0 hc => by
  refine wpIn_block (wpIn_mono (hx c ro n φ m a W hN h0 hc) ?_)
  rintro e a' W' ⟨φ1, m1, S1, c1, d1, q1⟩
  cases e with
  | normal => exact ⟨φ1, m1, S1, c1, d1, q1⟩
  | exit j =>
    simp only [Exit.inBlock]
    simp only [inBlockA] at q1
    split
    · rename_i e; rw [if_pos e] at q1; exact ⟨φ1, m1, S1, c1, d1, q1⟩
    · rename_i e; rw [if_neg e] at q1; exact ⟨φ1, m1, S1, c1, d1, q1⟩
  | goto l => exact ⟨φ1, m1, S1, c1, d1, q1⟩
  | ret => exact ⟨φ1, m1, S1, c1, d1, q1⟩
  | panic x => exact ⟨φ1, m1, S1, c1, d1, q1⟩
  | outgrown => exact ⟨φ1, m1, S1, c1, d1, q1⟩

theorem opnd_at {c : Ctx} {φ : Names} {m : Mem} {a : Act} {W : World} (hc : RelC c φ m S.fn a W) {x : Operand} {v : AVal} (hx : S.opnd x = some v) : v.rel φ m (a.eval x) :=
  opnd_ok (S := S) (xs := [x]) (fun y hy t v hyt hl => fn_t hl) hc (List.mem_cons_self ..) hx

theorem AWp.cond {o : Operand} {x y : Code} {b : Bool} (ho : S.opnd o = some (.one (dv (.bool b)))) (ht : b = true → AWp P N h x S Q) (hf : b = false → AWp P N h y S Q) : AWp P N h (.cond o x y) S Q :=
  fun c ro n φ m a W hN h0 hc =>
  have hv : a.eval o = .bool b := opnd_at hc ho
  wpIn_cond_split hv (fun e => ht e c ro n φ m a W hN h0 hc) (fun e => hf e c ro n φ m a W hN h0 hc)

theorem AWp.loop {x : Code} (I : Nat → St → Prop) (k : Nat) (h0 : I k S) (round : ∀ k S, I k S → AWp P N h x S (thenA (fun S' => ∃ k' S'', k' < k ∧ Conv N h S' S'' ∧ I k' S'') Q)) : AWp P N h (.loop x) S Q :=
  fun c ro n φ m a W hN hφ hc => by
  refine wpIn_loop_ghost (fun k a' W' => ∃ φ' m' S', RelC c φ' m' S'.fn a' W' ∧ a'.defers = a.defers ∧ I k S') k ⟨φ, m, S, hc, rfl, h0⟩ ?_
  rintro k a1 W1 ⟨φ1, m1, S1, c1, d1, i1⟩
  refine wpIn_mono (round k S1 i1 c ro n φ1 m1 a1 W1 hN hφ c1) ?_
  rintro e a' W' ⟨φ2, m2, S2, c2, d2, q2⟩
  cases e with
  | normal =>
    obtain ⟨k', S3, hk, hv, i3⟩ := q2
    obtain ⟨φ3, m3, c3⟩ := hv c φ2 m2 a' W' hN hφ c2
    exact ⟨k', hk, φ3, m3, S3, c3, d2.trans d1, i3⟩
  | exit i => exact ⟨φ2, m2, S2, c2, d2.trans d1, q2⟩
  | goto l => exact ⟨φ2, m2, S2, c2, d2.trans d1, q2⟩
  | ret => exact ⟨φ2, m2, S2, c2, d2.trans d1, q2⟩
  | panic x => exact ⟨φ2, m2, S2, c2, d2.trans d1, q2⟩
  | outgrown => exact ⟨φ2, m2, S2, c2, d2.trans d1, q2⟩

/-! ### regions, their steps left out -/
def stepS (T : Tab) (K : Know) (N : Nat) (gd : Nat → Option Tmp) (S : St) (o : Oper) : Option (St × Prop) :=
  match guardOf S gd o.guard with
  | none => none
  | some (gc, gk) => match evOp T K S gc o.type o.op with
    | none => none
    | some r =>
      if (isStore o.op && o.dst.isSome) || !(o.dst.all (fun d => decide (d < N))) || (lookN S.nxt S.heap).isSome then none else
      some (⟨match o.dst with | some d => (d, under gk.isSome gc r.val) :: S.env | none => S.env, wrHeap r.wr S.heap, nxtIf r.fr S.nxt⟩,
        obUnder gk.isSome gc r.wr r.ob ∧ (∀ p ∈ r.rd, lookN p.1 S.heap = some p.2) ∧ ∀ p ∈ r.wr, p.1 < nxtIf r.fr S.nxt)

def runS (T : Tab) (K : Know) (N : Nat) (gd : Nat → Option Tmp) : List Oper → St → Option (St × Prop)
  | [], S => some (S, True)
  | o :: os, S => match stepS T K N gd S o with
    | none => none
    | some s => match runS T K N gd os s.1 with
      | none => none
      | some q => some (q.1, s.2 ∧ q.2)

theorem stepS_eq (T : Tab) (K : Know) (N : Nat) (gd : Nat → Option Tmp) (S : St) (o : Oper) : stepS T K N gd S o = (stepOp T K N gd S o).map fun s => (s.next, s.ob) := by
  unfold stepS stepOp
  cases hg : guardOf S gd o.guard with
  | none => rfl
  | some p =>
    obtain ⟨gc, gk⟩ := p
    simp only
    cases he : evOp T K S gc o.type o.op with
    | none => rfl
    | some r =>
      simp only
      by_cases hb : (isStore o.op && o.dst.isSome || !Option.all (fun d => decide (d < N)) o.dst || (lookN S.nxt S.heap).isSome) = true
      · rw [if_pos hb, if_pos hb]; rfl
      · rw [if_neg hb, if_neg hb]; rfl

theorem runS_eq (T : Tab) (K : Know) (N : Nat) (gd : Nat → Option Tmp) : ∀ (os : List Oper) (S : St), runS T K N gd os S = (runOps T K N gd os S).map (·.2)
  | [], S => rfl
  | o :: os, S => by
    simp only [runS, runOps, stepS_eq]
    cases hs : stepOp T K N gd S o with
    | none => rfl
    | some s =>
      simp only [Option.map_some, runS_eq T K N gd os s.next]
      cases hr : runOps T K N gd os s.next with
      | none => rfl
      | some q => rfl

theorem runS_ops {T : Tab} {K : Know} {gd : Nat → Option Tmp} {os : List Oper} {q : St × Prop} (hr : runS T K N gd os S = some q) : ∃ lts, runOps T K N gd os S = some (lts, q.1, q.2) := by
  rw [runS_eq] at hr
  simp only [Option.map_eq_some_iff] at hr
  obtain ⟨q', h1, h2⟩ := hr
  exact ⟨q'.1, by rw [h1, ← h2]⟩

/-- A REGION in the text's order. -/
theorem AWp.region {T : Tab} (hT : TabOk P T) {K : Know} (hK : KnowOk P K) (hm : P.follows .mixedOrders = true) {id : Nat} {ops : Array Oper} {ob : Prop}
    (hrun : runS T K N (gdOf ops) ops.toList S = some (S', ob)) (hob : ob) (hq : Q .normal S') : AWp P N h (.region id ops false) S Q := fun c ro n φ m a W hN h0 hc => by
  obtain ⟨lts, hl⟩ := runS_ops hrun
  subst hN
  exact region_rule hT hK hm hl hob (by simp) hc (fun φ' m' a' W' c' d' => ⟨φ', m', S', c', d', hq⟩)

/-- A REGION in any order. -/
theorem AWp.draws {T : Tab} (hT : TabOk P T) {K : Know} (hK : KnowOk P K) (hm : P.follows .mixedOrders = true) {id : Nat} {ops : Array Oper} {lts : List LT} {ob : Prop}
    (hrun : runOps T K N (gdOf ops) ops.toList S = some (lts, S', ob)) (hord : (edgesOk ops && orderOk ops lts) = true) (hob : ob) (hq : Q .normal S') : AWp P N h (.region id ops true) S Q := fun c ro n φ m a W hN h0 hc => by
  subst hN
  exact region_rule hT hK hm hrun hob (fun _ => hord) hc (fun φ' m' a' W' c' d' => ⟨φ', m', S', c', d', hq⟩)

end
end Go.Proofs.Hg
