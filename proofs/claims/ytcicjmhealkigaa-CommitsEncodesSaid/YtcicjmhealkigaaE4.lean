/- Scopes with labels, to which the run jumps. -/
import Derived.Test.YtcicjmhealkigaaE3
import Derived.Scope
set_option linter.unusedVariables false
set_option linter.unusedSimpArgs false
namespace Go.Proofs.Hg
open Go.RowKit

def scopeQ (c : Code) (J : Nat → Nat → Act → World → Prop) (k : Nat) (Q : Exit → Act → World → Prop) : Exit → Act → World → Prop
  | .goto l, a, w => ∃ rest k', findLabel c l = some rest ∧ k' < k ∧ J k' l a w
  | e, a, w => Q e a w

section
variable {P : Program} {F : Fence} {n : Nat} {b : Frame} {a : Act} {k : List Item} {cs : List Frame} {w : World} {Q : Exit → Act → World → Prop}

theorem stepR_scope {c : Code} : step P (lone (b.atR a (.code (.scope c) :: k)) cs w) = .next (lone (b.atR a (.code c :: .inScope c :: k)) cs w) :=
  step_lone_go (by simp [stepG, stepG.exec, Frame.atR])
theorem stepR_inScope {c : Code} : step P (lone (b.atR a (.inScope c :: k)) cs w) = .next (lone (b.atR a k) cs w) :=
  step_lone_go (by simp [stepG, stepG.exec, Frame.atR])

theorem wpIn_scope_ghost {c : Code} (J : Nat → Nat → Act → World → Prop) (k0 : Nat) (first : c.wpIn F n P (scopeQ c J k0 Q) a w)
    (pass : ∀ k l a w rest, findLabel c l = some rest → J k l a w → rest.wpIn F n P (scopeQ c J k Q) a w) : (Code.scope c).wpIn F n P Q a w := by
  intro b k cs hro hb hr
  have h0 : (lone (b.atR a (.code (.scope c) :: k)) cs w).fenced P F := fenced_calm hb hr rfl
  -- how a piece of the scope is left
  have leave : ∀ (j : Nat) (m : Machine) (e : Exit) (a₁ : Act) (w₁ : World), scopeQ c J j Q e a₁ w₁ → ArrivesIn (Machine.fenced P F) P m b (.inScope c :: k) cs e a₁ w₁ →
      (∃ e a' w', Q e a' w' ∧ ArrivesIn (Machine.fenced P F) P m b k cs e a' w') ∨ ∃ l rest j', e = .goto l ∧ findLabel c l = some rest ∧ j' < j ∧ J j' l a₁ w₁ := by
    intro j m e a₁ w₁ hq harr
    cases e with
    | normal => exact .inl ⟨.normal, a₁, w₁, hq, StepsIn.trans harr (.one (fenced_calm hb hr rfl) stepR_inScope)⟩
    | exit id => exact .inl ⟨.exit id, a₁, w₁, hq, fun k' hk => harr.1 k' (by simp [exitTo, hk]), fun hr' hk => harr.2 hr' (by simp [exitTo, hk])⟩
    | goto l =>
      obtain ⟨rest, j', h1, h2, h3⟩ := hq
      exact .inr ⟨l, rest, j', rfl, h1, h2, h3⟩
    | ret => exact .inl ⟨_, a₁, w₁, hq, harr⟩
    | panic ch => exact .inl ⟨_, a₁, w₁, hq, harr⟩
    | outgrown => exact .inl ⟨_, a₁, w₁, hq, harr⟩
  have hg : ∀ l rest, findLabel c l = some rest → gotoIn l (.inScope c :: k) = some (.code rest :: .inScope c :: k) := fun l rest h => by simp [gotoIn, h]
  have key : ∀ j l a w rest, findLabel c l = some rest → J j l a w → ∃ e a' w', Q e a' w' ∧ ArrivesIn (Machine.fenced P F) P (lone (b.atR a (.code rest :: .inScope c :: k)) cs w) b k cs e a' w' := by
    intro j
    induction j using Nat.strongRecOn with
    | _ j ih =>
      intro l a w rest hf hJ
      obtain ⟨e, a₁, w₁, hq, harr⟩ := pass j l a w rest hf hJ b (.inScope c :: k) cs hro hb hr
      rcases leave j _ e a₁ w₁ hq harr with h | ⟨l', rest', j', rfl, h1, h2, h3⟩
      · exact h
      · obtain ⟨e₂, a₂, w₂, hq₂, harr₂⟩ := ih j' h2 l' a₁ w₁ rest' h1 h3
        exact ⟨e₂, a₂, w₂, hq₂, .of_steps (harr.1 _ (hg l' rest' h1)) harr₂⟩
  obtain ⟨e, a₁, w₁, hq, harr⟩ := first b (.inScope c :: k) cs hro hb hr
  rcases leave k0 _ e a₁ w₁ hq harr with ⟨e₂, a₂, w₂, hq₂, harr₂⟩ | ⟨l', rest', j', rfl, h1, h2, h3⟩
  · exact ⟨e₂, a₂, w₂, hq₂, .of_steps (.one h0 stepR_scope) harr₂⟩
  · obtain ⟨e₂, a₂, w₂, hq₂, harr₂⟩ := key j' l' a₁ w₁ rest' h1 h3
    exact ⟨e₂, a₂, w₂, hq₂, .of_steps (.head h0 stepR_scope (harr.1 _ (hg l' rest' h1))) harr₂⟩
end

section
variable {P : Program} {N h : Nat} {S S' : St} {Q Q' : Exit → St → Prop}

def scopeA (N h : Nat) (c : Code) (I : Nat → Nat → St → Prop) (k : Nat) (Q : Exit → St → Prop) : Exit → St → Prop
  | .goto l, S => ∃ rest k' S'', findLabel c l = some rest ∧ k' < k ∧ Conv N h S S'' ∧ I k' l S''
  | e, S => Q e S

theorem AWp.scope {x : Code} (I : Nat → Nat → St → Prop) (k0 : Nat) (first : AWp P N h x S (scopeA N h x I k0 Q)) (pass : ∀ k l S rest, findLabel x l = some rest → I k l S → AWp P N h rest S (scopeA N h x I k Q)) :
    AWp P N h (.scope x) S Q := fun c ro n φ m a W hN hφ hc => by
  have conv : ∀ (j : Nat) (d0 : List Deferred) (e : Exit) (a' : Act) (W' : World), d0 = a.defers → (∃ φ' m' S', RelC c φ' m' S'.fn a' W' ∧ a'.defers = d0 ∧ scopeA N h x I j Q e S') →
      scopeQ x (fun k l a' W' => ∃ φ' m' S', RelC c φ' m' S'.fn a' W' ∧ a'.defers = a.defers ∧ I k l S') j (fun e a' W' => ∃ φ' m' S', RelC c φ' m' S'.fn a' W' ∧ a'.defers = a.defers ∧ Q e S') e a' W' := by
    rintro j d0 e a' W' rfl ⟨φ1, m1, S1, c1, d1, q1⟩
    cases e with
    | goto l =>
      obtain ⟨rest, k', S2, h1, h2, h3, h4⟩ := q1
      obtain ⟨φ2, m2, c2⟩ := h3 c φ1 m1 a' W' hN hφ c1
      exact ⟨rest, k', h1, h2, φ2, m2, S2, c2, d1, h4⟩
    | normal => exact ⟨φ1, m1, S1, c1, d1, q1⟩
    | exit i => exact ⟨φ1, m1, S1, c1, d1, q1⟩
    | ret => exact ⟨φ1, m1, S1, c1, d1, q1⟩
    | panic x => exact ⟨φ1, m1, S1, c1, d1, q1⟩
    | outgrown => exact ⟨φ1, m1, S1, c1, d1, q1⟩
  refine wpIn_scope_ghost (fun k l a' W' => ∃ φ' m' S', RelC c φ' m' S'.fn a' W' ∧ a'.defers = a.defers ∧ I k l S') k0 (wpIn_mono (first c ro n φ m a W hN hφ hc) fun e a' W' hx => conv k0 _ e a' W' rfl hx) ?_
  rintro k l a1 W1 rest hf ⟨φ1, m1, S1, c1, d1, i1⟩
  exact wpIn_mono (pass k l S1 rest hf i1 c ro n φ1 m1 a1 W1 hN hφ c1) fun e a' W' hx => conv k _ e a' W' d1 hx

theorem scopeA_goto {c : Code} {I : Nat → Nat → St → Prop} {k l : Nat} {rest : Code} (k' : Nat) (S'' : St) (hf : findLabel c l = some rest) (hk : k' < k) (hv : Conv N h S S'') (hi : I k' l S'') : scopeA N h c I k Q (.goto l) S :=
  ⟨rest, k', S'', hf, hk, hv, hi⟩
theorem scopeA_ret {c : Code} {I : Nat → Nat → St → Prop} {k : Nat} (hq : Q .ret S) : scopeA N h c I k Q .ret S := hq
theorem thenA_goto {n : St → Prop} {i : Nat} (hq : Q (.goto i) S) : thenA n Q (.goto i) S := hq
theorem thenA_ret {n : St → Prop} (hq : Q .ret S) : thenA n Q .ret S := hq
theorem inB_goto {id i : Nat} (hq : Q (.goto i) S) : inBlockA id Q (.goto i) S := hq
end
attribute [go_sem] scopeA
end Go.Proofs.Hg
