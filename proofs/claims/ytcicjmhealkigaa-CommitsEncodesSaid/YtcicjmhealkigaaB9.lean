/- States that say the same: less kept, a row that becomes a value, other names. -/
import Derived.Test.YtcicjmhealkigaaB8
set_option linter.unusedVariables false
set_option linter.unusedSimpArgs false
namespace Go.Proofs.Hg
open Go.RowKit

section
variable {N h : Nat} {S S' : St}

theorem Conv.weaken (hw : StLe S'.fn S.fn) : Conv N h S S' := fun c φ m a W _ _ hc => ⟨φ, m, hc.weaken hw⟩

def keepE {α : Type} (ts : List Nat) (l : List (Nat × α)) : List (Nat × α) := ts.filterMap fun t => (lookN t l).map fun v => (t, v)
def St.keep (ts hs : List Nat) (S : St) : St := ⟨keepE ts S.env, keepE hs S.heap, S.nxt⟩

theorem lookN_keepE {α : Type} (l : List (Nat × α)) (n : Nat) : ∀ (ts : List Nat), lookN n (keepE ts l) = if n ∈ ts then lookN n l else none
  | [] => rfl
  | t :: ts => by
    have ih := lookN_keepE l n ts
    simp only [keepE, List.filterMap_cons] at ih ⊢
    cases hl : lookN t l with
    | none =>
      simp only [Option.map_none]
      rw [ih]
      by_cases hn : n = t
      · subst hn; simp [hl]
      · simp [hn]
    | some v =>
      simp only [Option.map_some, lookN]
      by_cases hn : t = n
      · subst hn; simp [hl]
      · rw [if_neg hn, ih]
        have hn' : ¬ n = t := fun x => hn (Eq.symm x)
        simp [hn']

theorem Conv.keep (ts hs : List Nat) (hall : (S.heap.all fun p => decide (p.1 < S.nxt)) = true) : Conv N h S (S.keep ts hs) := by
  refine Conv.weaken fun k => ?_
  cases k with
  | t n =>
    simp only [St.fn, St.keep, lookN_keepE]
    by_cases hn : n ∈ ts
    · simp [hn]
    · simp [hn]
  | h n =>
    simp only [St.fn, St.keep, lookN_keepE]
    by_cases hn : n ∈ hs
    · simp only [if_pos hn]; exact .inr rfl
    · simp only [if_neg hn]
      by_cases hx : S.nxt ≤ n
      · right
        simp only [if_pos hx]
        have : lookN n S.heap = none := by
          cases hl : lookN n S.heap with
          | none => rfl
          | some o =>
            have := List.all_eq_true.1 hall _ (lookN_mem hl)
            simp at this
            omega
        simp [this, hx]
      · left; simp [hx]

/-! ### a row that becomes a value -/
theorem freeze_all {c : Ctx} {φ : Names} {m : Mem} {f : StF} {a : Act} {W : World} (hc : RelC c φ m f a W) {j : Nat} {es : List (List D)} {ty : TypeId} (hj : f (.h j) = .o (.row es ty)) :
    ∃ m', RelC c φ m' (upd f (.h j) .none) a W ∧ MemLe m m' ∧ ∀ e X, (Sc.row j e 0 es.length none).rel φ m X → (D.slice none e es).rel m' X := by
  rcases hc.obj j _ hj with ⟨h1, h2⟩ | ⟨b, C, e, cs, fr, h1, _⟩
  · refine ⟨m, hc.kill _, MemLe.refl m, fun e X hx => ?_⟩
    subst h2
    rcases hx with ⟨_, _, _, _, rfl⟩ | ⟨b, C, ad, k, q, _⟩
    · unfold D.rel; exact .inl ⟨rfl, by simp, rfl⟩
    · rw [h1] at q; cases q
  · obtain ⟨cs, fr, g2, g3, g4, g5, g6, g7, g8, _⟩ := row_cell hc hj h1
    have hm : MemLe m (fun k => if k = b then some (.cells cs ty fr) else m k) := by
      have hown := hc.own j _ b C e hj h1
      intro k o1 hk
      by_cases ek : k = b
      · subst ek; rw [hown.2.1] at hk; cases hk
      · simp only [if_neg ek]; exact hk
    refine ⟨_, hc.freeze hj h1 g2, hm, fun e' X hx => ?_⟩
    rcases hx with ⟨q, _⟩ | ⟨b', C', ad, k, q, rfl, h3, h4, h5, h6⟩
    · rw [h1] at q; cases q
    · rw [h1] at q
      injection q with q
      injection q with q1 q2 q3
      subst q1 q2 q3
      simp only [D.rel]
      refine .inr ⟨by simp, ad, k, rfl, by omega, g7, fun hne => ?_⟩
      have hk0 : k ≠ 0 := by
        have : 0 < es.length := List.length_pos_iff.2 hne
        omega
      rw [h6.1 hk0]
      refine ⟨rfl, ?_⟩
      rw [relRows_iff, relCells_iff]
      intro i d hi
      obtain ⟨v, q1, q2⟩ := g8 i d hi
      refine ⟨v, ?_, D.rel_le hm d v q2⟩
      simp [memCell, q1]

/-- The row j in the temporary t becomes a value. -/
def St.freezeAt (S : St) (t j e : Nat) (es : List (List D)) : St := ⟨(t, .one (dv (.slice none e es))) :: S.env, eraseN j S.heap, S.nxt⟩

theorem Conv.freezeAt (t j : Nat) {e len : Nat} {es : List (List D)} {ty : TypeId} (hj : lookN j S.heap = some (.row es ty)) (hlt : j < S.nxt) (ht : lookN t S.env = some (.one (.s (.row j e 0 len none)))) (hl : len = es.length) :
    Conv N h S (S.freezeAt t j e es) := by
  intro c φ m a W _ _ hc
  subst hl
  obtain ⟨m', h1, h2, h3⟩ := freeze_all hc (fn_h hj)
  obtain ⟨V, v1, v2⟩ := hc.env t _ (fn_t ht)
  have hput : RelC c φ m' (upd (upd S.fn (.h j) .none) (.t t) (.v (.one (dv (.slice none e es))))) a W :=
    { os := h1.os, out := h1.out, tape := h1.tape, size := h1.size, frame := h1.frame, mem := h1.mem, m0 := h1.m0, mnew := h1.mnew, ext := h1.ext
      obj := fun i o hi => h1.obj i o (by rwa [upd_other (by simp)] at hi)
      own := fun i o b C e hi => h1.own i o b C e (by rwa [upd_other (by simp)] at hi)
      inj := fun i j o o' b C e C' e' hi hj => h1.inj i j o o' b C e C' e' (by rwa [upd_other (by simp)] at hi) (by rwa [upd_other (by simp)] at hj)
      free := fun i hi => h1.free i (by rwa [upd_other (by simp)] at hi)
      env := fun s v hs => by
        by_cases e1 : s = t
        · subst e1
          rw [upd_self] at hs
          injection hs with hs
          subst hs
          exact ⟨V, v1, h3 _ V v2⟩
        · rw [upd_other (by simpa using e1)] at hs
          exact h1.env s v hs
      nt := h1.nt }
  refine ⟨φ, m', hput.weaken fun k => ?_⟩
  cases k with
  | t n =>
    right
    by_cases e1 : n = t
    · subst e1; rw [upd_self]; simp [St.fn, St.freezeAt, lookN]
    · rw [upd_other (by simpa using e1), upd_other (by simp)]
      simp only [St.fn, St.freezeAt, lookN]
      rw [if_neg (fun x => e1 x.symm)]
  | h n =>
    rw [upd_other (by simp)]
    by_cases e1 : n = j
    · subst e1
      left
      simp only [St.fn, St.freezeAt, lookN_erase, if_true]
      have hx : ¬ S.nxt ≤ n := by omega
      simp [hx]
    · right
      rw [upd_other (by simpa using e1)]
      simp only [St.fn, St.freezeAt, lookN_erase, if_neg e1]
      rfl

/-! ### other names -/
def Sc.ren (g : Nat → Nat) : Sc → Sc
  | .ptr i off => .ptr (g i) off
  | .eptr i k fo => .eptr (g i) k fo
  | .row i e off len cap => .row (g i) e off len cap
  | .func f caps => .func f (caps.map fun p => (g p.1, p.2))
  | .yield l => .yield (g l)
  | .map i => .map (g i)
  | .upt i e off len => .upt (g i) e off len
  | x => x
def AV.ren (g : Nat → Nat) : AV → AV
  | .s x => .s (x.ren g)
  | .agg xs => .agg (xs.map (·.ren g))
def AVal.ren (g : Nat → Nat) : AVal → AVal
  | .one x => .one (x.ren g)
  | .tup xs => .tup (xs.map (·.ren g))
  | .opt b x => .opt b (x.ren g)
  | .junk => .junk
def AObj.ren (g : Nat → Nat) : AObj → AObj
  | .cells vs ty => .cells (vs.map (·.ren g)) ty
  | .row es ty => .row es ty
  | .other o => .other o

/-- Names that a value speaks of. -/
def Sc.ids : Sc → List Nat
  | .ptr i _ => [i]
  | .eptr i _ _ => [i]
  | .row i _ _ _ _ => [i]
  | .func _ caps => caps.map (·.1)
  | .yield l => [l]
  | .map i => [i]
  | .upt i _ _ _ => [i]
  | _ => []
def AV.ids : AV → List Nat
  | .s x => x.ids
  | .agg xs => xs.flatMap (·.ids)
def AVal.ids : AVal → List Nat
  | .one x => x.ids
  | .tup xs => xs.flatMap (·.ids)
  | .opt _ x => x.ids
  | .junk => []
def AObj.ids : AObj → List Nat
  | .cells vs _ => vs.flatMap (·.ids)
  | _ => []

/-- The one naming's names are the other's, under g. -/
def Through (g : Nat → Nat) (φ φ' : Names) (is : List Nat) : Prop := ∀ i ∈ is, φ' i = φ (g i)

theorem Sc.rel_ren {g : Nat → Nat} {φ φ' : Names} {m : Mem} {x : Sc} (hi : Through g φ φ' x.ids) {V : Value} (hx : (x.ren g).rel φ m V) : x.rel φ' m V := by
  cases x with
  | d x => exact hx
  | ptr i off => obtain ⟨b, C, e, q, r⟩ := hx; exact ⟨b, C, e, by rw [hi i (by simp [Sc.ids])]; exact q, r⟩
  | eptr i k fo => obtain ⟨b, C, e, q, r⟩ := hx; exact ⟨b, C, e, by rw [hi i (by simp [Sc.ids])]; exact q, r⟩
  | row i e off len cap =>
    rcases hx with ⟨q, r⟩ | ⟨b, C, ad, k, q, r⟩
    · exact .inl ⟨by rw [hi i (by simp [Sc.ids])]; exact q, r⟩
    · exact .inr ⟨b, C, ad, k, by rw [hi i (by simp [Sc.ids])]; exact q, r⟩
  | func f caps =>
    obtain ⟨vs, q, r, s⟩ := hx
    refine ⟨vs, q, by simpa using r, fun j i off hj => ?_⟩
    obtain ⟨b, C, e, t, u⟩ := s j (g i) off (by simp [hj])
    exact ⟨b, C, e, by rw [hi i (by simp only [Sc.ids]; exact List.mem_map.2 ⟨_, List.mem_of_getElem? hj, rfl⟩)]; exact t, u⟩
  | yield l => obtain ⟨b, C, e, q, r⟩ := hx; exact ⟨b, C, e, by rw [hi l (by simp [Sc.ids])]; exact q, r⟩
  | map i => obtain ⟨b, C, e, q, r⟩ := hx; exact ⟨b, C, e, by rw [hi i (by simp [Sc.ids])]; exact q, r⟩
  | upt i e off len =>
    obtain ⟨s, p, q, r⟩ := hx
    exact ⟨s, p, by rw [hi i (by simp [Sc.ids])]; exact q, r⟩
  | junk => trivial

theorem relAll_ren {g : Nat → Nat} {φ φ' : Names} {m : Mem} {xs : List Sc} (hi : Through g φ φ' (xs.flatMap (·.ids))) {vs : List Value} (hx : relAll φ m (xs.map (·.ren g)) vs) : relAll φ' m xs vs := by
  refine ⟨by simpa using hx.1, fun j x hj => ?_⟩
  obtain ⟨v, q, r⟩ := hx.2 j (x.ren g) (by simp [hj])
  exact ⟨v, q, Sc.rel_ren (fun i hm => hi i (List.mem_flatMap.2 ⟨x, List.mem_of_getElem? hj, hm⟩)) r⟩

theorem AV.rel_ren {g : Nat → Nat} {φ φ' : Names} {m : Mem} {x : AV} (hi : Through g φ φ' x.ids) {V : Value} (hx : (x.ren g).rel φ m V) : x.rel φ' m V := by
  cases x with
  | s x => exact Sc.rel_ren hi hx
  | agg xs => obtain ⟨vs, q, r⟩ := hx; exact ⟨vs, q, relAll_ren hi r⟩

theorem AVal.rel_ren {g : Nat → Nat} {φ φ' : Names} {m : Mem} {x : AVal} (hi : Through g φ φ' x.ids) {V : Value} (hx : (x.ren g).rel φ m V) : x.rel φ' m V := by
  cases x with
  | one x => exact AV.rel_ren hi hx
  | tup xs =>
    obtain ⟨vs, q, r, s⟩ := hx
    refine ⟨vs, q, by simpa using r, fun j x hj => ?_⟩
    obtain ⟨v, t, u⟩ := s j (x.ren g) (by simp [hj])
    exact ⟨v, t, AV.rel_ren (fun i hm => hi i (List.mem_flatMap.2 ⟨x, List.mem_of_getElem? hj, hm⟩)) u⟩
  | opt b x => exact ⟨fun e => AV.rel_ren hi (hx.1 e), hx.2⟩
  | junk => trivial

theorem AObj.rel_ren {g : Nat → Nat} {φ φ' : Names} {m : Mem} {W : World} {i : Nat} (h1 : φ' i = φ (g i)) {o : AObj} (hi : Through g φ φ' o.ids) (hx : (o.ren g).rel φ m W (g i)) : o.rel φ' m W i := by
  cases o with
  | cells vs ty =>
    obtain ⟨b, C, e, cs, fr, q, r, s, t⟩ := hx
    exact ⟨b, C, e, cs, fr, by rw [h1]; exact q, r, s, relAll_ren hi t⟩
  | row es ty =>
    rcases hx with ⟨q, r⟩ | ⟨b, C, e, cs, fr, q, r⟩
    · exact .inl ⟨by rw [h1]; exact q, r⟩
    · exact .inr ⟨b, C, e, cs, fr, by rw [h1]; exact q, r⟩
  | other o => obtain ⟨b, C, e, q, r⟩ := hx; exact ⟨b, C, e, by rw [h1]; exact q, r⟩

/-- Other names: the new state's name i is the old one's g i. -/
theorem Conv.rename (g : Nat → Nat) (hfix : ∀ i, i < h → g i = i) (hh : h ≤ S'.nxt)
    (henv : ∀ p ∈ S'.env, lookN p.1 S.env = some (p.2.ren g) ∧ ∀ i ∈ p.2.ids, i < S'.nxt)
    (hheap : ∀ p ∈ S'.heap, p.1 < S'.nxt ∧ lookN (g p.1) S.heap = some (p.2.ren g) ∧ ∀ i ∈ p.2.ids, i < S'.nxt)
    (hinj : ∀ p ∈ S'.heap, ∀ q ∈ S'.heap, g p.1 = g q.1 → p.1 = q.1) : Conv N h S S' := by
  intro c φ m a W _ h0 hc
  refine ⟨fun i => if i < S'.nxt then φ (g i) else none, m, ?_⟩
  have hobj : ∀ i o, S'.fn (.h i) = .o o → i < S'.nxt ∧ S.fn (.h (g i)) = .o (o.ren g) ∧ (i, o) ∈ S'.heap ∧ ∀ k ∈ o.ids, k < S'.nxt := by
    intro i o hi
    simp only [St.fn] at hi
    cases hl : lookN i S'.heap with
    | none => rw [hl] at hi; simp only at hi; split at hi <;> cases hi
    | some o' =>
      rw [hl] at hi
      simp only [Ent.o.injEq] at hi
      subst hi
      have hm := lookN_mem hl
      obtain ⟨q1, q2, q3⟩ := hheap _ hm
      exact ⟨q1, fn_h q2, hm, q3⟩
  refine { os := hc.os, out := hc.out, tape := hc.tape, size := hc.size, frame := hc.frame, mem := hc.mem, m0 := hc.m0, mnew := hc.mnew, ext := ?_, obj := ?_, own := ?_, inj := ?_, free := ?_, env := ?_, nt := hc.nt }
  · intro i s hs
    have hi : i < h := by
      by_cases hx : h ≤ i
      · rw [h0 i hx] at hs; cases hs
      · omega
    simp only [if_pos (Nat.lt_of_lt_of_le hi hh), hfix i hi]
    exact hc.ext i s hs
  · intro i o hi
    obtain ⟨q1, q2, q3, q4⟩ := hobj i o hi
    exact AObj.rel_ren (g := g) (φ := φ) (by simp [q1]) (fun k hk => by simp [q4 k hk]) (hc.obj _ _ q2)
  · intro i o b C e hi hb
    obtain ⟨q1, q2, q3, q4⟩ := hobj i o hi
    simp only [if_pos q1] at hb
    exact hc.own _ _ b C e q2 hb
  · intro i j o o' b C e C' e' hi hj hb hb'
    obtain ⟨q1, q2, q3, q4⟩ := hobj i o hi
    obtain ⟨r1, r2, r3, r4⟩ := hobj j o' hj
    simp only [if_pos q1] at hb
    simp only [if_pos r1] at hb'
    exact hinj _ q3 _ r3 (hc.inj _ _ _ _ b C e C' e' q2 r2 hb hb')
  · intro i hi
    simp only [St.fn] at hi
    cases hl : lookN i S'.heap with
    | some o => rw [hl] at hi; cases hi
    | none =>
      rw [hl] at hi
      simp only at hi
      split at hi
      · rename_i hx; simp [show ¬ i < S'.nxt by omega]
      · cases hi
  · intro t v hv
    simp only [St.fn] at hv
    cases hl : lookN t S'.env with
    | none => rw [hl] at hv; cases hv
    | some v' =>
      rw [hl] at hv
      simp only [Ent.v.injEq] at hv
      subst hv
      obtain ⟨q1, q2⟩ := henv _ (lookN_mem hl)
      obtain ⟨V, r1, r2⟩ := hc.env t _ (fn_t q1)
      exact ⟨V, r1, AVal.rel_ren (fun i hi => by simp [q2 i hi]) r2⟩

end
end Go.Proofs.Hg
