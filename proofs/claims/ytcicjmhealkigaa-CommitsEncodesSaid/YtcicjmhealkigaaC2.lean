/- Calls: what a function's body does, told to its caller. -/
import Derived.Test.YtcicjmhealkigaaC1
set_option linter.unusedVariables false
set_option linter.unusedSimpArgs false
namespace Go.Proofs.Hg
open Go.RowKit

section
variable {P : Program}

/-! ### from the inner names to the outer -/
theorem Sc.rel_unren {g : Nat → Nat} {φ φ' : Names} {m : Mem} {x : Sc} (hi : Through g φ φ' x.ids) {V : Value} (hx : x.rel φ' m V) : (x.ren g).rel φ m V := by
  cases x with
  | d x => exact hx
  | ptr i off => obtain ⟨b, C, e, q, r⟩ := hx; exact ⟨b, C, e, by rw [← hi i (by simp [Sc.ids])]; exact q, r⟩
  | eptr i k fo => obtain ⟨b, C, e, q, r⟩ := hx; exact ⟨b, C, e, by rw [← hi i (by simp [Sc.ids])]; exact q, r⟩
  | row i e off len cap =>
    rcases hx with ⟨q, r⟩ | ⟨b, C, ad, k, q, r⟩
    · exact .inl ⟨by rw [← hi i (by simp [Sc.ids])]; exact q, r⟩
    · exact .inr ⟨b, C, ad, k, by rw [← hi i (by simp [Sc.ids])]; exact q, r⟩
  | func f caps =>
    obtain ⟨vs, q, r, s⟩ := hx
    refine ⟨vs, q, by simpa using r, fun j i off hj => ?_⟩
    simp only [List.getElem?_map, Option.map_eq_some_iff, Prod.mk.injEq] at hj
    obtain ⟨p, hp, rfl, rfl⟩ := hj
    obtain ⟨b, C, e, t, u⟩ := s j p.1 p.2 hp
    exact ⟨b, C, e, by rw [← hi p.1 (by simp only [Sc.ids]; exact List.mem_map.2 ⟨_, List.mem_of_getElem? hp, rfl⟩)]; exact t, u⟩
  | yield l => obtain ⟨b, C, e, q, r⟩ := hx; exact ⟨b, C, e, by rw [← hi l (by simp [Sc.ids])]; exact q, r⟩
  | map i => obtain ⟨b, C, e, q, r⟩ := hx; exact ⟨b, C, e, by rw [← hi i (by simp [Sc.ids])]; exact q, r⟩
  | upt i e off len =>
    obtain ⟨s, p, q, r⟩ := hx
    exact ⟨s, p, by rw [← hi i (by simp [Sc.ids])]; exact q, r⟩
  | junk => trivial

theorem relAll_unren {g : Nat → Nat} {φ φ' : Names} {m : Mem} {xs : List Sc} (hi : Through g φ φ' (xs.flatMap (·.ids))) {vs : List Value} (hx : relAll φ' m xs vs) : relAll φ m (xs.map (·.ren g)) vs := by
  refine ⟨by simpa using hx.1, fun j x hj => ?_⟩
  simp only [List.getElem?_map, Option.map_eq_some_iff] at hj
  obtain ⟨y, hy, rfl⟩ := hj
  obtain ⟨v, q, r⟩ := hx.2 j y hy
  exact ⟨v, q, Sc.rel_unren (fun i hm => hi i (List.mem_flatMap.2 ⟨y, List.mem_of_getElem? hy, hm⟩)) r⟩

theorem AV.rel_unren {g : Nat → Nat} {φ φ' : Names} {m : Mem} {x : AV} (hi : Through g φ φ' x.ids) {V : Value} (hx : x.rel φ' m V) : (x.ren g).rel φ m V := by
  cases x with
  | s x => exact Sc.rel_unren hi hx
  | agg xs => obtain ⟨vs, q, r⟩ := hx; exact ⟨vs, q, relAll_unren hi r⟩

theorem AVal.rel_unren {g : Nat → Nat} {φ φ' : Names} {m : Mem} {x : AVal} (hi : Through g φ φ' x.ids) {V : Value} (hx : x.rel φ' m V) : (x.ren g).rel φ m V := by
  cases x with
  | one x => exact AV.rel_unren hi hx
  | tup xs =>
    obtain ⟨vs, q, r, s⟩ := hx
    refine ⟨vs, q, by simpa using r, fun j x hj => ?_⟩
    simp only [List.getElem?_map, Option.map_eq_some_iff] at hj
    obtain ⟨y, hy, rfl⟩ := hj
    obtain ⟨v, t, u⟩ := s j y hy
    exact ⟨v, t, AV.rel_unren (fun i hm => hi i (List.mem_flatMap.2 ⟨y, List.mem_of_getElem? hy, hm⟩)) u⟩
  | opt b x => exact ⟨fun e => AV.rel_unren hi (hx.1 e), hx.2⟩
  | junk => trivial

theorem AObj.rel_unren {g : Nat → Nat} {φ φ' : Names} {m : Mem} {W : World} {i : Nat} (h1 : φ' i = φ (g i)) {o : AObj} (hi : Through g φ φ' o.ids) (hx : o.rel φ' m W i) : (o.ren g).rel φ m W (g i) := by
  cases o with
  | cells vs ty =>
    obtain ⟨b, C, e, cs, fr, q, r, s, t⟩ := hx
    exact ⟨b, C, e, cs, fr, by rw [← h1]; exact q, r, s, relAll_unren hi t⟩
  | row es ty =>
    rcases hx with ⟨q, r⟩ | ⟨b, C, e, cs, fr, q, r⟩
    · exact .inl ⟨by rw [← h1]; exact q, r⟩
    · exact .inr ⟨b, C, e, cs, fr, by rw [← h1]; exact q, r⟩
  | other o => obtain ⟨b, C, e, q, r⟩ := hx; exact ⟨b, C, e, by rw [← h1]; exact q, r⟩

/-- A call as its caller and its body see it: the function, the state that its body starts from, how many objects are handed on, their names at the caller; at the end: the value, the state, the name of the object that is new to the caller (if there is one) and the names at the caller of what is left. -/
structure CallIn where
  fn : Func
  code : Code
  S0 : St
  k : Nat
  g0 : Nat → Nat

structure CallOut where
  val : AVal
  S2 : St
  ex : Option Nat
  g1 : Nat → Nat

/-- The names that are told to the caller. -/
def CallOut.told (o : CallOut) (i : CallIn) (fresh : Nat) (x : Nat) : Prop := (x < i.k ∧ (lookN x i.S0.heap).isSome = true ∧ o.g1 x = i.g0 x) ∨ (o.ex = some x ∧ i.k ≤ x ∧ o.g1 x = fresh)

/-- What the caller learns. -/
structure Told (i : CallIn) (o : CallOut) (fresh : Nat) (r : Res) : Prop where
  val : r.val = o.val.ren o.g1
  plain : ∀ b x, o.val ≠ .opt b x
  vids : ∀ x ∈ o.val.ids, o.told i fresh x
  fr : r.fr = o.ex.isSome
  exn : ∀ x, o.ex = some x → ∃ p ∈ r.wr, p.1 = fresh ∧ p.2 ≠ .none
  hand : ∀ p ∈ i.S0.heap, ∃ q ∈ r.wr, q.1 = i.g0 p.1
  wr : ∀ p ∈ r.wr, (p.2 = .none ∧ ∃ x ∈ i.S0.heap, p.1 = i.g0 x.1) ∨ ∃ x ob, lookN x o.S2.heap = some ob ∧ p.1 = o.g1 x ∧ p.2 = .o (ob.ren o.g1) ∧ o.told i fresh x ∧ ∀ y ∈ ob.ids, o.told i fresh y

/-- What the caller must have. -/
structure Handed (i : CallIn) (nargs : Nat) (r : Res) (args : List AV) : Prop where
  len : args.length = nargs ∧ nargs ≤ i.fn.ntmps
  env : ∀ p ∈ i.S0.env, ∃ x, args[p.1]? = some x ∧ p.2.ren i.g0 = .one x ∧ ∀ y ∈ p.2.ids, y < i.k
  heap : ∀ p ∈ i.S0.heap, p.1 < i.k ∧ (i.g0 p.1, p.2.ren i.g0) ∈ r.rd ∧ ∀ y ∈ p.2.ids, y < i.k
  nxt : i.S0.nxt = i.k
  inj : ∀ p ∈ i.S0.heap, ∀ q ∈ i.S0.heap, i.g0 p.1 = i.g0 q.1 → p.1 = q.1

variable {c : Ctx} {φ : Names} {m : Mem} {f : StF} {a : Act} {W : World}

def inCtx (i : CallIn) (φ : Names) (m : Mem) (W : World) : Ctx :=
  { w0 := W, m0 := m, φ0 := fun x => if x < i.k then φ (i.g0 x) else none
    X := fun b => ∃ x o C e, lookN x i.S0.heap = some o ∧ φ (i.g0 x) = some (.blk b C e)
    nt := i.fn.ntmps }

theorem call_start {i : CallIn} {nargs : Nat} {r : Res} {args : List AV} (hh : Handed i nargs r args) {fresh : Nat} (hrd : r.Reads fresh f) (hc : RelC c φ m f a W) {vals : List Value} (hl : vals.length = args.length)
    (hv : ∀ (j : Nat) (x : AV), args[j]? = some x → ∃ V, vals[j]? = some V ∧ x.rel φ m V) :
    RelC (inCtx i φ m W) (inCtx i φ m W).φ0 m i.S0.fn { tmps := vals.toArray ++ Array.replicate (i.fn.ntmps - vals.toArray.size) undef, defers := [] } W := by
  have hthr : ∀ (is : List Nat), (∀ y ∈ is, y < i.k) → Through i.g0 φ (inCtx i φ m W).φ0 is := fun is hs y hy => by simp only [inCtx]; rw [if_pos (hs y hy)]
  have hobj : ∀ x o, i.S0.fn (.h x) = .o o → (x, o) ∈ i.S0.heap ∧ lookN x i.S0.heap = some o := by
    intro x o hx
    simp only [St.fn] at hx
    cases hl : lookN x i.S0.heap with
    | none => rw [hl] at hx; simp only at hx; split at hx <;> cases hx
    | some o' =>
      rw [hl] at hx
      simp only [Ent.o.injEq] at hx
      subst hx
      exact ⟨lookN_mem hl, rfl⟩
  have hcall : ∀ x o, (x, o) ∈ i.S0.heap → f (.h (i.g0 x)) = .o (o.ren i.g0) := fun x o hx => hrd.1 _ (hh.heap _ hx).2.1
  refine { os := rfl, out := rfl, tape := rfl, size := Nat.le_refl _, frame := fun _ _ _ => rfl, mem := hc.mem, m0 := MemLe.refl m, mnew := fun _ _ h => .inl h, ext := NamesLe.refl _, obj := ?_, own := ?_, inj := ?_, free := ?_, env := ?_, nt := ?_ }
  · intro x o hx
    obtain ⟨h1, h2⟩ := hobj x o hx
    exact AObj.rel_ren (g := i.g0) (φ := φ) (by simp only [inCtx]; rw [if_pos (hh.heap _ h1).1]) (hthr _ (hh.heap _ h1).2.2) (hc.obj _ _ (hcall x o h1))
  · intro x o b C e hx hb
    obtain ⟨h1, h2⟩ := hobj x o hx
    simp only [inCtx] at hb
    rw [if_pos (hh.heap _ h1).1] at hb
    obtain ⟨q1, q2, q3⟩ := hc.own _ _ b C e (hcall x o h1) hb
    exact ⟨.inr ⟨x, o, C, e, h2, hb⟩, q2, q3⟩
  · intro x y o o' b C e C' e' hx hy hb hb'
    obtain ⟨h1, _⟩ := hobj x o hx
    obtain ⟨h2, _⟩ := hobj y o' hy
    simp only [inCtx] at hb hb'
    rw [if_pos (hh.heap _ h1).1] at hb
    rw [if_pos (hh.heap _ h2).1] at hb'
    exact hh.inj _ h1 _ h2 (hc.inj _ _ _ _ b C e C' e' (hcall x o h1) (hcall y o' h2) hb hb')
  · intro x hx
    simp only [St.fn] at hx
    cases hl : lookN x i.S0.heap with
    | some o => rw [hl] at hx; cases hx
    | none =>
      rw [hl] at hx
      simp only [hh.nxt] at hx
      split at hx
      · rename_i hk; simp only [inCtx]; rw [if_neg (by omega)]
      · cases hx
  · intro t v ht
    simp only [St.fn] at ht
    cases hl' : lookN t i.S0.env with
    | none => rw [hl'] at ht; cases ht
    | some v' =>
      rw [hl'] at ht
      simp only [Ent.v.injEq] at ht
      subst ht
      obtain ⟨x, h1, h2, h3⟩ := hh.env _ (lookN_mem hl')
      obtain ⟨V, h4, h5⟩ := hv t x h1
      refine ⟨V, ?_, AVal.rel_ren (g := i.g0) (φ := φ) (hthr _ h3) (by rw [h2]; exact h5)⟩
      have hlt := (List.getElem?_eq_some_iff.1 h4).1
      rw [Array.getElem?_append_left (by simpa using hlt)]
      simpa using h4
  · have := hh.len
    simp only [inCtx, Array.size_append, List.size_toArray, Array.size_replicate]
    omega

theorem wrApp_cases (wr : List (Nat × Ent)) (f : StF) (n : Nat) : (wrApp wr f (.h n) = f (.h n) ∧ ∀ p ∈ wr, p.1 ≠ n) ∨ ∃ p ∈ wr, p.1 = n ∧ wrApp wr f (.h n) = p.2 := by
  induction wr with
  | nil => exact .inl ⟨rfl, fun p hp => by simp at hp⟩
  | cons p wr ih =>
    rw [wrApp_cons]
    by_cases e : n = p.1
    · subst e; exact .inr ⟨p, List.mem_cons_self .., rfl, upd_self _ _ _⟩
    · rw [upd_other (by simpa using e)]
      rcases ih with ⟨h1, h2⟩ | ⟨q, h1, h2⟩
      · exact .inl ⟨h1, fun q hq => by rcases List.mem_cons.1 hq with rfl | h; exact fun x => e x.symm; exact h2 q h⟩
      · exact .inr ⟨q, List.mem_cons_of_mem _ h1, h2⟩

theorem call_end {i : CallIn} {nargs : Nat} {r : Res} {args : List AV} (hh : Handed i nargs r args) {o : CallOut} {fresh : Nat} (ht : Told i o fresh r) (hrd : r.Reads fresh f) (hc : RelC c φ m f a W)
    {φc : Names} {mc : Mem} {a' : Act} {W' : World} (he : RelC (inCtx i φ m W) φc mc o.S2.fn a' W') {V : Value} (hval : o.val.rel φc mc V) :
    ∃ φ' m', RelC c φ' m' (wrApp r.wr f) a W' ∧ NamesLe φ φ' ∧ MemLe m m' ∧ r.val.rel φ' m' V := by
  have hcall : ∀ x o, (x, o) ∈ i.S0.heap → f (.h (i.g0 x)) = .o (o.ren i.g0) := fun x o hx => hrd.1 _ (hh.heap _ hx).2.1
  -- the caller's names behind the call
  let φ2 : Names := match o.ex with | some x => (match φc x with | some s => updN φ fresh s | none => φ) | none => φ
  have hfree : o.ex.isSome = true → φ fresh = none := fun hx => hc.free _ (hrd.2 (by rw [ht.fr]; exact hx))
  have hle : NamesLe φ φ2 := by
    simp only [φ2]
    split
    · rename_i x hx
      split
      · exact updN_le _ (hfree (by simp [hx]))
      · exact NamesLe.refl φ
    · exact NamesLe.refl φ
  have hnamed : ∀ x, x < i.k → (lookN x i.S0.heap).isSome = true → ∃ s, φ (i.g0 x) = some s ∧ φc x = some s := by
    intro x hx hs
    obtain ⟨ob, hob⟩ := Option.isSome_iff_exists.1 hs
    obtain ⟨s, hs1⟩ := AObj.rel_name (hc.obj _ _ (hcall x ob (lookN_mem hob)))
    refine ⟨s, hs1, he.ext x s ?_⟩
    simp only [inCtx]
    rw [if_pos hx]
    exact hs1
  -- outer and inner names agree on what is told; where the inner one is there
  have hthr : ∀ x, o.told i fresh x → (∃ s, φc x = some s) → φc x = φ2 (o.g1 x) := by
    rintro x (⟨h1, h2, h3⟩ | ⟨h1, h2, h3⟩) ⟨s, hs⟩
    · obtain ⟨s', q1, q2⟩ := hnamed x h1 h2
      rw [h3, q2, hle _ _ q1]
    · rw [h3]
      simp only [φ2, h1, hs, updN_self]
  have hids : ∀ (x : Sc) (V : Value), x.rel φc mc V → ∀ y ∈ x.ids, ∃ s, φc y = some s := by
    intro x V hx y hy
    cases x with
    | d x => simp [Sc.ids] at hy
    | ptr i off => simp [Sc.ids] at hy; subst hy; obtain ⟨b, C, e, q, _⟩ := hx; exact ⟨_, q⟩
    | eptr i k fo => simp [Sc.ids] at hy; subst hy; obtain ⟨b, C, e, q, _⟩ := hx; exact ⟨_, q⟩
    | row i e off len cap =>
      simp [Sc.ids] at hy; subst hy
      rcases hx with ⟨q, _⟩ | ⟨b, C, ad, k, q, _⟩
      · exact ⟨_, q⟩
      · exact ⟨_, q⟩
    | func f caps =>
      simp only [Sc.ids, List.mem_map] at hy
      obtain ⟨p, hp, rfl⟩ := hy
      obtain ⟨vs, _, _, s⟩ := hx
      obtain ⟨j, hj, hjp⟩ := List.getElem_of_mem hp
      obtain ⟨b, C, e, t, _⟩ := s j p.1 p.2 (by rw [List.getElem?_eq_getElem hj, hjp])
      exact ⟨_, t⟩
    | yield l => simp [Sc.ids] at hy; subst hy; obtain ⟨b, C, e, q, _⟩ := hx; exact ⟨_, q⟩
    | map i => simp [Sc.ids] at hy; subst hy; obtain ⟨b, C, e, q, _⟩ := hx; exact ⟨_, q⟩
    | upt i e off len => simp [Sc.ids] at hy; subst hy; obtain ⟨s, p, q, _⟩ := hx; exact ⟨s, q⟩
    | junk => simp [Sc.ids] at hy
  have hidsL : ∀ (xs : List Sc) (vs : List Value), relAll φc mc xs vs → ∀ y ∈ xs.flatMap (·.ids), ∃ s, φc y = some s := by
    intro xs vs hx y hy
    obtain ⟨x, hx1, hx2⟩ := List.mem_flatMap.1 hy
    obtain ⟨j, hj, hjp⟩ := List.getElem_of_mem hx1
    obtain ⟨v, q1, q2⟩ := hx.2 j x (by rw [List.getElem?_eq_getElem hj, hjp])
    exact hids x v q2 y hx2
  have hidsA : ∀ (x : AV) (V : Value), x.rel φc mc V → ∀ y ∈ x.ids, ∃ s, φc y = some s := by
    intro x V hx y hy
    cases x with
    | s x => exact hids x V hx y hy
    | agg xs => obtain ⟨vs, _, h2⟩ := hx; exact hidsL xs vs h2 y hy
  have hown : ∀ b, b < W.heap.size → (inCtx i φ m W).X b → (c.w0.heap.size ≤ b ∨ c.X b) ∧ m b = none := by
    rintro b hb ⟨x, ob, C, e, h1, h2⟩
    obtain ⟨q1, q2, q3⟩ := hc.own _ _ b C e (hcall x ob (lookN_mem h1)) h2
    exact ⟨q1, q2⟩
  -- a written object: the inner one
  have htouch : ∀ n ob, wrApp r.wr f (.h n) = .o ob → (∃ p ∈ r.wr, p.1 = n) → ∃ x ob', lookN x o.S2.heap = some ob' ∧ n = o.g1 x ∧ ob = ob'.ren o.g1 ∧ o.told i fresh x ∧ ∀ y ∈ ob'.ids, o.told i fresh y := by
    rintro n ob hn ⟨p0, hp0, hp0n⟩
    rcases wrApp_cases r.wr f n with ⟨h1, h2⟩ | ⟨p, h1, h2, h3⟩
    · exact absurd hp0n (h2 p0 hp0)
    · rcases ht.wr p h1 with ⟨h4, _⟩ | ⟨x, ob', q1, q2, q3, q4, q5⟩
      · rw [h3, h4] at hn; cases hn
      · rw [h3, q3] at hn
        injection hn with hn
        exact ⟨x, ob', q1, by rw [← h2, q2], hn.symm, q4, q5⟩
  have hname : ∀ x ob', lookN x o.S2.heap = some ob' → o.told i fresh x → φc x = φ2 (o.g1 x) := fun x ob' h1 h2 => hthr x h2 (AObj.rel_name (he.obj x ob' (fn_h h1)))
  have hun : ∀ n, (∀ p ∈ r.wr, p.1 ≠ n) → φ2 n = φ n := by
    intro n hn
    cases hx : o.ex with
    | none =>
      have : φ2 = φ := by simp only [φ2, hx]
      rw [this]
    | some x =>
      obtain ⟨p, hp, hp1, _⟩ := ht.exn x hx
      cases hs : φc x with
      | none =>
        have : φ2 = φ := by simp only [φ2, hx, hs]
        rw [this]
      | some s =>
        have : φ2 = updN φ fresh s := by simp only [φ2, hx, hs]
        rw [this, updN_other (fun e => hn p hp (by rw [hp1, e]))]
  -- an untouched object is no handed one
  have hapart : ∀ n ob b C e, (∀ p ∈ r.wr, p.1 ≠ n) → f (.h n) = .o ob → φ n = some (.blk b C e) → ¬ (inCtx i φ m W).X b ∧ b < W.heap.size ∧ mc b = none := by
    intro n ob b C e hn hf hb
    obtain ⟨w1, w2, w3⟩ := hc.own n ob b C e hf hb
    have hX : ¬ (inCtx i φ m W).X b := by
      rintro ⟨x, ob', C', e', h1, h2⟩
      have := hc.inj n (i.g0 x) _ _ b C e C' e' hf (hcall x ob' (lookN_mem h1)) hb h2
      obtain ⟨q, q1, q2⟩ := ht.hand _ (lookN_mem h1)
      exact hn q q1 (by rw [q2, ← this])
    refine ⟨hX, w3, ?_⟩
    cases hm : mc b with
    | none => rfl
    | some ob' =>
      rcases he.mnew b ob' hm with h1 | h1 | h1
      · simp only [inCtx] at h1; rw [w2] at h1; cases h1
      · simp only [inCtx] at h1; omega
      · exact absurd h1 hX
  refine ⟨φ2, mc, ?_, hle, he.m0, ?_⟩
  · refine hc.step (inCtx i φ m W).X he.os he.out he.tape he.size hle he.m0 (fun b hb hx => he.frame b hb hx) hown ?_ ?_ ?_ ?_ ?_
    · intro b ob hb
      rcases he.mnew b ob hb with h1 | h1 | h1
      · exact .inl h1
      · exact .inr ⟨he.mem b ob hb, .inl (by have := hc.size; simp only [inCtx] at h1; omega)⟩
      · refine .inr ⟨he.mem b ob hb, ?_⟩
        obtain ⟨x, ob', C', e', q1, q2⟩ := h1
        exact (hc.own _ _ b C' e' (hcall x ob' (lookN_mem q1)) q2).1
    · intro n ob hn
      rcases wrApp_cases r.wr f n with ⟨h1, h2⟩ | ⟨p, h1, h2, h3⟩
      · rw [h1] at hn
        refine .inl ⟨hn, fun b C e hb => ?_⟩
        obtain ⟨q1, _, q3⟩ := hapart n ob b C e h2 hn hb
        exact ⟨q1, q3⟩
      · obtain ⟨x, ob', q1, q2, q3, q4, q5⟩ := htouch n ob hn ⟨p, h1, h2⟩
        subst q2
        subst q3
        have hn1 := hname x ob' q1 q4
        refine .inr ⟨AObj.rel_unren hn1 (fun y hy => hthr y (q5 y hy) ?_) (he.obj x ob' (fn_h q1)), fun b C e hb => ?_⟩
        · have hr := he.obj x ob' (fn_h q1)
          cases ob' with
          | cells vs ty => obtain ⟨b, C, e, cs, fr, _, _, _, h9⟩ := hr; exact hidsL vs _ h9 y hy
          | row es ty => simp [AObj.ids] at hy
          | other o => simp [AObj.ids] at hy
        · rw [← hn1] at hb
          obtain ⟨w1, w2, w3⟩ := he.own x ob' b C e (fn_h q1) hb
          refine ⟨?_, w2, w3⟩
          rcases w1 with w1 | w1
          · exact .inl (by have := hc.size; simp only [inCtx] at w1; omega)
          · obtain ⟨y, ob2, C2, e2, r1, r2⟩ := w1
            exact (hc.own _ _ b C2 e2 (hcall y ob2 (lookN_mem r1)) r2).1
    · intro x y o1 o2 b C e C' e' hx hy bx by_
      rcases wrApp_cases r.wr f x with ⟨h1, h2⟩ | ⟨p, h1, h2, h3⟩ <;> rcases wrApp_cases r.wr f y with ⟨k1, k2⟩ | ⟨q, k1, k2, k3⟩
      · rw [h1] at hx; rw [k1] at hy
        rw [hun x h2] at bx
        rw [hun y k2] at by_
        exact hc.inj x y o1 o2 b C e C' e' hx hy bx by_
      · rw [h1] at hx
        rw [hun x h2] at bx
        obtain ⟨z, ob', q1, q2, q3, q4, q5⟩ := htouch y o2 hy ⟨q, k1, k2⟩
        rw [q2, ← hname z ob' q1 q4] at by_
        obtain ⟨w1, w2, w3⟩ := he.own z ob' b C' e' (fn_h q1) by_
        obtain ⟨r1, r2, r3⟩ := hapart x o1 b C e h2 hx bx
        rcases w1 with w1 | w1
        · simp only [inCtx] at w1; omega
        · exact absurd w1 r1
      · rw [k1] at hy
        rw [hun y k2] at by_
        obtain ⟨z, ob', q1, q2, q3, q4, q5⟩ := htouch x o1 hx ⟨p, h1, h2⟩
        rw [q2, ← hname z ob' q1 q4] at bx
        obtain ⟨w1, w2, w3⟩ := he.own z ob' b C e (fn_h q1) bx
        obtain ⟨r1, r2, r3⟩ := hapart y o2 b C' e' k2 hy by_
        rcases w1 with w1 | w1
        · simp only [inCtx] at w1; omega
        · exact absurd w1 r1
      · obtain ⟨z, ob', q1, q2, q3, q4, q5⟩ := htouch x o1 hx ⟨p, h1, h2⟩
        obtain ⟨z', ob2, r1, r2, r3, r4, r5⟩ := htouch y o2 hy ⟨q, k1, k2⟩
        rw [q2, ← hname z ob' q1 q4] at bx
        rw [r2, ← hname z' ob2 r1 r4] at by_
        rw [q2, r2, he.inj z z' ob' ob2 b C e C' e' (fn_h q1) (fn_h r1) bx by_]
    · intro n hn
      rcases wrApp_cases r.wr f n with ⟨h1, h2⟩ | ⟨p, h1, h2, h3⟩
      · rw [h1] at hn
        rw [hun n h2]
        exact hc.free n hn
      · rw [h3] at hn
        rcases ht.wr p h1 with ⟨h4, _⟩ | ⟨x, ob', q1, q2, q3, q4, q5⟩
        · rw [h4] at hn; cases hn
        · rw [q3] at hn; cases hn
    · intro t v hv
      rwa [wrApp_t] at hv
  · rw [ht.val]
    refine AVal.rel_unren (fun y hy => hthr y (ht.vids y hy) ?_) hval
    cases hvv : o.val with
    | one x => rw [hvv] at hval hy; exact hidsA x V hval y hy
    | tup xs =>
      rw [hvv] at hval hy
      obtain ⟨vs, _, _, h3⟩ := hval
      obtain ⟨x, hx1, hx2⟩ := List.mem_flatMap.1 hy
      obtain ⟨j, hj, hjp⟩ := List.getElem_of_mem hx1
      obtain ⟨v, q1, q2⟩ := h3 j x (by rw [List.getElem?_eq_getElem hj, hjp])
      exact hidsA x v q2 y hx2
    | opt b x => exact absurd hvv (ht.plain b x)
    | junk => rw [hvv] at hy; simp [AVal.ids] at hy

end
end Go.Proofs.Hg
