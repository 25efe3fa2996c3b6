/- Memory that is put by and taken out again; another activation; another root. -/
import Derived.Test.YtcicjmhealkigaaD1
import Derived.RangeFuncRecord
set_option linter.unusedVariables false
set_option linter.unusedSimpArgs false
namespace Go.Proofs.Hg
open Go.RowKit

/-! ### what values lean on: the cells alone -/
def MemC (m m' : Mem) : Prop := ∀ b o v, memCell m b o = some v → memCell m' b o = some v

mutual
theorem D.rel_mc {m m' : Mem} (h : MemC m m') : ∀ (d : D) (V : Value), d.rel m V → d.rel m' V
  | .bool _, _, hr | .int _ _, _, hr | .float _ _, _, hr | .complex _ _ _, _, hr | .str _, _, hr | .nilp, _, hr | .nilf, _, hr | .nilm, _, hr | .nili, _, hr => by
    unfold D.rel at *; exact hr
  | .ptr cs, V, hr => by
    unfold D.rel at *
    obtain ⟨b, o, hv, hc⟩ := hr
    exact ⟨b, o, hv, relCells_mc h cs b o hc⟩
  | .slice z e es, V, hr => by
    unfold D.rel at *
    rcases hr with hr | ⟨hz, ad, c, hv, hc, he, hrow⟩
    · exact .inl hr
    · exact .inr ⟨hz, ad, c, hv, hc, he, fun hn => ⟨(hrow hn).1, relRows_mc h es _ _ (hrow hn).2⟩⟩
  | .func f caps, V, hr => by
    unfold D.rel at *
    obtain ⟨vs, h1, h2⟩ := hr
    exact ⟨vs, h1, relVals_mc h caps vs h2⟩
theorem relVals_mc {m m' : Mem} (h : MemC m m') : ∀ (ds : List D) (vs : List Value), D.relVals m ds vs → D.relVals m' ds vs
  | [], _, hr => by unfold D.relVals at *; exact hr
  | d :: ds, vs, hr => by
    unfold D.relVals at *
    obtain ⟨v, r, h1, h2, h3⟩ := hr
    exact ⟨v, r, h1, D.rel_mc h d v h2, relVals_mc h ds r h3⟩
theorem relCells_mc {m m' : Mem} (h : MemC m m') : ∀ (ds : List D) (b o : Nat), D.relCells m ds b o → D.relCells m' ds b o
  | [], _, _, _ => trivial
  | d :: ds, b, o, hr => by
    unfold D.relCells at *
    obtain ⟨⟨v, h1, h2⟩, h3⟩ := hr
    exact ⟨⟨v, h _ _ _ h1, D.rel_mc h d v h2⟩, relCells_mc h ds _ _ h3⟩
theorem relRows_mc {m m' : Mem} (h : MemC m m') : ∀ (es : List (List D)) (b o : Nat), D.relRows m es b o → D.relRows m' es b o
  | [], _, _, _ => trivial
  | r :: rs, b, o, hr => by
    unfold D.relRows at *
    exact ⟨relCells_mc h r _ _ hr.1, relRows_mc h rs _ _ hr.2⟩
end

section
variable {φ : Names} {m m' : Mem}

theorem Sc.rel_mc (hm : MemC m m') (x : Sc) (V : Value) (h : x.rel φ m V) : x.rel φ m' V := by
  cases x with
  | d x => exact D.rel_mc hm x V h
  | ptr i off => exact h
  | eptr i k fo => exact h
  | row i e off len cap => exact h
  | func f caps => exact h
  | yield l => exact h
  | map i => exact h
  | upt i e off len => exact h
  | junk => trivial

theorem relAll_mc (hm : MemC m m') {xs : List Sc} {vs : List Value} (h : relAll φ m xs vs) : relAll φ m' xs vs :=
  ⟨h.1, fun j x hx => let ⟨v, h1, h2⟩ := h.2 j x hx; ⟨v, h1, Sc.rel_mc hm x v h2⟩⟩

theorem AV.rel_mc (hm : MemC m m') (x : AV) (V : Value) (h : x.rel φ m V) : x.rel φ m' V := by
  cases x with
  | s x => exact Sc.rel_mc hm x V h
  | agg xs => obtain ⟨vs, h1, h2⟩ := h; exact ⟨vs, h1, relAll_mc hm h2⟩

theorem AVal.rel_mc (hm : MemC m m') (x : AVal) (V : Value) (h : x.rel φ m V) : x.rel φ m' V := by
  cases x with
  | one x => exact AV.rel_mc hm x V h
  | tup xs =>
    obtain ⟨vs, h1, h2, h3⟩ := h
    exact ⟨vs, h1, h2, fun j x hj => let ⟨v, h4, h5⟩ := h3 j x hj; ⟨v, h4, AV.rel_mc hm x v h5⟩⟩
  | opt g x => exact ⟨fun hg => AV.rel_mc hm x V (h.1 hg), h.2⟩
  | junk => trivial

theorem AObj.rel_mc {W : World} {i : Nat} (hm : MemC m m') {o : AObj} (h : o.rel φ m W i) : o.rel φ m' W i := by
  cases o with
  | cells vs ty =>
    obtain ⟨b, C, e, cs, fr, h1, h2, h0, h3⟩ := h
    exact ⟨b, C, e, cs, fr, h1, h2, h0, relAll_mc hm h3⟩
  | row es ty =>
    rcases h with h | ⟨b, C, e, cs, fr, h1, h2, h0, h3, h4, h5, h6, h7⟩
    · exact .inl h
    · exact .inr ⟨b, C, e, cs, fr, h1, h2, h0, h3, h4, h5, h6, fun j d hj => let ⟨v, q1, q2⟩ := h7 j d hj; ⟨v, q1, D.rel_mc hm d v q2⟩⟩
  | other o => exact h

/-- An object's block is none of the machine's own. -/
theorem AObj.rel_aux {W : World} {i : Nat} {o : AObj} (h : o.rel φ m W i) {b C e : Nat} (hb : φ i = some (.blk b C e)) : ∃ O, W.heap[b]? = some O ∧ auxO O = false := by
  cases o with
  | cells vs ty =>
    obtain ⟨b', C', e', cs, fr, h1, h2, _⟩ := h
    rw [hb] at h1; injection h1 with h1; injection h1 with h1 _ _; subst h1
    exact ⟨_, h2, rfl⟩
  | row es ty =>
    rcases h with ⟨h1, _⟩ | ⟨b', C', e', cs, fr, h1, h2, _⟩
    · rw [hb] at h1; cases h1
    · rw [hb] at h1; injection h1 with h1; injection h1 with h1 _ _; subst h1
      exact ⟨_, h2, rfl⟩
  | other o =>
    obtain ⟨b', C', e', h1, h2, h3⟩ := h
    rw [hb] at h1; injection h1 with h1; injection h1 with h1 _ _; subst h1
    exact ⟨_, h2, h3⟩
end

/-- Memory without some blocks, and with one more. -/
def Mem.cut (m : Mem) (l : List Nat) : Mem := fun b => if b ∈ l then none else m b
def Mem.add (m : Mem) (b : Nat) (o : Obj) : Mem := fun k => if k = b then some o else m k

theorem auxO_cell {m : Mem} {b : Nat} {O : Obj} (h : m b = some O) (ha : auxO O = true) (o : Nat) : memCell m b o = none := by
  unfold memCell
  rw [h]
  cases O <;> first | rfl | cases ha

section
variable {c : Ctx} {φ : Names} {m : Mem} {f : StF} {a : Act} {W : World}

theorem RelC.stable (h : RelC c φ m f a W) {W' : World} {m' : Mem} (hb : Below W.heap.size W W') (hm : MemLe m m') (hin : ∀ b o, m' b = some o → W'.heap[b]? = some o) (hnew : ∀ b o, m' b = some o → m b = some o ∨ W.heap.size ≤ b) :
    RelC c φ m' f a W' := by
  refine h.step (fun _ => False) hb.os hb.output hb.tape hb.size (NamesLe.refl φ) hm (fun b hb' _ => hb.block b hb') (fun _ _ x => x.elim) ?_ ?_ h.inj h.free (fun _ _ x => x)
  · intro b o hbo
    rcases hnew b o hbo with h1 | h1
    · exact .inl h1
    · exact .inr ⟨hin b o hbo, .inl (Nat.le_trans h.size h1)⟩
  · intro i o hi
    refine .inl ⟨hi, fun b C e hbb => ⟨id, ?_⟩⟩
    obtain ⟨q1, q2, q3⟩ := h.own i o b C e hi hbb
    cases hx : m' b with
    | none => rfl
    | some o' =>
      rcases hnew b o' hx with h1 | h1
      · rw [q2] at h1; cases h1
      · omega

theorem RelC.below (h : RelC c φ m f a W) {W' : World} (hb : Below W.heap.size W W') : RelC c φ m f a W' :=
  h.stable hb (MemLe.refl m) (fun b o hbo => by
    have := h.mem b o hbo
    rw [hb.block b (Array.getElem?_eq_some_iff.1 this).1]
    exact this) (fun _ _ hbo => .inl hbo)

/-- One of the machine's own blocks is written. -/
theorem RelC.putAux (h : RelC c φ m f a W) {b : Nat} {O : Obj} (hO : W.heap[b]? = some O) (ha : auxO O = true) (hm : m b = none) (hb : c.w0.heap.size ≤ b ∨ c.X b) (O' : Obj) : RelC c φ m f a (W.putObj b O') := by
  refine h.step (fun k => k = b) rfl rfl rfl (by simp) (NamesLe.refl φ) (MemLe.refl m) (fun k _ hk => World.putObj_heap_other hk) ?_ (fun _ _ x => .inl x) ?_ h.inj h.free (fun _ _ x => x)
  · rintro k hk rfl
    exact ⟨hb, hm⟩
  · intro i o hi
    refine .inl ⟨hi, fun k C e hk => ⟨?_, (h.own i o k C e hi hk).2.1⟩⟩
    rintro rfl
    obtain ⟨O2, q1, q2⟩ := AObj.rel_aux (h.obj i o hi) hk
    rw [hO] at q1; injection q1 with q1; subst q1
    rw [ha] at q2; cases q2

/-- One of the machine's own blocks is held fast for a while. -/
theorem RelC.hold (h : RelC c φ m f a W) {b : Nat} {O : Obj} (hO : W.heap[b]? = some O) (ha : auxO O = true) (hb : c.w0.heap.size ≤ b ∨ c.X b) : RelC c φ (m.add b O) f a W ∧ MemLe m (m.add b O) := by
  have hle : MemLe m (m.add b O) := by
    intro k o hk
    by_cases e : k = b
    · subst e
      have := h.mem k o hk
      rw [hO] at this; injection this with this; subst this
      simp [Mem.add]
    · simp only [Mem.add, if_neg e]; exact hk
  refine ⟨h.step (fun _ => False) rfl rfl rfl (Nat.le_refl _) (NamesLe.refl φ) hle (fun _ _ _ => rfl) (fun _ _ x => x.elim) ?_ ?_ h.inj h.free (fun _ _ x => x), hle⟩
  · intro k o hk
    by_cases e : k = b
    · subst e
      simp only [Mem.add, if_true] at hk
      injection hk with hk
      subst hk
      exact .inr ⟨hO, hb⟩
    · simp only [Mem.add, if_neg e] at hk; exact .inl hk
  · intro i o hi
    refine .inl ⟨hi, fun k C e hk => ⟨id, ?_⟩⟩
    have q := (h.own i o k C e hi hk).2.1
    by_cases e : k = b
    · subst e
      obtain ⟨O2, q1, q2⟩ := AObj.rel_aux (h.obj i o hi) hk
      rw [hO] at q1; injection q1 with q1; subst q1
      rw [ha] at q2; cases q2
    · simp only [Mem.add, if_neg e]; exact q

theorem memC_cut {l : List Nat} (h : ∀ b ∈ l, ∀ O, m b = some O → auxO O = true) : MemC m (m.cut l) := by
  intro b o v hv
  by_cases e : b ∈ l
  · exfalso
    cases hm : m b with
    | none => simp [memCell, hm] at hv
    | some O => rw [auxO_cell hm (h b e O hm)] at hv; cases hv
  · unfold memCell at *
    simp only [Mem.cut, if_neg e]
    exact hv

/-- They are let go of again. -/
theorem RelC.release (h : RelC c φ m f a W) (l : List Nat) (h0 : ∀ b ∈ l, c.m0 b = none) (ha : ∀ b ∈ l, ∀ O, m b = some O → auxO O = true) : RelC c φ (m.cut l) f a W := by
  have hsub : ∀ b o, m.cut l b = some o → m b = some o := by
    intro b o hb
    simp only [Mem.cut] at hb
    split at hb
    · cases hb
    · exact hb
  refine { os := h.os, out := h.out, tape := h.tape, size := h.size, frame := h.frame, mem := fun b o hb => h.mem b o (hsub b o hb), m0 := ?_, mnew := fun b o hb => h.mnew b o (hsub b o hb), ext := h.ext
           obj := fun i o hi => AObj.rel_mc (memC_cut ha) (h.obj i o hi), own := ?_, inj := h.inj, free := h.free, env := fun t v hv => let ⟨V, q1, q2⟩ := h.env t v hv; ⟨V, q1, AVal.rel_mc (memC_cut ha) v V q2⟩, nt := h.nt }
  · intro b o hb
    have := h.m0 b o hb
    simp only [Mem.cut]
    rw [if_neg (fun e => by rw [h0 b e] at hb; cases hb)]
    exact this
  · intro i o b C e hi hb
    obtain ⟨q1, q2, q3⟩ := h.own i o b C e hi hb
    refine ⟨q1, ?_, q3⟩
    simp only [Mem.cut]
    split
    · rfl
    · exact q2

/-- The same from here on: what stays is what is there now. -/
def Ctx.here (c : Ctx) (m : Mem) (φ : Names) (k : Nat) : Ctx := { c with m0 := m, φ0 := fun i => if i < k then φ i else none }

theorem RelC.here (h : RelC c φ m f a W) (k : Nat) : RelC (c.here m φ k) φ m f a W :=
  { os := h.os, out := h.out, tape := h.tape, size := h.size, frame := h.frame, mem := h.mem, m0 := MemLe.refl m, mnew := fun _ _ x => .inl x
    ext := fun i s hs => by
      simp only [Ctx.here] at hs
      split at hs
      · exact hs
      · cases hs
    obj := h.obj, own := h.own, inj := h.inj, free := h.free, env := h.env, nt := h.nt }

theorem RelC.back {k : Nat} {φ' : Names} {m' : Mem} {f' : StF} {a' : Act} {W' : World} (h : RelC c φ m f a W) (hk : ∀ i, k ≤ i → c.φ0 i = none) (h2 : RelC (c.here m φ k) φ' m' f' a' W') :
    RelC c φ' m' f' a' W' ∧ MemLe m m' ∧ ∀ i, i < k → ∀ s, φ i = some s → φ' i = some s := by
  have hn : ∀ i, i < k → ∀ s, φ i = some s → φ' i = some s := fun i hi s hs => h2.ext i s (by simp only [Ctx.here]; rw [if_pos hi]; exact hs)
  refine ⟨{ os := h2.os, out := h2.out, tape := h2.tape, size := h2.size, frame := h2.frame, mem := h2.mem, m0 := h.m0.trans h2.m0, mnew := ?_, ext := ?_, obj := h2.obj, own := h2.own, inj := h2.inj, free := h2.free, env := h2.env, nt := h2.nt }, h2.m0, hn⟩
  · intro b o hb
    rcases h2.mnew b o hb with h1 | h1
    · exact h.mnew b o h1
    · exact .inr h1
  · intro i s hs
    by_cases e : i < k
    · exact hn i e s (h.ext i s hs)
    · rw [hk i (by omega)] at hs; cases hs

/-- Other temporaries. -/
theorem RelC.act (h : RelC c φ m f a W) {g : StF} {a' : Act} (hh : ∀ i, g (.h i) = f (.h i)) (henv : ∀ t v, g (.t t) = .v v → ∃ V, a'.tmps[t]? = some V ∧ v.rel φ m V) (hn : a'.tmps.size = c.nt) : RelC c φ m g a' W :=
  { os := h.os, out := h.out, tape := h.tape, size := h.size, frame := h.frame, mem := h.mem, m0 := h.m0, mnew := h.mnew, ext := h.ext
    obj := fun i o hi => h.obj i o (by rw [← hh i]; exact hi), own := fun i o b C e hi => h.own i o b C e (by rw [← hh i]; exact hi)
    inj := fun i j o o' b C e C' e' hi hj => h.inj i j o o' b C e C' e' (by rw [← hh i]; exact hi) (by rw [← hh j]; exact hj)
    free := fun i hi => h.free i (by rw [← hh i]; exact hi), env := henv, nt := hn }
end

/-- Values whose names lie below k stand in each naming that keeps those. -/
theorem Sc.rel_low {k : Nat} {φ φ' : Names} {m m' : Mem} (hn : ∀ i, i < k → ∀ s, φ i = some s → φ' i = some s) (hm : MemLe m m') {x : Sc} (hi : ∀ i ∈ x.ids, i < k) {V : Value} (h : x.rel φ m V) : x.rel φ' m' V := by
  cases x with
  | d x => exact D.rel_le hm x V h
  | ptr i off => obtain ⟨b, C, e, q, r⟩ := h; exact ⟨b, C, e, hn i (hi i (by simp [Sc.ids])) _ q, r⟩
  | eptr i k fo => obtain ⟨b, C, e, q, r⟩ := h; exact ⟨b, C, e, hn i (hi i (by simp [Sc.ids])) _ q, r⟩
  | row i e off len cap =>
    rcases h with ⟨q, r⟩ | ⟨b, C, ad, kk, q, r⟩
    · exact .inl ⟨hn i (hi i (by simp [Sc.ids])) _ q, r⟩
    · exact .inr ⟨b, C, ad, kk, hn i (hi i (by simp [Sc.ids])) _ q, r⟩
  | func f caps =>
    obtain ⟨vs, q, r, s⟩ := h
    refine ⟨vs, q, r, fun j i off hj => ?_⟩
    obtain ⟨b, C, e, t, u⟩ := s j i off hj
    exact ⟨b, C, e, hn i (hi i (by simp only [Sc.ids]; exact List.mem_map.2 ⟨_, List.mem_of_getElem? hj, rfl⟩)) _ t, u⟩
  | yield l => obtain ⟨b, C, e, q, r⟩ := h; exact ⟨b, C, e, hn l (hi l (by simp [Sc.ids])) _ q, r⟩
  | map i => obtain ⟨b, C, e, q, r⟩ := h; exact ⟨b, C, e, hn i (hi i (by simp [Sc.ids])) _ q, r⟩
  | upt i e off len =>
    obtain ⟨s, p, q, r⟩ := h
    exact ⟨s, p, hn i (hi i (by simp [Sc.ids])) _ q, r⟩
  | junk => trivial

theorem relAll_low {k : Nat} {φ φ' : Names} {m m' : Mem} (hn : ∀ i, i < k → ∀ s, φ i = some s → φ' i = some s) (hm : MemLe m m') {xs : List Sc} (hi : ∀ i ∈ xs.flatMap (·.ids), i < k) {vs : List Value} (h : relAll φ m xs vs) : relAll φ' m' xs vs :=
  ⟨h.1, fun j x hj => let ⟨v, q, r⟩ := h.2 j x hj; ⟨v, q, Sc.rel_low hn hm (fun i hm => hi i (List.mem_flatMap.2 ⟨x, List.mem_of_getElem? hj, hm⟩)) r⟩⟩

theorem AV.rel_low {k : Nat} {φ φ' : Names} {m m' : Mem} (hn : ∀ i, i < k → ∀ s, φ i = some s → φ' i = some s) (hm : MemLe m m') {x : AV} (hi : ∀ i ∈ x.ids, i < k) {V : Value} (h : x.rel φ m V) : x.rel φ' m' V := by
  cases x with
  | s x => exact Sc.rel_low hn hm hi h
  | agg xs => obtain ⟨vs, q, r⟩ := h; exact ⟨vs, q, relAll_low hn hm hi r⟩

theorem AVal.rel_low {k : Nat} {φ φ' : Names} {m m' : Mem} (hn : ∀ i, i < k → ∀ s, φ i = some s → φ' i = some s) (hm : MemLe m m') {x : AVal} (hi : ∀ i ∈ x.ids, i < k) {V : Value} (h : x.rel φ m V) : x.rel φ' m' V := by
  cases x with
  | one x => exact AV.rel_low hn hm hi h
  | tup xs =>
    obtain ⟨vs, q, r, s⟩ := h
    exact ⟨vs, q, r, fun j x hj => let ⟨v, t, u⟩ := s j x hj; ⟨v, t, AV.rel_low hn hm (fun i hm => hi i (List.mem_flatMap.2 ⟨x, List.mem_of_getElem? hj, hm⟩)) u⟩⟩
  | opt b x => exact ⟨fun e => AV.rel_low hn hm hi (h.1 e), h.2⟩
  | junk => trivial

end Go.Proofs.Hg
