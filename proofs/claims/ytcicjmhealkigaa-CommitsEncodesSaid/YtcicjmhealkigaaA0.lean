/- Values of the abstract machine, and how they stand for the model's values. -/
import Derived.OrdersIn
import Derived.Below
import Derived.WalkKit
import Derived.TacticsIn
set_option linter.unusedVariables false
set_option linter.unusedSimpArgs false
namespace Go.Proofs.Hg
open Go.RowKit

/-- Memory that no one writes any more. -/
abbrev Mem := Nat → Option Obj

inductive D where
  | bool (b : Bool)
  | int (k : IntKind) (n : Int)
  | float (k : FloatKind) (bits : Nat)
  | complex (k : FloatKind) (re im : Nat)
  | str (s : List UInt8)
  | nilp
  | ptr (cells : List D)
  | slice (z : Option Bool) (esz : Nat) (es : List (List D))
  | nilf
  | nilm
  | nili
  | func (f : FuncId) (caps : List D)

instance : Inhabited D := ⟨.nilp⟩

def memCell (m : Mem) (b o : Nat) : Option Value :=
  match m b with
  | some (.cells c _ _) => c[o]?
  | _ => none

mutual
def D.rel (m : Mem) : D → Value → Prop
  | .bool b, V => V = .bool b
  | .int k n, V => V = .int k n
  | .float k x, V => V = .float k x
  | .complex k x y, V => V = .complex k x y
  | .str s, V => V = .string ⟨s.toArray⟩
  | .nilp, V => V = .pointer none
  | .ptr cs, V => ∃ b o, V = .pointer (some ⟨b, o, none⟩) ∧ D.relCells m cs b o
  | .slice z e es, V => (es = [] ∧ z ≠ some false ∧ V = .slice none 0 0) ∨
      (z ≠ some true ∧ ∃ ad c, V = .slice (some ad) es.length c ∧ es.length ≤ c ∧ (∀ r ∈ es, r.length = e) ∧ (es ≠ [] → ad.spot = none ∧ D.relRows m es ad.block ad.off))
  | .nilf, V => V = .nilFunc
  | .nilm, V => V = .map none
  | .nili, V => V = .nilIface
  | .func f caps, V => ∃ vs : List Value, V = .func (.func f) #[] vs.toArray ∧ D.relVals m caps vs
def D.relVals (m : Mem) : List D → List Value → Prop
  | [], vs => vs = []
  | d :: ds, vs => ∃ v r, vs = v :: r ∧ D.rel m d v ∧ D.relVals m ds r
def D.relCells (m : Mem) : List D → Nat → Nat → Prop
  | [], _, _ => True
  | d :: ds, b, o => (∃ v, memCell m b o = some v ∧ D.rel m d v) ∧ D.relCells m ds b (o + 1)
def D.relRows (m : Mem) : List (List D) → Nat → Nat → Prop
  | [], _, _ => True
  | r :: rs, b, o => D.relCells m r b o ∧ D.relRows m rs b (o + r.length)
end

theorem relCells_iff (m : Mem) : ∀ (ds : List D) (b o : Nat), D.relCells m ds b o ↔ ∀ i d, ds[i]? = some d → ∃ v, memCell m b (o + i) = some v ∧ d.rel m v
  | [], b, o => by simp [D.relCells]
  | d :: ds, b, o => by
    rw [D.relCells, relCells_iff m ds b (o + 1)]
    constructor
    · rintro ⟨h0, h⟩ i x hx
      cases i with
      | zero => simp at hx; subst hx; simpa using h0
      | succ i => simp at hx; obtain ⟨v, h1, h2⟩ := h i x hx; exact ⟨v, by rw [← h1]; congr 1; omega, h2⟩
    · intro h
      refine ⟨by simpa using h 0 d (by simp), fun i x hx => ?_⟩
      obtain ⟨v, h1, h2⟩ := h (i + 1) x (by simpa using hx)
      exact ⟨v, by rw [← h1]; congr 1; omega, h2⟩

theorem relRows_iff (m : Mem) : ∀ (es : List (List D)) (b o : Nat), D.relRows m es b o ↔ D.relCells m es.flatten b o
  | [], b, o => by simp [D.relRows, D.relCells]
  | r :: rs, b, o => by
    rw [D.relRows, relRows_iff m rs b (o + r.length)]
    simp only [relCells_iff, List.flatten_cons]
    constructor
    · rintro ⟨h0, h⟩ i x hx
      by_cases hi : i < r.length
      · rw [List.getElem?_append_left hi] at hx; exact h0 i x hx
      · rw [List.getElem?_append_right (by omega)] at hx
        obtain ⟨v, h1, h2⟩ := h _ x hx
        exact ⟨v, by rw [← h1]; congr 1; omega, h2⟩
    · intro h
      refine ⟨fun i x hx => h i x (by rw [List.getElem?_append_left (List.getElem?_eq_some_iff.1 hx).1]; exact hx), fun i x hx => ?_⟩
      obtain ⟨v, h1, h2⟩ := h (r.length + i) x (by rw [List.getElem?_append_right (by omega)]; simpa using hx)
      exact ⟨v, by rw [← h1]; congr 1; omega, h2⟩

def MemLe (m m' : Mem) : Prop := ∀ b o, m b = some o → m' b = some o
theorem MemLe.refl (m : Mem) : MemLe m m := fun _ _ h => h
theorem MemLe.trans {a b c : Mem} (h : MemLe a b) (k : MemLe b c) : MemLe a c := fun _ _ x => k _ _ (h _ _ x)
theorem memCell_le {m m' : Mem} (h : MemLe m m') {b o : Nat} {v : Value} (hc : memCell m b o = some v) : memCell m' b o = some v := by
  unfold memCell at *
  cases hb : m b with
  | none => simp [hb] at hc
  | some x => rw [h b x hb]; simpa [hb] using hc

mutual
theorem D.rel_le {m m' : Mem} (h : MemLe m m') : ∀ (d : D) (V : Value), d.rel m V → d.rel m' V
  | .bool _, _, hr | .int _ _, _, hr | .float _ _, _, hr | .complex _ _ _, _, hr | .str _, _, hr | .nilp, _, hr | .nilf, _, hr | .nilm, _, hr | .nili, _, hr => by
    unfold D.rel at *; exact hr
  | .ptr cs, V, hr => by
    unfold D.rel at *
    obtain ⟨b, o, hv, hc⟩ := hr
    exact ⟨b, o, hv, relCells_le h cs b o hc⟩
  | .slice z e es, V, hr => by
    unfold D.rel at *
    rcases hr with hr | ⟨hz, ad, c, hv, hc, he, hrow⟩
    · exact .inl hr
    · exact .inr ⟨hz, ad, c, hv, hc, he, fun hn => ⟨(hrow hn).1, relRows_le h es _ _ (hrow hn).2⟩⟩
  | .func f caps, V, hr => by
    unfold D.rel at *
    obtain ⟨vs, h1, h2⟩ := hr
    exact ⟨vs, h1, relVals_le h caps vs h2⟩
theorem relVals_le {m m' : Mem} (h : MemLe m m') : ∀ (ds : List D) (vs : List Value), D.relVals m ds vs → D.relVals m' ds vs
  | [], _, hr => by unfold D.relVals at *; exact hr
  | d :: ds, vs, hr => by
    unfold D.relVals at *
    obtain ⟨v, r, h1, h2, h3⟩ := hr
    exact ⟨v, r, h1, D.rel_le h d v h2, relVals_le h ds r h3⟩
theorem relCells_le {m m' : Mem} (h : MemLe m m') : ∀ (ds : List D) (b o : Nat), D.relCells m ds b o → D.relCells m' ds b o
  | [], _, _, _ => trivial
  | d :: ds, b, o, hr => by
    unfold D.relCells at *
    obtain ⟨⟨v, h1, h2⟩, h3⟩ := hr
    exact ⟨⟨v, memCell_le h h1, D.rel_le h d v h2⟩, relCells_le h ds _ _ h3⟩
theorem relRows_le {m m' : Mem} (h : MemLe m m') : ∀ (es : List (List D)) (b o : Nat), D.relRows m es b o → D.relRows m' es b o
  | [], _, _, _ => trivial
  | r :: rs, b, o, hr => by
    unfold D.relRows at *
    exact ⟨relCells_le h r _ _ hr.1, relRows_le h rs _ _ hr.2⟩
end

/-! ### Values with names of objects in them -/
inductive Slot where
  | nil
  | blk (b C e : Nat)

abbrev Names := Nat → Option Slot

inductive Sc where
  | d (x : D)
  | ptr (i off : Nat)
  | eptr (i k fo : Nat)
  | row (i e off len : Nat) (cap : Option Nat)
  | func (f : FuncId) (caps : List (Nat × Nat))
  | yield (l : Nat)
  | map (i : Nat)
  | upt (i e off len : Nat)
  | junk

instance : Inhabited Sc := ⟨.junk⟩

def Names.at (φ : Names) (i off : Nat) : Value := match φ i with
  | some (.blk b _ _) => .pointer (some ⟨b, off, none⟩)
  | _ => .pointer none

def Sc.rel (φ : Names) (m : Mem) : Sc → Value → Prop
  | .d x, V => x.rel m V
  | .ptr i off, V => ∃ b C e, φ i = some (.blk b C e) ∧ V = .pointer (some ⟨b, off, none⟩)
  | .eptr i k fo, V => ∃ b C e, φ i = some (.blk b C e) ∧ V = .pointer (some ⟨b, k * e + fo, none⟩)
  | .row i e off len cap, V => (φ i = some .nil ∧ off = 0 ∧ len = 0 ∧ cap.getD 0 = 0 ∧ V = .slice none 0 0) ∨
      ∃ b C ad c, φ i = some (.blk b C e) ∧ V = .slice (some ad) len c ∧ c = cap.getD (C - off) ∧ off + c ≤ C ∧ len ≤ c ∧ (c ≠ 0 → ad = ⟨b, off * e, none⟩) ∧ ad.block = b
  | .func f caps, V => ∃ vs : List Value, V = .func (.func f) #[] vs.toArray ∧ vs.length = caps.length ∧
      ∀ (j i off : Nat), caps[j]? = some (i, off) → ∃ b C e, φ i = some (.blk b C e) ∧ vs[j]? = some (Value.pointer (some ⟨b, off, none⟩))
  | .yield l, V => ∃ b C e, φ l = some (.blk b C e) ∧ V = .func (.yield b) #[] #[]
  | .map i, V => ∃ b C e, φ i = some (.blk b C e) ∧ V = .map (some b)
  | .upt i e off len, V => ∃ (s : Slot) (p : Option Addr), φ i = some s ∧ V = .pointer p ∧ (0 < len → ∃ b C, s = .blk b C e ∧ p = some ⟨b, off * e, none⟩)
  | .junk, _ => True

def NamesLe (φ φ' : Names) : Prop := ∀ i s, φ i = some s → φ' i = some s
theorem NamesLe.refl (φ : Names) : NamesLe φ φ := fun _ _ h => h
theorem NamesLe.trans {a b c : Names} (h : NamesLe a b) (k : NamesLe b c) : NamesLe a c := fun _ _ x => k _ _ (h _ _ x)

theorem Sc.rel_le {φ φ' : Names} {m m' : Mem} (hp : NamesLe φ φ') (hm : MemLe m m') (x : Sc) (V : Value) (h : x.rel φ m V) : x.rel φ' m' V := by
  cases x with
  | d x => exact D.rel_le hm x V h
  | ptr i off => obtain ⟨b, C, e, h1, h2⟩ := h; exact ⟨b, C, e, hp _ _ h1, h2⟩
  | eptr i k fo => obtain ⟨b, C, e, h1, h2⟩ := h; exact ⟨b, C, e, hp _ _ h1, h2⟩
  | row i e off len cap =>
    rcases h with ⟨h1, h2⟩ | ⟨b, C, ad, c, h1, h2⟩
    · exact .inl ⟨hp _ _ h1, h2⟩
    · exact .inr ⟨b, C, ad, c, hp _ _ h1, h2⟩
  | func f caps =>
    obtain ⟨vs, h1, h2, h3⟩ := h
    exact ⟨vs, h1, h2, fun j i off hj => let ⟨b, C, e, h4, h5⟩ := h3 j i off hj; ⟨b, C, e, hp _ _ h4, h5⟩⟩
  | yield l => obtain ⟨b, C, e, h1, h2⟩ := h; exact ⟨b, C, e, hp _ _ h1, h2⟩
  | map i => obtain ⟨b, C, e, h1, h2⟩ := h; exact ⟨b, C, e, hp _ _ h1, h2⟩
  | upt i e off len =>
    obtain ⟨s, p, h1, h2⟩ := h
    exact ⟨s, p, hp _ _ h1, h2⟩
  | junk => trivial

/-- Cells that stand side by side. -/
def relAll (φ : Names) (m : Mem) (xs : List Sc) (vs : List Value) : Prop := vs.length = xs.length ∧ ∀ (j : Nat) (x : Sc), xs[j]? = some x → ∃ v : Value, vs[j]? = some v ∧ x.rel φ m v

theorem relAll_le {φ φ' : Names} {m m' : Mem} (hp : NamesLe φ φ') (hm : MemLe m m') {xs : List Sc} {vs : List Value} (h : relAll φ m xs vs) : relAll φ' m' xs vs :=
  ⟨h.1, fun j x hx => let ⟨v, h1, h2⟩ := h.2 j x hx; ⟨v, h1, Sc.rel_le hp hm x v h2⟩⟩

inductive AV where
  | s (x : Sc)
  | agg (xs : List Sc)

def AV.rel (φ : Names) (m : Mem) : AV → Value → Prop
  | .s x, V => x.rel φ m V
  | .agg xs, V => ∃ vs : List Value, V = .agg vs.toArray ∧ relAll φ m xs vs

inductive AVal where
  | one (x : AV)
  | tup (xs : List AV)
  | opt (g : Bool) (x : AV)
  | junk

def AVal.rel (φ : Names) (m : Mem) : AVal → Value → Prop
  | .one x, V => x.rel φ m V
  | .tup xs, V => ∃ vs : List Value, V = .tuple vs.toArray ∧ vs.length = xs.length ∧ ∀ (j : Nat) (x : AV), xs[j]? = some x → ∃ v : Value, vs[j]? = some v ∧ AV.rel φ m x v
  | .opt g x, V => (g = true → x.rel φ m V) ∧ (g = false → V = undef)
  | .junk, _ => True

theorem AV.rel_le {φ φ' : Names} {m m' : Mem} (hp : NamesLe φ φ') (hm : MemLe m m') (x : AV) (V : Value) (h : x.rel φ m V) : x.rel φ' m' V := by
  cases x with
  | s x => exact Sc.rel_le hp hm x V h
  | agg xs => obtain ⟨vs, h1, h2⟩ := h; exact ⟨vs, h1, relAll_le hp hm h2⟩

theorem AVal.rel_le {φ φ' : Names} {m m' : Mem} (hp : NamesLe φ φ') (hm : MemLe m m') (x : AVal) (V : Value) (h : x.rel φ m V) : x.rel φ' m' V := by
  cases x with
  | one x => exact AV.rel_le hp hm x V h
  | tup xs =>
    obtain ⟨vs, h1, h2, h3⟩ := h
    exact ⟨vs, h1, h2, fun j x hx => let ⟨v, h4, h5⟩ := h3 j x hx; ⟨v, h4, AV.rel_le hp hm x v h5⟩⟩
  | opt g x => exact ⟨fun hg => AV.rel_le hp hm x V (h.1 hg), h.2⟩
  | junk => trivial

end Go.Proofs.Hg
