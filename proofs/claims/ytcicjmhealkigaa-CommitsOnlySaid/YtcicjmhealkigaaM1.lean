/- Values of the abstract machine, and how they stand for the model's values. -/
import Derived.OrdersIn
import Derived.Below
import Derived.WalkKit
import Derived.TacticsIn
import Derived.WalkLawsBesides
import Derived.Laws.StructEq
import Derived.Lib.Builder
import Derived.Laws.IdiomCopy
import Derived.Laws.CopyOwn
import Derived.Laws.IdiomStrings
import Derived.Laws.BitsLemmas
set_option linter.unusedVariables false
set_option linter.unusedSimpArgs false
namespace Go.Proofs.Hg
open Go.RowKit

/-- Memory that no one writes any more. -/
abbrev Mem := Nat → Option Obj

inductive D where
  | bool (b : Bool)
  | int (k : IntKind) (n : Int)
  | float (k : FloatKind) (bits : Nat)
  | complex (k : FloatKind) (re im : Nat)
  | str (s : List UInt8)
  | nilp
  | ptr (cells : List D)
  | slice (z : Option Bool) (esz : Nat) (es : List (List D))
  | nilf
  | nilm
  | nili
  | func (f : FuncId) (caps : List D)

instance : Inhabited D := ⟨.nilp⟩

def memCell (m : Mem) (b o : Nat) : Option Value :=
  match m b with
  | some (.cells c _ _) => c[o]?
  | _ => none

mutual
def D.rel (m : Mem) : D → Value → Prop
  | .bool b, V => V = .bool b
  | .int k n, V => V = .int k n
  | .float k x, V => V = .float k x
  | .complex k x y, V => V = .complex k x y
  | .str s, V => V = .string ⟨s.toArray⟩
  | .nilp, V => V = .pointer none
  | .ptr cs, V => ∃ b o, V = .pointer (some ⟨b, o, none⟩) ∧ D.relCells m cs b o
  | .slice z e es, V => (es = [] ∧ z ≠ some false ∧ V = .slice none 0 0) ∨
      (z ≠ some true ∧ ∃ ad c, V = .slice (some ad) es.length c ∧ es.length ≤ c ∧ (∀ r ∈ es, r.length = e) ∧ (es ≠ [] → ad.spot = none ∧ D.relRows m es ad.block ad.off))
  | .nilf, V => V = .nilFunc
  | .nilm, V => V = .map none
  | .nili, V => V = .nilIface
  | .func f caps, V => ∃ vs : List Value, V = .func (.func f) #[] vs.toArray ∧ D.relVals m caps vs
def D.relVals (m : Mem) : List D → List Value → Prop
  | [], vs => vs = []
  | d :: ds, vs => ∃ v r, vs = v :: r ∧ D.rel m d v ∧ D.relVals m ds r
def D.relCells (m : Mem) : List D → Nat → Nat → Prop
  | [], _, _ => True
  | d :: ds, b, o => (∃ v, memCell m b o = some v ∧ D.rel m d v) ∧ D.relCells m ds b (o + 1)
def D.relRows (m : Mem) : List (List D) → Nat → Nat → Prop
  | [], _, _ => True
  | r :: rs, b, o => D.relCells m r b o ∧ D.relRows m rs b (o + r.length)
end

theorem relCells_iff (m : Mem) : ∀ (ds : List D) (b o : Nat), D.relCells m ds b o ↔ ∀ i d, ds[i]? = some d → ∃ v, memCell m b (o + i) = some v ∧ d.rel m v
  | [], b, o => by simp [D.relCells]
  | d :: ds, b, o => by
    rw [D.relCells, relCells_iff m ds b (o + 1)]
    constructor
    · rintro ⟨h0, h⟩ i x hx
      cases i with
      | zero => simp at hx; subst hx; simpa using h0
      | succ i => simp at hx; obtain ⟨v, h1, h2⟩ := h i x hx; exact ⟨v, by rw [← h1]; congr 1; omega, h2⟩
    · intro h
      refine ⟨by simpa using h 0 d (by simp), fun i x hx => ?_⟩
      obtain ⟨v, h1, h2⟩ := h (i + 1) x (by simpa using hx)
      exact ⟨v, by rw [← h1]; congr 1; omega, h2⟩

theorem relRows_iff (m : Mem) : ∀ (es : List (List D)) (b o : Nat), D.relRows m es b o ↔ D.relCells m es.flatten b o
  | [], b, o => by simp [D.relRows, D.relCells]
  | r :: rs, b, o => by
    rw [D.relRows, relRows_iff m rs b (o + r.length)]
    simp only [relCells_iff, List.flatten_cons]
    constructor
    · rintro ⟨h0, h⟩ i x hx
      by_cases hi : i < r.length
      · rw [List.getElem?_append_left hi] at hx; exact h0 i x hx
      · rw [List.getElem?_append_right (by omega)] at hx
        obtain ⟨v, h1, h2⟩ := h _ x hx
        exact ⟨v, by rw [← h1]; congr 1; omega, h2⟩
    · intro h
      refine ⟨fun i x hx => h i x (by rw [List.getElem?_append_left (List.getElem?_eq_some_iff.1 hx).1]; exact hx), fun i x hx => ?_⟩
      obtain ⟨v, h1, h2⟩ := h (r.length + i) x (by rw [List.getElem?_append_right (by omega)]; simpa using hx)
      exact ⟨v, by rw [← h1]; congr 1; omega, h2⟩

def MemLe (m m' : Mem) : Prop := ∀ b o, m b = some o → m' b = some o
theorem MemLe.refl (m : Mem) : MemLe m m := fun _ _ h => h
theorem MemLe.trans {a b c : Mem} (h : MemLe a b) (k : MemLe b c) : MemLe a c := fun _ _ x => k _ _ (h _ _ x)
theorem memCell_le {m m' : Mem} (h : MemLe m m') {b o : Nat} {v : Value} (hc : memCell m b o = some v) : memCell m' b o = some v := by
  unfold memCell at *
  cases hb : m b with
  | none => simp [hb] at hc
  | some x => rw [h b x hb]; simpa [hb] using hc

mutual
theorem D.rel_le {m m' : Mem} (h : MemLe m m') : ∀ (d : D) (V : Value), d.rel m V → d.rel m' V
  | .bool _, _, hr | .int _ _, _, hr | .float _ _, _, hr | .complex _ _ _, _, hr | .str _, _, hr | .nilp, _, hr | .nilf, _, hr | .nilm, _, hr | .nili, _, hr => by
    unfold D.rel at *; exact hr
  | .ptr cs, V, hr => by
    unfold D.rel at *
    obtain ⟨b, o, hv, hc⟩ := hr
    exact ⟨b, o, hv, relCells_le h cs b o hc⟩
  | .slice z e es, V, hr => by
    unfold D.rel at *
    rcases hr with hr | ⟨hz, ad, c, hv, hc, he, hrow⟩
    · exact .inl hr
    · exact .inr ⟨hz, ad, c, hv, hc, he, fun hn => ⟨(hrow hn).1, relRows_le h es _ _ (hrow hn).2⟩⟩
  | .func f caps, V, hr => by
    unfold D.rel at *
    obtain ⟨vs, h1, h2⟩ := hr
    exact ⟨vs, h1, relVals_le h caps vs h2⟩
theorem relVals_le {m m' : Mem} (h : MemLe m m') : ∀ (ds : List D) (vs : List Value), D.relVals m ds vs → D.relVals m' ds vs
  | [], _, hr => by unfold D.relVals at *; exact hr
  | d :: ds, vs, hr => by
    unfold D.relVals at *
    obtain ⟨v, r, h1, h2, h3⟩ := hr
    exact ⟨v, r, h1, D.rel_le h d v h2, relVals_le h ds r h3⟩
theorem relCells_le {m m' : Mem} (h : MemLe m m') : ∀ (ds : List D) (b o : Nat), D.relCells m ds b o → D.relCells m' ds b o
  | [], _, _, _ => trivial
  | d :: ds, b, o, hr => by
    unfold D.relCells at *
    obtain ⟨⟨v, h1, h2⟩, h3⟩ := hr
    exact ⟨⟨v, memCell_le h h1, D.rel_le h d v h2⟩, relCells_le h ds _ _ h3⟩
theorem relRows_le {m m' : Mem} (h : MemLe m m') : ∀ (es : List (List D)) (b o : Nat), D.relRows m es b o → D.relRows m' es b o
  | [], _, _, _ => trivial
  | r :: rs, b, o, hr => by
    unfold D.relRows at *
    exact ⟨relCells_le h r _ _ hr.1, relRows_le h rs _ _ hr.2⟩
end

/-! ### Values with names of objects in them -/
inductive Slot where
  | nil
  | blk (b C e : Nat)

abbrev Names := Nat → Option Slot

inductive Sc where
  | d (x : D)
  | ptr (i off : Nat)
  | eptr (i k fo : Nat)
  | row (i e off len : Nat) (cap : Option Nat)
  | func (f : FuncId) (caps : List (Nat × Nat))
  | yield (l : Nat)
  | map (i : Nat)
  | upt (i e off len : Nat)
  | junk

instance : Inhabited Sc := ⟨.junk⟩

def Names.at (φ : Names) (i off : Nat) : Value := match φ i with
  | some (.blk b _ _) => .pointer (some ⟨b, off, none⟩)
  | _ => .pointer none

def Sc.rel (φ : Names) (m : Mem) : Sc → Value → Prop
  | .d x, V => x.rel m V
  | .ptr i off, V => ∃ b C e, φ i = some (.blk b C e) ∧ V = .pointer (some ⟨b, off, none⟩)
  | .eptr i k fo, V => ∃ b C e, φ i = some (.blk b C e) ∧ V = .pointer (some ⟨b, k * e + fo, none⟩)
  | .row i e off len cap, V => (φ i = some .nil ∧ off = 0 ∧ len = 0 ∧ cap.getD 0 = 0 ∧ V = .slice none 0 0) ∨
      ∃ b C ad c, φ i = some (.blk b C e) ∧ V = .slice (some ad) len c ∧ c = cap.getD (C - off) ∧ off + c ≤ C ∧ len ≤ c ∧ (c ≠ 0 → ad = ⟨b, off * e, none⟩) ∧ ad.block = b
  | .func f caps, V => ∃ vs : List Value, V = .func (.func f) #[] vs.toArray ∧ vs.length = caps.length ∧
      ∀ (j i off : Nat), caps[j]? = some (i, off) → ∃ b C e, φ i = some (.blk b C e) ∧ vs[j]? = some (Value.pointer (some ⟨b, off, none⟩))
  | .yield l, V => ∃ b C e, φ l = some (.blk b C e) ∧ V = .func (.yield b) #[] #[]
  | .map i, V => ∃ b C e, φ i = some (.blk b C e) ∧ V = .map (some b)
  | .upt i e off len, V => ∃ (s : Slot) (p : Option Addr), φ i = some s ∧ V = .pointer p ∧ (0 < len → ∃ b C, s = .blk b C e ∧ p = some ⟨b, off * e, none⟩)
  | .junk, _ => True

def NamesLe (φ φ' : Names) : Prop := ∀ i s, φ i = some s → φ' i = some s
theorem NamesLe.refl (φ : Names) : NamesLe φ φ := fun _ _ h => h
theorem NamesLe.trans {a b c : Names} (h : NamesLe a b) (k : NamesLe b c) : NamesLe a c := fun _ _ x => k _ _ (h _ _ x)

theorem Sc.rel_le {φ φ' : Names} {m m' : Mem} (hp : NamesLe φ φ') (hm : MemLe m m') (x : Sc) (V : Value) (h : x.rel φ m V) : x.rel φ' m' V := by
  cases x with
  | d x => exact D.rel_le hm x V h
  | ptr i off => obtain ⟨b, C, e, h1, h2⟩ := h; exact ⟨b, C, e, hp _ _ h1, h2⟩
  | eptr i k fo => obtain ⟨b, C, e, h1, h2⟩ := h; exact ⟨b, C, e, hp _ _ h1, h2⟩
  | row i e off len cap =>
    rcases h with ⟨h1, h2⟩ | ⟨b, C, ad, c, h1, h2⟩
    · exact .inl ⟨hp _ _ h1, h2⟩
    · exact .inr ⟨b, C, ad, c, hp _ _ h1, h2⟩
  | func f caps =>
    obtain ⟨vs, h1, h2, h3⟩ := h
    exact ⟨vs, h1, h2, fun j i off hj => let ⟨b, C, e, h4, h5⟩ := h3 j i off hj; ⟨b, C, e, hp _ _ h4, h5⟩⟩
  | yield l => obtain ⟨b, C, e, h1, h2⟩ := h; exact ⟨b, C, e, hp _ _ h1, h2⟩
  | map i => obtain ⟨b, C, e, h1, h2⟩ := h; exact ⟨b, C, e, hp _ _ h1, h2⟩
  | upt i e off len =>
    obtain ⟨s, p, h1, h2⟩ := h
    exact ⟨s, p, hp _ _ h1, h2⟩
  | junk => trivial

/-- Cells that stand side by side. -/
def relAll (φ : Names) (m : Mem) (xs : List Sc) (vs : List Value) : Prop := vs.length = xs.length ∧ ∀ (j : Nat) (x : Sc), xs[j]? = some x → ∃ v : Value, vs[j]? = some v ∧ x.rel φ m v

theorem relAll_le {φ φ' : Names} {m m' : Mem} (hp : NamesLe φ φ') (hm : MemLe m m') {xs : List Sc} {vs : List Value} (h : relAll φ m xs vs) : relAll φ' m' xs vs :=
  ⟨h.1, fun j x hx => let ⟨v, h1, h2⟩ := h.2 j x hx; ⟨v, h1, Sc.rel_le hp hm x v h2⟩⟩

inductive AV where
  | s (x : Sc)
  | agg (xs : List Sc)

def AV.rel (φ : Names) (m : Mem) : AV → Value → Prop
  | .s x, V => x.rel φ m V
  | .agg xs, V => ∃ vs : List Value, V = .agg vs.toArray ∧ relAll φ m xs vs

inductive AVal where
  | one (x : AV)
  | tup (xs : List AV)
  | opt (g : Bool) (x : AV)
  | junk

def AVal.rel (φ : Names) (m : Mem) : AVal → Value → Prop
  | .one x, V => x.rel φ m V
  | .tup xs, V => ∃ vs : List Value, V = .tuple vs.toArray ∧ vs.length = xs.length ∧ ∀ (j : Nat) (x : AV), xs[j]? = some x → ∃ v : Value, vs[j]? = some v ∧ AV.rel φ m x v
  | .opt g x, V => (g = true → x.rel φ m V) ∧ (g = false → V = undef)
  | .junk, _ => True

theorem AV.rel_le {φ φ' : Names} {m m' : Mem} (hp : NamesLe φ φ') (hm : MemLe m m') (x : AV) (V : Value) (h : x.rel φ m V) : x.rel φ' m' V := by
  cases x with
  | s x => exact Sc.rel_le hp hm x V h
  | agg xs => obtain ⟨vs, h1, h2⟩ := h; exact ⟨vs, h1, relAll_le hp hm h2⟩

theorem AVal.rel_le {φ φ' : Names} {m m' : Mem} (hp : NamesLe φ φ') (hm : MemLe m m') (x : AVal) (V : Value) (h : x.rel φ m V) : x.rel φ' m' V := by
  cases x with
  | one x => exact AV.rel_le hp hm x V h
  | tup xs =>
    obtain ⟨vs, h1, h2, h3⟩ := h
    exact ⟨vs, h1, h2, fun j x hx => let ⟨v, h4, h5⟩ := h3 j x hx; ⟨v, h4, AV.rel_le hp hm x v h5⟩⟩
  | opt g x => exact ⟨fun hg => AV.rel_le hp hm x V (h.1 hg), h.2⟩
  | junk => trivial

end Go.Proofs.Hg

/- States of the abstract machine, steps of operations as local changes, and regions whose operations come in any order. -/
set_option linter.unusedVariables false
set_option linter.unusedSimpArgs false
namespace Go.Proofs.Hg
open Go.RowKit

inductive AObj where
  | cells (vs : List Sc) (ty : TypeId)
  | row (es : List (List D)) (ty : TypeId)
  | other (o : Obj)

inductive Ent where
  | none
  | free
  | v (x : AVal)
  | o (x : AObj)

inductive Key where
  | t (n : Nat)
  | h (n : Nat)
  deriving DecidableEq

abbrev StF := Key → Ent

/-- What a call starts from: the world, the memory that stays, the blocks that it may write. -/
structure Ctx where
  w0 : World
  m0 : Mem
  φ0 : Names
  X : Nat → Prop
  nt : Nat

def relRow (m : Mem) (es : List (List D)) (cs : Array Value) : Prop := ∀ (j : Nat) (d : D), es.flatten[j]? = some d → ∃ v : Value, cs[j]? = some v ∧ d.rel m v

def FrOk (n : Nat) (fr : Nat × Nat) : Prop := ∀ o, o < n → ¬ (fr.1 ≤ o ∧ o < fr.2)
theorem FrOk.zero (n : Nat) : FrOk n (0, 0) := fun o _ h => by omega

/-- Blocks of the machine's own: a loop's record, a block for deferred calls. -/
def auxO : Obj → Bool
  | .loop _ => true
  | .deferred _ => true
  | _ => false

def AObj.rel (φ : Names) (m : Mem) (W : World) (i : Nat) : AObj → Prop
  | .cells vs ty => ∃ b C e cs fr, φ i = some (.blk b C e) ∧ W.heap[b]? = some (.cells cs ty fr) ∧ FrOk cs.size fr ∧ relAll φ m vs cs.toList
  | .row es ty => (φ i = some .nil ∧ es = []) ∨ ∃ b C e cs fr, φ i = some (.blk b C e) ∧ W.heap[b]? = some (.cells cs ty fr) ∧ FrOk cs.size fr ∧ cs.size = C * e ∧ es.length ≤ C ∧ C ≤ 9223372036854775807 ∧
      (∀ r ∈ es, r.length = e) ∧ relRow m es cs
  | .other o => ∃ b C e, φ i = some (.blk b C e) ∧ W.heap[b]? = some o ∧ auxO o = false

structure RelC (c : Ctx) (φ : Names) (m : Mem) (f : StF) (a : Act) (W : World) : Prop where
  os : W.os = c.w0.os
  out : W.output = c.w0.output
  tape : W.tape = c.w0.tape
  size : c.w0.heap.size ≤ W.heap.size
  frame : ∀ b, b < c.w0.heap.size → ¬ c.X b → W.heap[b]? = c.w0.heap[b]?
  mem : ∀ b o, m b = some o → W.heap[b]? = some o
  m0 : MemLe c.m0 m
  mnew : ∀ b o, m b = some o → c.m0 b = some o ∨ c.w0.heap.size ≤ b ∨ c.X b
  ext : NamesLe c.φ0 φ
  obj : ∀ i o, f (.h i) = .o o → o.rel φ m W i
  own : ∀ i o b C e, f (.h i) = .o o → φ i = some (.blk b C e) → (c.w0.heap.size ≤ b ∨ c.X b) ∧ m b = Option.none ∧ b < W.heap.size
  inj : ∀ i j o o' b C e C' e', f (.h i) = .o o → f (.h j) = .o o' → φ i = some (.blk b C e) → φ j = some (.blk b C' e') → i = j
  free : ∀ i, f (.h i) = .free → φ i = Option.none
  env : ∀ t v, f (.t t) = .v v → ∃ V, a.tmps[t]? = some V ∧ v.rel φ m V
  nt : a.tmps.size = c.nt

/-- Less is known. -/
def StLe (g f : StF) : Prop := ∀ k, g k = .none ∨ g k = f k

theorem RelC.weaken {c : Ctx} {φ : Names} {m : Mem} {f g : StF} {a : Act} {W : World} (h : RelC c φ m f a W) (hg : StLe g f) : RelC c φ m g a W :=
  { os := h.os, out := h.out, tape := h.tape, size := h.size, frame := h.frame, mem := h.mem, m0 := h.m0, mnew := h.mnew, ext := h.ext
    obj := fun i o hi => h.obj i o (by rcases hg (.h i) with e | e <;> simp_all)
    own := fun i o b C e hi => h.own i o b C e (by rcases hg (.h i) with e | e <;> simp_all)
    inj := fun i j o o' b C e C' e' hi hj => h.inj i j o o' b C e C' e' (by rcases hg (.h i) with e | e <;> simp_all) (by rcases hg (.h j) with e | e <;> simp_all)
    free := fun i hi => h.free i (by rcases hg (.h i) with e | e <;> simp_all)
    env := fun t v hv => h.env t v (by rcases hg (.t t) with e | e <;> simp_all)
    nt := h.nt }

theorem RelC.drawn {c : Ctx} {φ : Names} {m : Mem} {f : StF} {a : Act} {W : World} (h : RelC c φ m f a W) (n : Nat) : RelC c φ m f a { W with drawn := n } :=
  { os := h.os, out := h.out, tape := h.tape, size := h.size, frame := h.frame, mem := h.mem, m0 := h.m0, mnew := h.mnew, ext := h.ext
    obj := fun i o hi => by have := h.obj i o hi; cases o <;> exact this
    own := h.own, inj := h.inj, free := h.free, env := h.env, nt := h.nt }

/-- What one operation reads and what it writes. -/
structure LT where
  pre : List (Key × Ent)
  post : List (Key × Ent)

def LT.fits (t : LT) (f : StF) : Prop := ∀ p ∈ t.pre, f p.1 = p.2
def LT.app (t : LT) (f : StF) : StF := fun k => match t.post.find? (fun p => p.1 == k) with
  | some p => p.2
  | Option.none => f k

def RunL : List LT → StF → StF → Prop
  | [], f, g => f = g
  | t :: ts, f, g => t.fits f ∧ RunL ts (t.app f) g

/-- Two steps that do not touch what the other writes. -/
def LT.apart (s t : LT) : Bool :=
  s.post.all (fun p => !(t.pre.any fun q => q.1 == p.1) && !(t.post.any fun q => q.1 == p.1)) && t.post.all (fun p => !(s.pre.any fun q => q.1 == p.1))

theorem find_none {l : List (Key × Ent)} {k : Key} (h : l.any (fun q => q.1 == k) = false) : l.find? (fun p => p.1 == k) = Option.none := by
  rw [List.find?_eq_none]
  intro x hx hk
  have : l.any (fun q => q.1 == k) = true := List.any_eq_true.2 ⟨x, hx, hk⟩
  rw [h] at this
  cases this

theorem app_same {t : LT} {f : StF} {k : Key} (h : t.post.any (fun q => q.1 == k) = false) : t.app f k = f k := by
  unfold LT.app; rw [find_none h]

theorem apart_spec {s t : LT} (h : s.apart t = true) :
    (∀ p ∈ s.post, t.pre.any (fun q => q.1 == p.1) = false ∧ t.post.any (fun q => q.1 == p.1) = false) ∧ (∀ p ∈ t.post, s.pre.any (fun q => q.1 == p.1) = false) := by
  simp only [LT.apart, Bool.and_eq_true, List.all_eq_true, Bool.not_eq_true'] at h
  exact ⟨fun p hp => h.1 p hp, fun p hp => h.2 p hp⟩

theorem not_any_of {l : List (Key × Ent)} {l' : List (Key × Ent)} (h : ∀ p ∈ l, l'.any (fun q => q.1 == p.1) = false) {q : Key × Ent} (hq : q ∈ l') : l.any (fun p => p.1 == q.1) = false := by
  rw [List.any_eq_false]
  intro p hp hk
  have h1 := h p hp
  rw [List.any_eq_false] at h1
  refine h1 q hq ?_
  have : p.1 = q.1 := by simpa using hk
  simp [this]

theorem apart_comm {s t : LT} (h : s.apart t = true) (f : StF) : t.app (s.app f) = s.app (t.app f) := by
  obtain ⟨h1, _⟩ := apart_spec h
  funext k
  by_cases hs : s.post.any (fun q => q.1 == k) = true
  · obtain ⟨p, hp, hk⟩ := List.any_eq_true.1 hs
    have hk' : p.1 = k := by simpa using hk
    have ht : t.post.any (fun q => q.1 == k) = false := hk' ▸ (h1 p hp).2
    rw [app_same ht]
    unfold LT.app
    rw [find_none ht]
  · have hs' : s.post.any (fun q => q.1 == k) = false := by cases h : (s.post.any (fun q => q.1 == k)) <;> simp_all
    rw [app_same (t := s) hs']
    unfold LT.app
    split
    · rfl
    · rw [find_none hs']

theorem fits_app {s t : LT} (h : ∀ p ∈ s.post, t.pre.any (fun q => q.1 == p.1) = false) {f : StF} : t.fits (s.app f) ↔ t.fits f := by
  constructor
  · intro hf q hq
    rw [← hf q hq, app_same (not_any_of h hq)]
  · intro hf q hq
    rw [← hf q hq, app_same (not_any_of h hq)]

theorem runL_front {t1 : List LT} {t : LT} {t2 : List LT} : ∀ {f g : StF}, RunL (t1 ++ t :: t2) f g → (∀ s ∈ t1, s.apart t = true) → t.fits f ∧ RunL (t1 ++ t2) (t.app f) g := by
  induction t1 with
  | nil => intro f g h _; exact h
  | cons s r ih =>
    intro f g h ha
    obtain ⟨hs, hr⟩ := h
    obtain ⟨h1, h2⟩ := ih hr (fun x hx => ha x (List.mem_cons_of_mem _ hx))
    have hst := ha s (List.mem_cons_self ..)
    obtain ⟨a1, a2⟩ := apart_spec hst
    refine ⟨(fits_app (fun p hp => (a1 p hp).1)).1 h1, (fits_app a2).2 hs, ?_⟩
    rw [← apart_comm hst]
    exact h2

/-- The fence of everything, within a round or not. -/
def wideR (ro : Option Nat) : Fence := { Fence.wide with round := ro }

/-- The i-th operation of a region does what its step says, whenever what it reads is there. -/
def SoundAt (P : Program) (N : Nat) (ops : Array Oper) (i : Nat) (t : LT) : Prop :=
  ∀ (ro : Option Nat) (n : Nat) (c : Ctx) (φ : Names) (m : Mem) (f : StF) (a : Act) (W : World) (Q : Exit → Act → World → Prop) (K : Act → World → Prop),
    c.nt = N → RelC c φ m f a W → t.fits f → (∀ φ' m' a' W', RelC c φ' m' (t.app f) a' W' → a'.defers = a.defers → K a' W') → wpOpIn (wideR ro) n P ops Q i K a W

/-- Text order. -/
theorem runL_text {P : Program} {N : Nat} {ops : Array Oper} {ro : Option Nat} {n : Nat} {c : Ctx} (hN : c.nt = N) {Q : Exit → Act → World → Prop} :
    ∀ (ts : List (Nat × LT)) (f g : StF) (φ : Names) (m : Mem) (a : Act) (W : World), (∀ p ∈ ts, SoundAt P N ops p.1 p.2) → RunL (ts.map (·.2)) f g → RelC c φ m f a W →
      (∀ φ' m' a' W', RelC c φ' m' g a' W' → a'.defers = a.defers → Q .normal a' W') → wpOpsIn (wideR ro) n P ops Q (ts.map (·.1)) a W := by
  intro ts
  induction ts with
  | nil => intro f g φ m a W _ hr hc hq; simp only [List.map_nil, RunL] at hr; subst hr; exact hq φ m a W hc rfl
  | cons p ts ih =>
    intro f g φ m a W hs hr hc hq
    obtain ⟨hf, hr⟩ := hr
    rw [List.map_cons, wpOpsIn_cons]
    refine hs p (List.mem_cons_self ..) ro n c φ m f a W Q _ hN hc hf fun φ' m' a' W' hc' hd => ?_
    exact ih _ g φ' m' a' W' (fun q hq => hs q (List.mem_cons_of_mem _ hq)) hr hc' (fun φ2 m2 a2 W2 h hd2 => hq φ2 m2 a2 W2 h (hd2.trans hd))

/-- Which operations must have come ahead of one, by the edges that bind. -/
def ancOk (ops : Array Oper) (anc : Nat → List Nat) : Prop :=
  ∀ i o, ops[i]? = some o → ∀ j ∈ anc i, ∃ e ∈ o.after.toList, Region.binds .any e = true ∧ (e.on = j ∨ j ∈ anc e.on)

theorem mem_ready {ops : Array Oper} {listed : Array Bool} {i : Nat} (h : i ∈ Region.ready .any ops listed) :
    i < ops.size ∧ listed.getD i true = false ∧ ∃ o, ops[i]? = some o ∧ ∀ e ∈ o.after.toList, Region.binds .any e = true → listed.getD e.on false = true := by
  simp only [Region.ready, List.mem_filter, List.mem_range, Bool.and_eq_true, Bool.not_eq_true'] at h
  obtain ⟨h1, h2, h3⟩ := h
  refine ⟨h1, h2, ?_⟩
  cases ho : ops[i]? with
  | none => simp [ho] at h3
  | some o =>
    refine ⟨o, rfl, fun e he hb => ?_⟩
    simp only [ho, Option.map_some, Option.getD_some] at h3
    rw [← Array.all_toList, List.all_eq_true] at h3
    have := h3 e he
    simpa [hb] using this

theorem getD_set {l : Array Bool} {i j : Nat} {d : Bool} (hi : i < l.size) : (l.setIfInBounds i true).getD j d = if i = j then true else l.getD j d := by
  simp only [Array.getD_eq_getD_getElem?, Array.getElem?_setIfInBounds]
  split
  · simp [hi]
  · rfl

theorem runL_any {P : Program} {N : Nat} {ops : Array Oper} {ro : Option Nat} {n : Nat} {c : Ctx} (hN : c.nt = N) {Q : Exit → Act → World → Prop} {anc : Nat → List Nat} (hanc : ancOk ops anc)
    (hlt : ∀ (i : Nat) (o : Oper), ops[i]? = some o → ∀ e ∈ o.after.toList, Region.binds .any e = true → e.on < i) :
    ∀ (k : Nat) (ts : List (Nat × LT)) (f g : StF) (φ : Names) (m : Mem) (a : Act) (W : World) (listed : Array Bool), ts.length = k →
      listed.size = ops.size → (ts.map (·.1)).Pairwise (· < ·) → (∀ i, i < ops.size → (listed.getD i true = false ↔ i ∈ ts.map (·.1))) → (∀ i ∈ ts.map (·.1), i < ops.size) →
      (∀ i, listed.getD i false = true → ∀ j ∈ anc i, listed.getD j false = true) →
      (ts.Pairwise fun p q => p.2.apart q.2 = true ∨ p.1 ∈ anc q.1) →
      (∀ p ∈ ts, SoundAt P N ops p.1 p.2) → RunL (ts.map (·.2)) f g → RelC c φ m f a W →
      (∀ φ' m' a' W', RelC c φ' m' g a' W' → a'.defers = a.defers → Q .normal a' W') → wpAnyIn (wideR ro) n P .any ops Q k listed a W := by
  intro k
  induction k with
  | zero =>
    intro ts f g φ m a W listed hk hsz hsort hl hsm hcl hap hs hr hc hq
    have hts : ts = [] := List.eq_nil_of_length_eq_zero hk
    subst hts
    simp only [List.map_nil, RunL] at hr
    subst hr
    refine ⟨?_, hq φ m a W hc rfl⟩
    rw [List.eq_nil_iff_forall_not_mem]
    intro i hi
    obtain ⟨h1, h2, _⟩ := mem_ready hi
    have := (hl i h1).1 h2
    simp at this
  | succ k ih =>
    intro ts f g φ m a W listed hk hsz hsort hl hsm hcl hap hs hr hc hq
    refine ⟨fun hnil => ?_, fun i hi => ?_⟩
    · -- the first one left is ready
      exfalso
      cases ts with
      | nil => simp at hk
      | cons p ts =>
        have hp := hsm p.1 (by simp)
        have hmem : p.1 ∈ Region.ready .any ops listed := by
          simp only [Region.ready, List.mem_filter, List.mem_range, Bool.and_eq_true, Bool.not_eq_true']
          refine ⟨hp, (hl p.1 hp).2 (by simp), ?_⟩
          rw [Array.getElem?_eq_getElem hp]
          simp only [Option.map_some, Option.getD_some]
          rw [← Array.all_toList, List.all_eq_true]
          intro e he
          by_cases hb : Region.binds .any e = true
          · have h1 := hlt p.1 _ (Array.getElem?_eq_getElem hp) e he hb
            have h2 : ¬ (listed.getD e.on true = false) := by
              intro hf
              have h3 := (hl e.on (by omega)).1 hf
              rw [List.map_cons, List.mem_cons] at h3
              rw [List.map_cons, List.pairwise_cons] at hsort
              rcases h3 with h3 | h3
              · omega
              · have := hsort.1 _ h3; omega
            have h4 : e.on < listed.size := by omega
            simp only [Array.getD_eq_getD_getElem?, Array.getElem?_eq_getElem h4, Option.getD_some] at h2 ⊢
            simp [h2]
          · simp [hb]
        rw [hnil] at hmem
        cases hmem
    · obtain ⟨h1, h2, o, ho, hpre⟩ := mem_ready hi
      have hmem := (hl i h1).1 h2
      obtain ⟨p, hp, hpi⟩ := List.mem_map.1 hmem
      obtain ⟨t1, t2, hts⟩ := List.append_of_mem hp
      subst hts
      have hlisted : ∀ j ∈ anc i, listed.getD j false = true := by
        intro j hj
        obtain ⟨e, he, hb, hj⟩ := hanc i o ho j hj
        rcases hj with hj | hj
        · exact hj ▸ hpre e he hb
        · exact hcl e.on (hpre e he hb) j hj
      have hfront : ∀ s ∈ t1.map (·.2), s.apart p.2 = true := by
        intro s hs'
        obtain ⟨q, hq', hqs⟩ := List.mem_map.1 hs'
        rw [List.pairwise_append] at hap
        rcases hap.2.2 q hq' p (List.mem_cons_self ..) with h | h
        · exact hqs ▸ h
        · exfalso
          have h3 := hlisted q.1 (hpi ▸ h)
          have hq1 : q.1 < ops.size := hsm q.1 (List.mem_map.2 ⟨q, List.mem_append_left _ hq', rfl⟩)
          have h4 := (hl q.1 hq1).2 (List.mem_map.2 ⟨q, List.mem_append_left _ hq', rfl⟩)
          have h5 : q.1 < listed.size := by omega
          simp only [Array.getD_eq_getD_getElem?, Array.getElem?_eq_getElem h5, Option.getD_some] at h3 h4
          rw [h3] at h4
          cases h4
      rw [List.map_append, List.map_cons] at hr
      obtain ⟨hfit, hrun⟩ := runL_front hr hfront
      have hsp := hs p hp
      rw [hpi] at hsp
      refine hsp ro n c φ m f a W Q _ hN hc hfit fun φ' m' a' W' hc' hd => ?_
      rw [← List.map_append] at hrun
      have hnd : (List.map (·.1) (t1 ++ p :: t2)).Pairwise (· < ·) := hsort
      have hi1 : i < listed.size := by omega
      refine ih (t1 ++ t2) _ g φ' m' a' W' _ (by simp at hk ⊢; omega) (by simp [hsz]) ?_ ?_ ?_ ?_ ?_ (fun q hq' => hs q (by
        rcases List.mem_append.1 hq' with h | h
        · exact List.mem_append_left _ h
        · exact List.mem_append_right _ (List.mem_cons_of_mem _ h))) hrun hc' (fun φ2 m2 a2 W2 h hd2 => hq φ2 m2 a2 W2 h (hd2.trans hd))
      · refine List.Pairwise.sublist ?_ hsort
        exact (List.Sublist.append_left (List.sublist_cons_self p t2) t1).map _
      · intro j hj
        rw [getD_set hi1]
        have hkey := hl j hj
        by_cases e : i = j
        · subst e
          simp only [if_true, Bool.true_eq_false, false_iff]
          intro hin
          rw [List.map_append, List.map_cons, List.pairwise_append, List.pairwise_cons] at hsort
          rw [List.map_append, List.mem_append] at hin
          rcases hin with hin | hin
          · have := hsort.2.2 i hin p.1 (List.mem_cons_self ..); omega
          · have := hsort.2.1.1 i hin; omega
        · simp only [if_neg e]
          rw [hkey]
          simp only [List.map_append, List.map_cons, List.mem_append, List.mem_cons]
          constructor
          · rintro (h | h | h)
            · exact .inl h
            · exact absurd (h.trans hpi).symm e
            · exact .inr h
          · rintro (h | h)
            · exact .inl h
            · exact .inr (.inr h)
      · intro j hj
        refine hsm j ?_
        simp only [List.map_append, List.map_cons, List.mem_append, List.mem_cons] at hj ⊢
        rcases hj with h | h
        · exact .inl h
        · exact .inr (.inr h)
      · intro j hj x hx
        rw [getD_set hi1] at hj ⊢
        by_cases ex : i = x
        · simp [ex]
        · rw [if_neg ex]
          by_cases ej : i = j
          · exact hlisted x (ej ▸ hx)
          · rw [if_neg ej] at hj; exact hcl j hj x hx
      · exact hap.sublist (List.Sublist.append_left (List.sublist_cons_self p t2) t1)

/-! ### The rule for a region -/
/-- The ancestors of each operation, reckoned. -/
def ancs : List Oper → List (List Nat) → List (List Nat)
  | [], acc => acc
  | o :: os, acc => ancs os (acc ++ [o.after.toList.flatMap fun e => if Region.binds .any e then e.on :: acc.getD e.on [] else []])

def ancOf (ops : Array Oper) (i : Nat) : List Nat := (ancs ops.toList []).getD i []

def edgesOk (ops : Array Oper) : Bool := ops.toList.zipIdx.all fun p => p.1.after.toList.all fun e => !Region.binds .any e || decide (e.on < p.2)

def orderOk (ops : Array Oper) (ts : List LT) : Bool :=
  (List.range ts.length).all fun i => (List.range i).all fun j => ((ts.getD j ⟨[], []⟩).apart (ts.getD i ⟨[], []⟩)) || (ancOf ops i).contains j

theorem ancs_len : ∀ (os : List Oper) (acc : List (List Nat)), (ancs os acc).length = acc.length + os.length
  | [], acc => by simp [ancs]
  | o :: os, acc => by rw [ancs, ancs_len os]; simp; omega

theorem ancs_keeps : ∀ (os : List Oper) (acc : List (List Nat)) (i : Nat), i < acc.length → (ancs os acc).getD i [] = acc.getD i []
  | [], acc, i, _ => rfl
  | o :: os, acc, i, h => by
    rw [ancs, ancs_keeps os _ i (by simp; omega)]
    simp [List.getD_eq_getElem?_getD, List.getElem?_append_left h]

theorem ancs_at : ∀ (os : List Oper) (acc : List (List Nat)) (k : Nat) (o : Oper), os[k]? = some o → (∀ e ∈ o.after.toList, Region.binds .any e = true → e.on < acc.length + k) →
    (ancs os acc).getD (acc.length + k) [] = o.after.toList.flatMap fun e => if Region.binds .any e then e.on :: (ancs os acc).getD e.on [] else []
  | [], acc, k, o, h, _ => by simp at h
  | x :: os, acc, 0, o, h, he => by
    simp at h
    subst h
    rw [ancs]
    rw [ancs_keeps os _ _ (by simp)]
    simp only [Nat.add_zero, List.getD_eq_getElem?_getD, List.getElem?_append_right (Nat.le_refl _), Nat.sub_self, List.getElem?_cons_zero, Option.getD_some]
    apply congrArg List.flatten
    apply List.map_congr_left
    intro e hm
    by_cases hb : Region.binds .any e = true
    · rw [if_pos hb, if_pos hb]
      have h1 := he e hm hb
      have h2 := ancs_keeps os (acc ++ [x.after.toList.flatMap fun e => if Region.binds .any e then e.on :: acc.getD e.on [] else []]) e.on (by simp; omega)
      simp only [List.getD_eq_getElem?_getD, List.getElem?_append_left (show e.on < acc.length by omega)] at h2
      rw [h2]
    · rw [if_neg hb, if_neg hb]
  | x :: os, acc, k + 1, o, h, he => by
    have := ancs_at os (acc ++ [x.after.toList.flatMap fun e => if Region.binds .any e then e.on :: acc.getD e.on [] else []]) k o (by simpa using h) (fun e hm hb => by have := he e hm hb; simp; omega)
    simp only [List.length_append, List.length_cons, List.length_nil] at this
    rw [show acc.length + (0 + 1) + k = acc.length + (k + 1) by omega] at this
    rw [ancs]
    exact this

theorem edges_lt {ops : Array Oper} (h : edgesOk ops = true) : ∀ (i : Nat) (o : Oper), ops[i]? = some o → ∀ e ∈ o.after.toList, Region.binds .any e = true → e.on < i := by
  intro i o ho e he hb
  simp only [edgesOk, List.all_eq_true] at h
  have h1 := h (o, i) (by
    rw [List.mem_zipIdx_iff_getElem?]
    simpa using ho) e he
  simpa [hb] using h1

theorem ancOf_ok {ops : Array Oper} (h : edgesOk ops = true) : ancOk ops (ancOf ops) := by
  intro i o ho j hj
  have hl : ops.toList[i]? = some o := by simpa using ho
  have h1 := ancs_at ops.toList [] i o hl (fun e he hb => by have := edges_lt h i o ho e he hb; simpa using this)
  simp only [List.length_nil, Nat.zero_add] at h1
  unfold ancOf at hj ⊢
  rw [h1, List.mem_flatMap] at hj
  obtain ⟨e, he, hje⟩ := hj
  by_cases hb : Region.binds .any e = true
  · rw [if_pos hb, List.mem_cons] at hje
    exact ⟨e, he, hb, hje.imp Eq.symm id⟩
  · rw [if_neg hb] at hje; cases hje

/-- **A REGION, WHATEVER ORDER IS DRAWN.** -/
theorem wp_region {P : Program} {N : Nat} (hm : P.follows .mixedOrders = true) {ro : Option Nat} {n id : Nat} {ops : Array Oper} {draw : Bool} {c : Ctx} {φ : Names} {m : Mem} {f g : StF} {a : Act} {W : World} {Q : Exit → Act → World → Prop}
    (ts : List LT) (hN : c.nt = N) (hn : ts.length = ops.size) (hs : ∀ (i : Nat) (t : LT), ts[i]? = some t → SoundAt P N ops i t) (hr : RunL ts f g) (ho : draw = true → (edgesOk ops && orderOk ops ts) = true)
    (hc : RelC c φ m f a W) (hq : ∀ φ' m' a' W', RelC c φ' m' g a' W' → a'.defers = a.defers → Q .normal a' W') : (Code.region id ops draw).wpIn (wideR ro) n P Q a W := by
  have hz1 : (ts.zipIdx.map (fun p => (p.2, p.1))).map (·.1) = List.range ops.size := by
    rw [List.map_map, ← hn]
    apply List.ext_getElem <;> simp
  have hz2 : (ts.zipIdx.map (fun p => (p.2, p.1))).map (·.2) = ts := by
    rw [List.map_map]
    apply List.ext_getElem <;> simp
  have hsnd : ∀ p ∈ ts.zipIdx.map (fun p => (p.2, p.1)), SoundAt P N ops p.1 p.2 := by
    intro p hp
    obtain ⟨q, hq, rfl⟩ := List.mem_map.1 hp
    rw [List.mem_zipIdx_iff_getElem?] at hq
    exact hs _ _ hq
  cases draw with
  | false =>
    refine wpIn_region ?_
    have := runL_text (P := P) (N := N) (ops := ops) (ro := ro) (n := n) (c := c) hN (Q := Q) (ts.zipIdx.map (fun p => (p.2, p.1))) f g φ m a W hsnd (by rw [hz2]; exact hr) hc hq
    rwa [hz1] at this
  | true =>
    have ho := ho rfl
    rw [Bool.and_eq_true] at ho
    refine wpIn_region_any hm ?_
    refine runL_any (N := N) hN (ancOf_ok ho.1) (edges_lt ho.1) ops.size (ts.zipIdx.map (fun p => (p.2, p.1))) f g φ m a _ _ (by simp [hn]) (by simp) (by rw [hz1]; exact List.pairwise_lt_range) ?_ ?_ ?_ ?_ hsnd (by rw [hz2]; exact hr) (hc.drawn _) hq
    · intro i hi
      rw [hz1]
      simp [Array.getD_eq_getD_getElem?, hi]
    · intro i hi
      rw [hz1] at hi
      simpa using hi
    · intro i hi
      simp only [Array.getD_eq_getD_getElem?, Array.getElem?_replicate] at hi
      split at hi <;> simp at hi
    · rw [List.pairwise_iff_getElem]
      intro i j hi hj hij
      simp only [List.length_map, List.length_zipIdx] at hi hj
      simp only [List.getElem_map, List.getElem_zipIdx, Nat.zero_add]
      have h1 := ho.2
      simp only [orderOk, List.all_eq_true, List.mem_range, Bool.or_eq_true] at h1
      have h2 := h1 j hj i hij
      simp only [List.getD_eq_getElem?_getD, List.getElem?_eq_getElem hi, List.getElem?_eq_getElem hj, Option.getD_some] at h2
      rcases h2 with h2 | h2
      · exact .inl h2
      · exact .inr (by simpa using h2)

end Go.Proofs.Hg

/- How a state goes on when the world takes a step. -/
set_option linter.unusedVariables false
set_option linter.unusedSimpArgs false
namespace Go.Proofs.Hg
open Go.RowKit

def upd (f : StF) (k : Key) (e : Ent) : StF := fun k' => if k' = k then e else f k'
@[simp] theorem upd_self (f : StF) (k : Key) (e : Ent) : upd f k e k = e := by simp [upd]
theorem upd_other {f : StF} {k k' : Key} {e : Ent} (h : k' ≠ k) : upd f k e k' = f k' := by simp [upd, h]

theorem app_nil (pre : List (Key × Ent)) (f : StF) : LT.app ⟨pre, []⟩ f = f := rfl
theorem app_cons (pre : List (Key × Ent)) (k : Key) (e : Ent) (ps : List (Key × Ent)) (f : StF) : LT.app ⟨pre, (k, e) :: ps⟩ f = upd (LT.app ⟨pre, ps⟩ f) k e := by
  funext k'
  unfold LT.app upd
  simp only [List.find?_cons]
  by_cases h : k' = k
  · subst h; simp
  · have : (k == k') = false := by simpa using fun e => h e.symm
    simp [this, h]

def updN (φ : Names) (i : Nat) (s : Slot) : Names := fun j => if j = i then some s else φ j
@[simp] theorem updN_self (φ : Names) (i : Nat) (s : Slot) : updN φ i s i = some s := by simp [updN]
theorem updN_other {φ : Names} {i j : Nat} {s : Slot} (h : j ≠ i) : updN φ i s j = φ j := by simp [updN, h]
theorem updN_le {φ : Names} {i : Nat} (s : Slot) (h : φ i = none) : NamesLe φ (updN φ i s) := by
  intro j t hj
  by_cases e : j = i
  · subst e; rw [h] at hj; cases hj
  · rw [updN_other e]; exact hj

theorem relRow_le {m m' : Mem} (hm : MemLe m m') {es : List (List D)} {cs : Array Value} (h : relRow m es cs) : relRow m' es cs :=
  fun j d hj => let ⟨v, h1, h2⟩ := h j d hj; ⟨v, h1, D.rel_le hm d v h2⟩

theorem AObj.rel_keep {φ φ' : Names} {m m' : Mem} {W W' : World} {i : Nat} (hp : NamesLe φ φ') (hm : MemLe m m') {o : AObj} (h : o.rel φ m W i)
    (hb : ∀ b C e, φ i = some (.blk b C e) → W'.heap[b]? = W.heap[b]?) : o.rel φ' m' W' i := by
  cases o with
  | cells vs ty =>
    obtain ⟨b, C, e, cs, fr, h1, h2, h0, h3⟩ := h
    exact ⟨b, C, e, cs, fr, hp _ _ h1, (hb b C e h1).trans h2, h0, relAll_le hp hm h3⟩
  | row es ty =>
    rcases h with ⟨h1, h2⟩ | ⟨b, C, e, cs, fr, h1, h2, h0, h3, h4, h5, h6, h7⟩
    · exact .inl ⟨hp _ _ h1, h2⟩
    · exact .inr ⟨b, C, e, cs, fr, hp _ _ h1, (hb b C e h1).trans h2, h0, h3, h4, h5, h6, relRow_le hm h7⟩
  | other o =>
    obtain ⟨b, C, e, h1, h2, h3⟩ := h
    exact ⟨b, C, e, hp _ _ h1, (hb b C e h1).trans h2, h3⟩

theorem AObj.rel_name {φ : Names} {m : Mem} {W : World} {i : Nat} {o : AObj} (h : o.rel φ m W i) : ∃ s, φ i = some s := by
  cases o with
  | cells vs ty => obtain ⟨b, C, e, cs, fr, h1, _⟩ := h; exact ⟨_, h1⟩
  | row es ty =>
    rcases h with ⟨h1, _⟩ | ⟨b, C, e, cs, fr, h1, _⟩
    · exact ⟨_, h1⟩
    · exact ⟨_, h1⟩
  | other o => obtain ⟨b, C, e, h1, _⟩ := h; exact ⟨_, h1⟩

section
variable {c : Ctx} {φ : Names} {m : Mem} {f : StF} {a : Act} {W : World}

theorem RelC.put (h : RelC c φ m f a W) {d : Tmp} (hd : d < c.nt) {val : AVal} {V : Value} (hv : val.rel φ m V) : RelC c φ m (upd f (.t d) (.v val)) (a.put (some d) V) W :=
  { os := h.os, out := h.out, tape := h.tape, size := h.size, frame := h.frame, mem := h.mem, m0 := h.m0, mnew := h.mnew, ext := h.ext
    obj := fun i o hi => h.obj i o (by rwa [upd_other (by simp)] at hi)
    own := fun i o b C e hi => h.own i o b C e (by rwa [upd_other (by simp)] at hi)
    inj := fun i j o o' b C e C' e' hi hj => h.inj i j o o' b C e C' e' (by rwa [upd_other (by simp)] at hi) (by rwa [upd_other (by simp)] at hj)
    free := fun i hi => h.free i (by rwa [upd_other (by simp)] at hi)
    env := fun t v ht => by
      have hsz : a.tmps.size = c.nt := h.nt
      by_cases e : t = d
      · subst e
        rw [upd_self] at ht
        injection ht with ht
        subst ht
        refine ⟨V, ?_, hv⟩
        simp [Act.put, Array.getElem?_setIfInBounds, hsz, hd]
      · rw [upd_other (by simpa using e)] at ht
        obtain ⟨V', h1, h2⟩ := h.env t v ht
        refine ⟨V', ?_, h2⟩
        simp only [Act.put]
        rw [Array.getElem?_setIfInBounds_ne (fun x => e x.symm)]
        exact h1
    nt := by have := h.nt; simpa [Act.put] using this }

theorem RelC.step (h : RelC c φ m f a W) {φ' : Names} {m' : Mem} {f' : StF} {W' : World} (tb : Nat → Prop)
    (hos : W'.os = W.os) (hout : W'.output = W.output) (htape : W'.tape = W.tape) (hsize : W.heap.size ≤ W'.heap.size) (hp : NamesLe φ φ') (hm : MemLe m m')
    (hsame : ∀ b, b < W.heap.size → ¬ tb b → W'.heap[b]? = W.heap[b]?)
    (htb : ∀ b, b < W.heap.size → tb b → (c.w0.heap.size ≤ b ∨ c.X b) ∧ m b = none)
    (hmem : ∀ b o, m' b = some o → m b = some o ∨ (W'.heap[b]? = some o ∧ (c.w0.heap.size ≤ b ∨ c.X b)))
    (hobj : ∀ i o, f' (.h i) = .o o → (f (.h i) = .o o ∧ ∀ b C e, φ i = some (.blk b C e) → ¬ tb b ∧ m' b = none) ∨
      (o.rel φ' m' W' i ∧ ∀ b C e, φ' i = some (.blk b C e) → (c.w0.heap.size ≤ b ∨ c.X b) ∧ m' b = none ∧ b < W'.heap.size))
    (hinj : ∀ i j o o' b C e C' e', f' (.h i) = .o o → f' (.h j) = .o o' → φ' i = some (.blk b C e) → φ' j = some (.blk b C' e') → i = j)
    (hfree : ∀ i, f' (.h i) = .free → φ' i = none)
    (henv : ∀ t v, f' (.t t) = .v v → f (.t t) = .v v) : RelC c φ' m' f' a W' :=
  { os := hos.trans h.os, out := hout.trans h.out, tape := htape.trans h.tape, size := Nat.le_trans h.size hsize
    frame := fun b hb hx => by
      have hb' : b < W.heap.size := Nat.lt_of_lt_of_le hb h.size
      rw [hsame b hb' (fun ht => by rcases (htb b hb' ht).1 with h1 | h1; omega; exact hx h1)]
      exact h.frame b hb hx
    mem := fun b o hb => by
      rcases hmem b o hb with h1 | h1
      · have h2 := h.mem b o h1
        have hlt : b < W.heap.size := (Array.getElem?_eq_some_iff.1 h2).1
        rw [hsame b hlt (fun ht => by have := (htb b hlt ht).2; rw [h1] at this; cases this)]
        exact h2
      · exact h1.1
    m0 := h.m0.trans hm
    mnew := fun b o hb => by
      rcases hmem b o hb with h1 | h1
      · exact h.mnew b o h1
      · exact .inr h1.2
    ext := h.ext.trans hp
    obj := fun i o hi => by
      rcases hobj i o hi with ⟨h1, h2⟩ | h1
      · exact AObj.rel_keep hp hm (h.obj i o h1) fun b C e hb => hsame b (h.own i o b C e h1 hb).2.2 (h2 b C e hb).1
      · exact h1.1
    own := fun i o b C e hi hb => by
      rcases hobj i o hi with ⟨h1, h2⟩ | h1
      · obtain ⟨s, hs⟩ := AObj.rel_name (h.obj i o h1)
        have hs' := hp i s hs
        rw [hb] at hs'
        injection hs' with hs'
        subst hs'
        obtain ⟨x1, x2, x3⟩ := h.own i o b C e h1 hs
        exact ⟨x1, (h2 b C e hs).2, Nat.lt_of_lt_of_le x3 hsize⟩
      · exact h1.2 b C e hb
    inj := hinj, free := hfree
    env := fun t v ht => let ⟨V, h1, h2⟩ := h.env t v (henv t v ht); ⟨V, h1, AVal.rel_le hp hm v V h2⟩
    nt := h.nt }

/-- A new object. -/
theorem RelC.alloc (h : RelC c φ m f a W) {i : Nat} (hi : f (.h i) = .free) {O : Obj} {o : AObj} {C e : Nat}
    (ho : o.rel (updN φ i (.blk W.heap.size C e)) m (W.alloc O) i) : RelC c (updN φ i (.blk W.heap.size C e)) m (upd f (.h i) (.o o)) a (W.alloc O) := by
  have hn := h.free i hi
  have hp : NamesLe φ (updN φ i (.blk W.heap.size C e)) := updN_le _ hn
  refine h.step (fun _ => False) rfl rfl rfl (by simp) hp (MemLe.refl m) (fun b hb _ => Below.heap_alloc W O b hb) (fun _ _ x => x.elim) (fun _ _ hb => .inl hb) ?_ ?_ ?_ ?_
  · intro j o' hj
    by_cases e1 : j = i
    · subst e1
      rw [upd_self] at hj
      injection hj with hj
      subst hj
      refine .inr ⟨ho, fun b C' e' hb => ?_⟩
      rw [updN_self] at hb
      injection hb with hb
      injection hb with hb _ _
      subst hb
      refine ⟨.inl h.size, ?_, by simp⟩
      cases hm : m W.heap.size with
      | none => rfl
      | some o2 =>
        have := h.mem _ _ hm
        simp at this
    · rw [upd_other (by simpa using e1)] at hj
      exact .inl ⟨hj, fun b C' e' hb => ⟨id, (h.own j o' b C' e' hj hb).2.1⟩⟩
  · intro j k o1 o2 b C1 e1 C2 e2 hj hk bj bk
    by_cases ej : j = i
    · by_cases ek : k = i
      · rw [ej, ek]
      · exfalso
        subst ej
        rw [updN_self] at bj
        injection bj with bj
        injection bj with bj _ _
        rw [upd_other (by simpa using ek)] at hk
        rw [updN_other ek] at bk
        have := (h.own k o2 b C2 e2 hk bk).2.2
        omega
    · by_cases ek : k = i
      · exfalso
        subst ek
        rw [updN_self] at bk
        injection bk with bk
        injection bk with bk _ _
        rw [upd_other (by simpa using ej)] at hj
        rw [updN_other ej] at bj
        have := (h.own j o1 b C1 e1 hj bj).2.2
        omega
      · rw [upd_other (by simpa using ej)] at hj
        rw [upd_other (by simpa using ek)] at hk
        rw [updN_other ej] at bj
        rw [updN_other ek] at bk
        exact h.inj j k o1 o2 b C1 e1 C2 e2 hj hk bj bk
  · intro j hj
    by_cases ej : j = i
    · subst ej; rw [upd_self] at hj; cases hj
    · rw [upd_other (by simpa using ej)] at hj
      rw [updN_other ej]
      exact h.free j hj
  · intro t v ht
    rwa [upd_other (by simp)] at ht

/-- An object that has no block (a nil row). -/
theorem RelC.allocNil (h : RelC c φ m f a W) {i : Nat} (hi : f (.h i) = .free) {ty : TypeId} : RelC c (updN φ i .nil) m (upd f (.h i) (.o (.row [] ty))) a W := by
  have hn := h.free i hi
  have hp : NamesLe φ (updN φ i .nil) := updN_le _ hn
  refine h.step (fun _ => False) rfl rfl rfl (Nat.le_refl _) hp (MemLe.refl m) (fun b hb _ => rfl) (fun _ _ x => x.elim) (fun _ _ hb => .inl hb) ?_ ?_ ?_ ?_
  · intro j o' hj
    by_cases e1 : j = i
    · subst e1
      rw [upd_self] at hj
      injection hj with hj
      subst hj
      refine .inr ⟨.inl ⟨updN_self _ _ _, rfl⟩, fun b C' e' hb => ?_⟩
      rw [updN_self] at hb
      injection hb with hb
      cases hb
    · rw [upd_other (by simpa using e1)] at hj
      exact .inl ⟨hj, fun b C' e' hb => ⟨id, (h.own j o' b C' e' hj hb).2.1⟩⟩
  · intro j k o1 o2 b C1 e1 C2 e2 hj hk bj bk
    by_cases ej : j = i
    · subst ej; rw [updN_self] at bj; injection bj with bj; cases bj
    · by_cases ek : k = i
      · subst ek; rw [updN_self] at bk; injection bk with bk; cases bk
      · rw [upd_other (by simpa using ej)] at hj
        rw [upd_other (by simpa using ek)] at hk
        rw [updN_other ej] at bj
        rw [updN_other ek] at bk
        exact h.inj j k o1 o2 b C1 e1 C2 e2 hj hk bj bk
  · intro j hj
    by_cases ej : j = i
    · subst ej; rw [upd_self] at hj; cases hj
    · rw [upd_other (by simpa using ej)] at hj
      rw [updN_other ej]
      exact h.free j hj
  · intro t v ht
    rwa [upd_other (by simp)] at ht

/-- An object is written in place. -/
theorem RelC.setObj (h : RelC c φ m f a W) {i : Nat} {o : AObj} (hi : f (.h i) = .o o) {b C e : Nat} (hb : φ i = some (.blk b C e)) {W' : World} {o' : AObj}
    (hos : W'.os = W.os) (hout : W'.output = W.output) (htape : W'.tape = W.tape) (hsz : W'.heap.size = W.heap.size) (hsame : ∀ k, k ≠ b → W'.heap[k]? = W.heap[k]?)
    (ho : o'.rel φ m W' i) : RelC c φ m (upd f (.h i) (.o o')) a W' := by
  refine h.step (fun k => k = b) hos hout htape (by omega) (NamesLe.refl φ) (MemLe.refl m) (fun k _ hk => hsame k hk) ?_ (fun _ _ hb => .inl hb) ?_ ?_ ?_ ?_
  · rintro k hk rfl
    have := h.own i o k C e hi hb
    exact ⟨this.1, this.2.1⟩
  · intro j o1 hj
    by_cases ej : j = i
    · subst ej
      rw [upd_self] at hj
      injection hj with hj
      subst hj
      refine .inr ⟨ho, fun b1 C1 e1 h1 => ?_⟩
      have := h.own j o b1 C1 e1 hi h1
      exact ⟨this.1, this.2.1, by omega⟩
    · rw [upd_other (by simpa using ej)] at hj
      refine .inl ⟨hj, fun b1 C1 e1 h1 => ⟨?_, (h.own j o1 b1 C1 e1 hj h1).2.1⟩⟩
      rintro rfl
      exact ej (h.inj j i o1 o b1 C1 e1 C e hj hi h1 hb)
  · intro j k o1 o2 b1 C1 e1 C2 e2 hj hk bj bk
    have key : ∀ j o1, upd f (.h i) (.o o') (.h j) = .o o1 → ∃ o2, f (.h j) = .o o2 := by
      intro j o1 hj
      by_cases ej : j = i
      · exact ⟨o, ej ▸ hi⟩
      · rw [upd_other (by simpa using ej)] at hj; exact ⟨o1, hj⟩
    obtain ⟨p1, hp1⟩ := key j o1 hj
    obtain ⟨p2, hp2⟩ := key k o2 hk
    exact h.inj j k p1 p2 b1 C1 e1 C2 e2 hp1 hp2 bj bk
  · intro j hj
    by_cases ej : j = i
    · subst ej; rw [upd_self] at hj; cases hj
    · rw [upd_other (by simpa using ej)] at hj
      exact h.free j hj
  · intro t v ht
    rwa [upd_other (by simp)] at ht

/-- An object goes on under a new name, in the block that it has (written or not). -/
theorem RelC.rename (h : RelC c φ m f a W) {i j : Nat} {o : AObj} (hi : f (.h i) = .o o) (hj : f (.h j) = .free) {b C e : Nat} (hb : φ i = some (.blk b C e)) {W' : World} {o' : AObj}
    (hos : W'.os = W.os) (hout : W'.output = W.output) (htape : W'.tape = W.tape) (hsz : W'.heap.size = W.heap.size) (hsame : ∀ k, k ≠ b → W'.heap[k]? = W.heap[k]?)
    (ho : o'.rel (updN φ j (.blk b C e)) m W' j) : RelC c (updN φ j (.blk b C e)) m (upd (upd f (.h i) .none) (.h j) (.o o')) a W' := by
  have hn := h.free j hj
  have hp : NamesLe φ (updN φ j (.blk b C e)) := updN_le _ hn
  have hij : i ≠ j := by rintro rfl; rw [hi] at hj; cases hj
  have key : ∀ k o1, k ≠ j → upd (upd f (.h i) .none) (.h j) (.o o') (.h k) = .o o1 → k ≠ i ∧ f (.h k) = .o o1 := by
    intro k o1 ek hk
    rw [upd_other (by simpa using ek)] at hk
    by_cases ei : k = i
    · subst ei; rw [upd_self] at hk; cases hk
    · rw [upd_other (by simpa using ei)] at hk; exact ⟨ei, hk⟩
  refine h.step (fun k => k = b) hos hout htape (by omega) hp (MemLe.refl m) (fun k _ hk => hsame k hk) ?_ (fun _ _ hb => .inl hb) ?_ ?_ ?_ ?_
  · rintro k hk rfl
    have := h.own i o k C e hi hb
    exact ⟨this.1, this.2.1⟩
  · intro k o1 hk
    by_cases ek : k = j
    · subst ek
      rw [upd_self] at hk
      injection hk with hk
      subst hk
      refine .inr ⟨ho, fun b1 C1 e1 h1 => ?_⟩
      rw [updN_self] at h1
      injection h1 with h1
      injection h1 with h1 _ _
      subst h1
      have := h.own i o b C e hi hb
      exact ⟨this.1, this.2.1, by omega⟩
    · obtain ⟨ei, hk⟩ := key k o1 ek hk
      refine .inl ⟨hk, fun b1 C1 e1 h1 => ⟨?_, (h.own k o1 b1 C1 e1 hk h1).2.1⟩⟩
      rintro rfl
      exact ei (h.inj k i o1 o b1 C1 e1 C e hk hi h1 hb)
  · intro x y o1 o2 b1 C1 e1 C2 e2 hx hy bx by_
    by_cases ex : x = j
    · by_cases ey : y = j
      · rw [ex, ey]
      · exfalso
        obtain ⟨ei, hy2⟩ := key y o2 ey hy
        subst ex
        rw [updN_self] at bx
        injection bx with bx
        injection bx with bx _ _
        subst bx
        rw [updN_other ey] at by_
        exact ei (h.inj y i o2 o b C2 e2 C e hy2 hi by_ hb)
    · obtain ⟨ei, hx2⟩ := key x o1 ex hx
      rw [updN_other ex] at bx
      by_cases ey : y = j
      · exfalso
        subst ey
        rw [updN_self] at by_
        injection by_ with by_
        injection by_ with by_ _ _
        subst by_
        exact ei (h.inj x i o1 o b C1 e1 C e hx2 hi bx hb)
      · obtain ⟨_, hy2⟩ := key y o2 ey hy
        rw [updN_other ey] at by_
        exact h.inj x y o1 o2 b1 C1 e1 C2 e2 hx2 hy2 bx by_
  · intro k hk
    by_cases ek : k = j
    · subst ek; rw [upd_self] at hk; cases hk
    · rw [upd_other (by simpa using ek)] at hk
      by_cases ei : k = i
      · subst ei; rw [upd_self] at hk; cases hk
      · rw [upd_other (by simpa using ei)] at hk
        rw [updN_other ek]
        exact h.free k hk
  · intro t v ht
    rwa [upd_other (by simp), upd_other (by simp)] at ht

theorem StLe.kill (f : StF) (k : Key) : StLe (upd f k .none) f := by
  intro k'
  by_cases e : k' = k
  · subst e; exact .inl (upd_self _ _ _)
  · exact .inr (upd_other e)

/-- A nil row under a new name. -/
theorem RelC.kill (h : RelC c φ m f a W) (k : Key) : RelC c φ m (upd f k .none) a W := h.weaken (StLe.kill f k)

/-- A row that nobody will write any more: it becomes a value. -/
theorem RelC.freeze (h : RelC c φ m f a W) {i : Nat} {o : AObj} (hi : f (.h i) = .o o) {b C e : Nat} (hb : φ i = some (.blk b C e)) {O : Obj} (hO : W.heap[b]? = some O) :
    RelC c φ (fun k => if k = b then some O else m k) (upd f (.h i) .none) a W := by
  have hown := h.own i o b C e hi hb
  have hm : MemLe m (fun k => if k = b then some O else m k) := by
    intro k o1 hk
    by_cases ek : k = b
    · subst ek; rw [hown.2.1] at hk; cases hk
    · simp only [if_neg ek]; exact hk
  refine h.step (fun _ => False) rfl rfl rfl (Nat.le_refl _) (NamesLe.refl φ) hm (fun _ _ _ => rfl) (fun _ _ x => x.elim) ?_ ?_ ?_ ?_ ?_
  · intro k o1 hk
    by_cases ek : k = b
    · subst ek
      simp only [if_true] at hk
      injection hk with hk
      subst hk
      exact .inr ⟨hO, hown.1⟩
    · simp only [if_neg ek] at hk; exact .inl hk
  · intro j o1 hj
    by_cases ej : j = i
    · subst ej; rw [upd_self] at hj; cases hj
    · rw [upd_other (by simpa using ej)] at hj
      refine .inl ⟨hj, fun b1 C1 e1 h1 => ⟨id, ?_⟩⟩
      have hne : b1 ≠ b := by rintro rfl; exact ej (h.inj j i o1 o b1 C1 e1 C e hj hi h1 hb)
      simp only [if_neg hne]
      exact (h.own j o1 b1 C1 e1 hj h1).2.1
  · intro x y o1 o2 b1 C1 e1 C2 e2 hx hy bx by_
    by_cases ex : x = i
    · subst ex; rw [upd_self] at hx; cases hx
    · by_cases ey : y = i
      · subst ey; rw [upd_self] at hy; cases hy
      · rw [upd_other (by simpa using ex)] at hx
        rw [upd_other (by simpa using ey)] at hy
        exact h.inj x y o1 o2 b1 C1 e1 C2 e2 hx hy bx by_
  · intro k hk
    by_cases ei : k = i
    · subst ei; rw [upd_self] at hk; cases hk
    · rw [upd_other (by simpa using ei)] at hk; exact h.free k hk
  · intro t v ht
    rwa [upd_other (by simp)] at ht

end
end Go.Proofs.Hg

/- Types as the abstract machine sees them, and operations on plain values. -/
set_option linter.unusedVariables false
set_option linter.unusedSimpArgs false
namespace Go.Proofs.Hg
open Go.RowKit

inductive TK where
  | bool | int (k : IntKind) | float (k : FloatKind) | complex (k : FloatKind) | str
  | ptr (e : TypeId) | slice (e : TypeId) | array (n : Nat) (e : TypeId) | struct (fs : List (Nat × TypeId)) | map (k e : TypeId) | func | uptr | other

def kindOf : TypeDesc → TK
  | .bool => .bool
  | .int k => .int k
  | .float k => .float k
  | .complex k => .complex k
  | .string => .str
  | .pointer e => .ptr e
  | .slice e => .slice e
  | .array n e => .array n e
  | .struct fs => .struct (fs.toList.map fun f => (f.offset, f.type))
  | .map k e => .map k e
  | .func _ _ _ => .func
  | .unsafePointer => .uptr
  | _ => .other

def TK.agg : TK → Bool
  | .struct _ => true
  | .array _ _ => true
  | _ => false

structure TI where
  kind : TK
  size : Nat
  bytes : Nat
  zero : List D

def D.val : D → Value
  | .bool b => .bool b
  | .int k n => .int k n
  | .float k x => .float k x
  | .complex k x y => .complex k x y
  | .str s => .string ⟨s.toArray⟩
  | .nilp => .pointer none
  | .ptr _ => .pointer none
  | .slice _ _ _ => .slice none 0 0
  | .nilf => .nilFunc
  | .nilm => .map none
  | .nili => .nilIface
  | .func _ _ => .nilFunc

def D.zeroish : D → Bool
  | .ptr _ => false
  | .func _ _ => false
  | .slice z _ es => z != some false && es.isEmpty
  | _ => true

theorem D.rel_val {m : Mem} {d : D} (h : d.zeroish = true) : d.rel m d.val := by
  cases d <;> simp_all [D.zeroish, D.rel, D.val]

def TI.zeroVal (i : TI) : Value := if i.kind.agg then .agg (i.zero.map D.val).toArray else (i.zero.map D.val).headD (.pointer none)

/-- More of a type: no stand-in's; of a struct: its fields have names, its parts compare without harm, one of it lies where one lies. -/
def extraOk (P : Program) (t : TypeId) (i : TI) : Bool := !(P.stoodInHeld t) && (match i.kind with
  | .struct _ => (P.fieldsOf t).toList.all (fun f => f.name != "_") && !(P.eqGuardType P.depth t) && liesAt P P.depth t (i.size / P.cellsOf t) 0 t 1
  | _ => true)

structure TIOk (P : Program) (t : TypeId) (i : TI) : Prop where
  und : (P.underlying t).map kindOf = some i.kind
  info : (P.info? t).map (fun x => (x.size, x.bytes, x.zero)) = some (i.size, i.bytes, some i.zeroVal)
  zs : (i.zero.all D.zeroish && (i.zero.length == i.size) && (i.kind.agg || i.size == 1)) = true
  ext : extraOk P t i = true

def lookN {α : Type} (k : Nat) : List (Nat × α) → Option α
  | [] => none
  | (a, b) :: r => if a = k then some b else lookN k r

theorem lookN_mem {α : Type} {k : Nat} {l : List (Nat × α)} {v : α} (h : lookN k l = some v) : (k, v) ∈ l := by
  induction l with
  | nil => simp [lookN] at h
  | cons p r ih =>
    obtain ⟨a, b⟩ := p
    simp only [lookN] at h
    split at h
    · rename_i e; subst e; injection h with h; subst h; exact List.mem_cons_self ..
    · exact List.mem_cons_of_mem _ (ih h)

abbrev Tab := List (Nat × TI)
def TabOk (P : Program) (T : Tab) : Prop := ∀ p ∈ T, TIOk P p.1 p.2
theorem TabOk.at {P : Program} {T : Tab} (h : TabOk P T) {t : TypeId} {i : TI} (ht : lookN t T = some i) : TIOk P t i := h _ (lookN_mem ht)

section
variable {P : Program} {t : TypeId} {i : TI}

theorem TIOk.und' (h : TIOk P t i) : ∃ d, P.underlying t = some d ∧ kindOf d = i.kind := by
  have := h.und
  cases hd : P.underlying t with
  | none => simp [hd] at this
  | some d => exact ⟨d, rfl, by simpa [hd] using this⟩

theorem TIOk.info' (h : TIOk P t i) : ∃ x, P.info? t = some x ∧ x.size = i.size ∧ x.bytes = i.bytes ∧ x.zero = some i.zeroVal := by
  have := h.info
  cases hd : P.info? t with
  | none => simp [hd] at this
  | some d => simp [hd] at this; exact ⟨d, rfl, this.1, this.2.1, this.2.2⟩

theorem TIOk.len (h : TIOk P t i) : i.zero.length = i.size := by
  have := h.zs
  simp only [Bool.and_eq_true, beq_iff_eq] at this
  exact this.1.2

theorem run_sizeOf' (h : TIOk P t i) (w : World) : (sizeOf t).run P w = .ok i.size w := by
  obtain ⟨x, h1, h2, _⟩ := h.info'
  simp [sizeOf, typeInfo, h1, h2]

theorem run_bytes' (h : TIOk P t i) (w : World) : ∃ x, (typeInfo t).run P w = .ok x w ∧ x.bytes = i.bytes ∧ x.size = i.size := by
  obtain ⟨x, h1, h2, h3, _⟩ := h.info'
  exact ⟨x, by simp [typeInfo, h1], h3, h2⟩

theorem run_zero' (h : TIOk P t i) (w : World) : (zeroValue t).run P w = .ok i.zeroVal w := by
  obtain ⟨x, h1, h2, _, h3⟩ := h.info'
  simp [zeroValue, typeInfo, h1, h3]

theorem run_isAgg' (h : TIOk P t i) (w : World) : (isAgg t).run P w = .ok i.kind.agg w := by
  obtain ⟨d, h1, h2⟩ := h.und'
  unfold isAgg
  simp only [Sem.run_bind, run_underlying h1, Result.andThen]
  cases d <;> simp_all [kindOf] <;> rw [← h2] <;> rfl

theorem zeroVal_cells (h : TIOk P t i) : i.zeroVal.cells = (i.zero.map D.val).toArray := by
  have hz := h.zs
  simp only [Bool.and_eq_true, Bool.or_eq_true, beq_iff_eq] at hz
  unfold TI.zeroVal
  split
  · rfl
  · rename_i hk
    have h1 : i.size = 1 := by rcases hz.2 with h2 | h2; exact absurd h2 hk; exact h2
    match hzz : i.zero, hz.1.2 with
    | [x], _ => simp; cases x <;> rfl
    | [], hl => simp at hl; omega
    | _ :: _ :: _, hl => simp at hl; omega

theorem zero_rel (h : TIOk P t i) (φ : Names) (m : Mem) : relAll φ m (i.zero.map Sc.d) (i.zero.map D.val) := by
  have hz := h.zs
  simp only [Bool.and_eq_true, List.all_eq_true] at hz
  refine ⟨by simp, fun j x hx => ?_⟩
  rw [List.getElem?_map] at hx
  cases hj : i.zero[j]? with
  | none => simp [hj] at hx
  | some y =>
    simp [hj] at hx
    subst hx
    exact ⟨y.val, by simp [hj], D.rel_val (hz.1.1 y (List.mem_of_getElem? hj))⟩
end

/-! ### Operators on plain values -/
def inI64 (n : Int) : Prop := -9223372036854775808 ≤ n ∧ n ≤ 9223372036854775807

def wrapK : IntKind → Int → Int
  | .i64, n => n
  | k, n => k.wrap n
def wrapOb : IntKind → Int → Prop
  | .i64, n => inI64 n
  | _, _ => True
theorem wrapK_ok {k : IntKind} {n : Int} (h : wrapOb k n) : k.wrap n = wrapK k n := by
  cases k <;> simp only [wrapK]
  exact IntWalk.i64_in n h

def bitsV (op : BinOp) (k : IntKind) (x y : Int) : Int :=
  let a := BitVec.ofInt k.bits x
  let b := BitVec.ofInt k.bits y
  k.wrap (match op with | .and => a &&& b | .or => a ||| b | .xor => a ^^^ b | _ => a &&& ~~~b).toNat

def evInt (op : BinOp) (k : IntKind) (a b : Int) : Option (D × Prop) :=
  match op with
  | .add => some (.int k (wrapK k (a + b)), wrapOb k (a + b))
  | .sub => some (.int k (wrapK k (a - b)), wrapOb k (a - b))
  | .mul => some (.int k (wrapK k (a * b)), wrapOb k (a * b))
  | .quo => some (.int k (a / b), 0 ≤ a ∧ 0 < b ∧ k.wrap (a / b) = a / b)
  | .rem => some (.int k (a % b), 0 ≤ a ∧ 0 < b)
  | .and | .or | .xor | .andNot => some (.int k (bitsV op k a b), True)
  | .eql => some (.bool (decide (a = b)), True)
  | .neq => some (.bool (!decide (a = b)), True)
  | .lss => some (.bool (decide (a < b)), True)
  | .leq => some (.bool (decide (a ≤ b)), True)
  | .gtr => some (.bool (decide (b < a)), True)
  | .geq => some (.bool (decide (b ≤ a)), True)
  | _ => none

def evShift (op : BinOp) (k : IntKind) (a b : Int) : Option (D × Prop) :=
  match op with
  | .shl => some (.int k (wrapK k (a * 2 ^ min b.toNat k.bits)), 0 ≤ b ∧ wrapOb k (a * 2 ^ min b.toNat k.bits))
  | .shr => some (.int k (a / 2 ^ min b.toNat k.bits), 0 ≤ b)
  | _ => none

def ltS (a b : List UInt8) : Bool := Op.bytesLess a b

def evStr (op : BinOp) (a b : List UInt8) : Option (D × Prop) :=
  match op with
  | .add => some (.str (a ++ b), (a.length + b.length : Nat) ≤ 9223372036854775807)
  | .eql => some (.bool (decide (a = b)), True)
  | .neq => some (.bool (!decide (a = b)), True)
  | .lss => some (.bool (ltS a b), True)
  | .leq => some (.bool (ltS a b || decide (a = b)), True)
  | .gtr => some (.bool (!(ltS a b || decide (a = b))), True)
  | .geq => some (.bool (!ltS a b), True)
  | _ => none

def fcmp (op : BinOp) (k : FloatKind) (x y : Nat) : Option Bool :=
  let c := k.format.order x y
  match op with
  | .eql => some (c == some .eq)
  | .neq => some (c != some .eq)
  | .lss => some (c == some .lt)
  | .leq => some (c == some .lt || c == some .eq)
  | .gtr => some (c == some .gt)
  | .geq => some (c == some .gt || c == some .eq)
  | _ => none

def evBin (op : BinOp) (x y : D) : Option (D × Prop) :=
  match x, y with
  | .int k a, .int k' b =>
    match op with
    | .shl | .shr => evShift op k a b
    | _ => if k = k' then evInt op k a b else none
  | .float k a, .float k' b => if k = k' then (fcmp op k a b).map fun r => (.bool r, True) else none
  | .complex k a b, .complex k' c d => if k = k' then (match op with
    | .eql => some (.bool ((k.format.order a c == some .eq) && (k.format.order b d == some .eq)), True)
    | .neq => some (.bool (!((k.format.order a c == some .eq) && (k.format.order b d == some .eq))), True)
    | _ => none) else none
  | .str a, .str b => evStr op a b
  | _, _ => none

theorem ofList_toList (l : List UInt8) : (ByteArray.mk l.toArray).toList = l := by rw [ByteArray.toList_eq]

theorem beq_decide {α : Type} [BEq α] [LawfulBEq α] [DecidableEq α] (a b : α) : (a == b) = decide (a = b) := by
  by_cases h : a = b
  · simp [h]
  · simp [h]

theorem evInt_ok {P : Program} {op : BinOp} {k : IntKind} {a b : Int} {r : D} {ob : Prop} (h : evInt op k a b = some (r, ob)) (hob : ob) (m : Mem) (t : TypeId) (w : World) :
    ∃ R, (binOp op t (.int k a) (.int k b)).run P w = .ok R w ∧ r.rel m R := by
  cases op <;> simp only [evInt, reduceCtorEq, Option.some.injEq, Prod.mk.injEq] at h <;> obtain ⟨rfl, rfl⟩ := h
  case add => exact ⟨_, by simp [binOp, Op.intArith]; rfl, by rw [wrapK_ok hob]; simp [D.rel]⟩
  case sub => exact ⟨_, by simp [binOp, Op.intArith]; rfl, by rw [wrapK_ok hob]; simp [D.rel]⟩
  case mul => exact ⟨_, by simp [binOp, Op.intArith]; rfl, by rw [wrapK_ok hob]; simp [D.rel]⟩
  case quo =>
    refine ⟨_, by simp [binOp, Op.intDiv, show ¬ b = 0 by omega]; rfl, ?_⟩
    rw [Int.tdiv_eq_ediv_of_nonneg hob.1, hob.2.2]
    simp [D.rel]
  case rem =>
    refine ⟨_, by simp [binOp, Op.intDiv, show ¬ b = 0 by omega]; rfl, ?_⟩
    rw [Int.tmod_eq_emod_of_nonneg hob.1]
    simp [D.rel]
  case and => exact ⟨_, by simp [binOp, Op.intBits]; rfl, by simp [D.rel, bitsV]⟩
  case or => exact ⟨_, by simp [binOp, Op.intBits]; rfl, by simp [D.rel, bitsV]⟩
  case xor => exact ⟨_, by simp [binOp, Op.intBits]; rfl, by simp [D.rel, bitsV]⟩
  case andNot => exact ⟨_, by simp [binOp, Op.intBits]; rfl, by simp [D.rel, bitsV]⟩
  case eql => exact ⟨_, by simp [binOp, Op.intCmp]; rfl, by simp [D.rel, beq_decide]⟩
  case neq => exact ⟨_, by simp [binOp, Op.intCmp]; rfl, by simp [D.rel, bne, beq_decide]⟩
  case lss => exact ⟨_, by simp [binOp, Op.intCmp]; rfl, by simp [D.rel]⟩
  case leq => exact ⟨_, by simp [binOp, Op.intCmp]; rfl, by simp [D.rel]⟩
  case gtr => exact ⟨_, by simp [binOp, Op.intCmp]; rfl, by simp [D.rel]⟩
  case geq => exact ⟨_, by simp [binOp, Op.intCmp]; rfl, by simp [D.rel]⟩

theorem evShift_ok {P : Program} {op : BinOp} {k k' : IntKind} {a b : Int} {r : D} {ob : Prop} (h : evShift op k a b = some (r, ob)) (hob : ob) (m : Mem) (t : TypeId) (w : World) :
    ∃ R, (binOp op t (.int k a) (.int k' b)).run P w = .ok R w ∧ r.rel m R := by
  cases op <;> simp only [evShift, reduceCtorEq, Option.some.injEq, Prod.mk.injEq] at h <;> obtain ⟨rfl, rfl⟩ := h
  case shl =>
    refine ⟨_, by simp [binOp, Op.shift, show ¬ b < 0 by omega]; rfl, ?_⟩
    rw [wrapK_ok hob.2]; simp [D.rel]
  case shr =>
    refine ⟨_, by simp [binOp, Op.shift, show ¬ b < 0 by omega]; rfl, ?_⟩
    rw [Int.fdiv_eq_ediv_of_nonneg _ (Int.le_of_lt (Int.pow_pos (by omega)))]
    simp [D.rel]

theorem evStr_ok {P : Program} {op : BinOp} {a b : List UInt8} {r : D} {ob : Prop} (h : evStr op a b = some (r, ob)) (hob : ob) (m : Mem) (t : TypeId) (w : World) :
    ∃ R, (binOp op t (.string ⟨a.toArray⟩) (.string ⟨b.toArray⟩)).run P w = .ok R w ∧ r.rel m R := by
  cases op <;> simp only [evStr, reduceCtorEq, Option.some.injEq, Prod.mk.injEq] at h <;> obtain ⟨rfl, rfl⟩ := h
  case add =>
    refine ⟨.string (⟨a.toArray⟩ ++ ⟨b.toArray⟩), run_string_add_sum w _ _ (by simpa [ByteArray.size] using hob), ?_⟩
    simp only [D.rel]
    congr 1
  all_goals exact ⟨_, by simp [binOp, Op.stringOp]; rfl, by simp [D.rel, ofList_toList, ltS, beq_decide]⟩

theorem evBin_ok {P : Program} {op : BinOp} {x y r : D} {ob : Prop} (h : evBin op x y = some (r, ob)) (hob : ob) (m : Mem) {X Y : Value} (hx : x.rel m X) (hy : y.rel m Y) (t : TypeId) (w : World) :
    ∃ R, (binOp op t X Y).run P w = .ok R w ∧ r.rel m R := by
  unfold evBin at h
  split at h
  · rename_i k a k' b
    simp only [D.rel] at hx hy
    subst hx; subst hy
    split at h
    · exact evShift_ok h hob m t w
    · exact evShift_ok h hob m t w
    · split at h
      · rename_i e; subst e; exact evInt_ok h hob m t w
      · cases h
  · rename_i k a k' b
    simp only [D.rel] at hx hy
    subst hx; subst hy
    split at h
    · rename_i e
      subst e
      cases op <;> simp [fcmp] at h <;> obtain ⟨rfl, _⟩ := h <;> exact ⟨_, by simp [binOp, Op.floatCmp]; rfl, by simp [D.rel]⟩
    · cases h
  · rename_i k a b k' c d
    simp only [D.rel] at hx hy
    subst hx; subst hy
    split at h
    · rename_i e
      subst e
      cases op <;> simp at h <;> obtain ⟨rfl, _⟩ := h
      · exact ⟨_, run_eql_complex w t k a b c d, by simp [D.rel]⟩
      · exact ⟨_, run_neq_complex w t k a b c d, by simp [D.rel]⟩
    · cases h
  · rename_i a b
    simp only [D.rel] at hx hy
    subst hx; subst hy
    exact evStr_ok h hob m t w
  · cases h

end Go.Proofs.Hg

/- The operations, one by one: what the abstract machine makes of them, and that the model does so. -/
set_option linter.unusedVariables false
set_option linter.unusedSimpArgs false
namespace Go.Proofs.Hg
open Go.RowKit

structure Res where
  val : AVal
  rd : List (Nat × AObj)
  fr : Bool
  wr : List (Nat × Ent)
  ob : Prop

abbrev Heap := Nat → Option AObj

def wrPost (l : List (Nat × Ent)) : List (Key × Ent) := l.map fun p => (Key.h p.1, p.2)
def wrApp (l : List (Nat × Ent)) (f : StF) : StF := LT.app ⟨[], wrPost l⟩ f
theorem wrApp_nil (f : StF) : wrApp [] f = f := rfl
theorem wrApp_cons (i : Nat) (e : Ent) (l : List (Nat × Ent)) (f : StF) : wrApp ((i, e) :: l) f = upd (wrApp l f) (.h i) e := app_cons _ _ _ _ _

/-- What a step says of the heap is there. -/
def Res.Reads (r : Res) (fr : Nat) (f : StF) : Prop := (∀ p ∈ r.rd, f (.h p.1) = .o p.2) ∧ (r.fr = true → f (.h fr) = .free)

/-- An instruction that gives a value. -/
def Gives (P : Program) (s : Sem Value) (c : Ctx) (φ : Names) (m : Mem) (f : StF) (a : Act) (W : World) (r : Res) : Prop :=
  ∃ φ' m' W' V, RelC c φ' m' (wrApp r.wr f) a W' ∧ NamesLe φ φ' ∧ MemLe m m' ∧ s.run P W = .ok V W' ∧ r.val.rel φ' m' V

section
variable {P : Program} {c : Ctx} {φ : Names} {m : Mem} {f : StF} {a : Act} {W : World}

theorem gives_pure (h : RelC c φ m f a W) {s : Sem Value} {V : Value} (hs : s.run P W = .ok V W) {val : AVal} (hv : val.rel φ m V) {rd : List (Nat × AObj)} {b : Bool} {ob : Prop} :
    Gives P s c φ m f a W ⟨val, rd, b, [], ob⟩ := ⟨φ, m, W, V, h, NamesLe.refl φ, MemLe.refl m, hs, hv⟩

def pureRes (v : AV) (ob : Prop) : Res := ⟨.one v, [], false, [], ob⟩
abbrev dv (d : D) : AV := .s (.d d)

/-! ### binary and unary operators -/
def evNil : BinOp → Bool → Option D
  | .eql, b => some (.bool b)
  | .neq, b => some (.bool (!b))
  | _, _ => none

/-- Is a pointer nil? -/
def nilP : Sc → Option Bool
  | .d .nilp => some true
  | .d (.ptr _) => some false
  | .ptr _ _ => some false
  | .eptr _ _ _ => some false
  | _ => none

/-- Is a slice nil? -/
def nilS : Sc → Option (Bool × Prop)
  | .d (.slice (some z) _ es) => some (z, True)
  | .d (.slice none _ es) => some (false, es ≠ [])
  | .row _ _ _ len _ => some (false, 0 < len)
  | _ => none

def litP : D → Bool
  | .nilp => true
  | _ => false
def litS : D → Bool
  | .slice (some true) _ _ => true
  | _ => false

def eqD : D → D → Option Bool
  | .bool a, .bool b => some (decide (a = b))
  | .int k a, .int k' b => if k = k' then some (decide (a = b)) else none
  | .str a, .str b => some (decide (a = b))
  | .complex k a b, .complex k' c d => if k = k' then some ((k.format.order a c == some .eq) && (k.format.order b d == some .eq)) else none
  | .float k a, .float k' b => if k = k' then some (k.format.order a b == some .eq) else none
  | _, _ => none

def evBinD (op : BinOp) (x : Sc) (y : D) : Option Res :=
  match x with
  | .d x => (evBin op x y).map fun p => pureRes (dv p.1) p.2
  | _ => none

/-- Plain values of a kind, compared. -/
def eqK : TK → D → D → Option Bool
  | .bool, .bool a, .bool b => some (decide (a = b))
  | .int _, .int k a, .int k' b => if k = k' then some (decide (a = b)) else none
  | .str, .str a, .str b => some (decide (a = b))
  | .float _, .float k a, .float k' b => if k = k' then some (k.format.order a b == some .eq) else none
  | .complex _, .complex k a b, .complex k' c d => if k = k' then some ((k.format.order a c == some .eq) && (k.format.order b d == some .eq)) else none
  | _, _, _ => none

def scD : Option Sc → Option D
  | some (.d x) => some x
  | _ => none

def eqFs (T : Tab) (xs ys : List Sc) : List (Nat × TypeId) → Option Bool
  | [] => some true
  | (o, e) :: r => match lookN e T, scD xs[o]?, scD ys[o]? with
    | some ti, some x, some y => (eqK ti.kind x y).bind fun b => (eqFs T xs ys r).map fun c => b && c
    | _, _, _ => none

def evBinOp (T : Tab) (op : BinOp) (t : TypeId) (x y : AV) : Option Res :=
  match x, y with
  | .s (.ptr i o), .s (.ptr j o') => match lookN t T with
    | some ⟨.ptr e, _, _, _⟩ => if (lookN e T).any (fun te => te.size != 0) && i == j && o == o' then (evNil op true).map fun d => pureRes (dv d) True else none
    | _ => none
  | .agg xs, .agg ys => match lookN t T with
    | some ⟨.struct fs, _, _, _⟩ => (eqFs T xs ys fs).bind fun b => (evNil op b).map fun d => pureRes (dv d) True
    | _ => none
  | .s x, .s (.d y) => match lookN t T with
    | some ⟨.bool, _, _, _⟩ => (match x, y with
      | .d (.bool a), .bool b => (match op with
        | .eql => some (pureRes (dv (.bool (decide (a = b)))) True)
        | .neq => some (pureRes (dv (.bool (!decide (a = b)))) True)
        | _ => none)
      | _, _ => none)
    | some ⟨.ptr _, _, _, _⟩ => if litP y then (nilP x).bind fun b => (evNil op b).map fun d => pureRes (dv d) True else none
    | some ⟨.slice _, _, _, _⟩ => if litS y then (nilS x).bind fun b => (evNil op b.1).map fun d => pureRes (dv d) b.2 else none
    | _ => evBinD op x y
  | _, _ => none

theorem kindOf_bool {d : TypeDesc} (h : kindOf d = .bool) : d = .bool := by cases d <;> simp_all [kindOf]
theorem kindOf_ptr {d : TypeDesc} {e : TypeId} (h : kindOf d = .ptr e) : d = .pointer e := by cases d <;> simp_all [kindOf]
theorem kindOf_slice {d : TypeDesc} {e : TypeId} (h : kindOf d = .slice e) : d = .slice e := by cases d <;> simp_all [kindOf]
theorem kindOf_str {d : TypeDesc} (h : kindOf d = .str) : d = .string := by cases d <;> simp_all [kindOf]
theorem kindOf_int {d : TypeDesc} {k : IntKind} (h : kindOf d = .int k) : d = .int k := by cases d <;> simp_all [kindOf]
theorem kindOf_float {d : TypeDesc} {k : FloatKind} (h : kindOf d = .float k) : d = .float k := by cases d <;> simp_all [kindOf]
theorem kindOf_array {d : TypeDesc} {n : Nat} {e : TypeId} (h : kindOf d = .array n e) : d = .array n e := by cases d <;> simp_all [kindOf]
theorem kindOf_struct {d : TypeDesc} {fs : List (Nat × TypeId)} (h : kindOf d = .struct fs) : ∃ gs, d = .struct gs ∧ fs = gs.toList.map fun f => (f.offset, f.type) := by
  cases d <;> simp_all [kindOf]

theorem TIOk.desc {t : TypeId} {i : TI} (h : TIOk P t i) {d : TypeDesc} (hk : ∀ d', kindOf d' = i.kind → d' = d) : P.underlying t = some d := by
  obtain ⟨d', h1, h2⟩ := h.und'
  rw [h1, hk d' h2]

theorem nilP_ok {x : Sc} {b : Bool} (h : nilP x = some b) {V : Value} (hv : x.rel φ m V) : ∃ p, V = .pointer p ∧ p.isNone = b := by
  unfold nilP at h
  split at h <;> simp only [Option.some.injEq, reduceCtorEq] at h <;> subst h
  · simp only [Sc.rel, D.rel] at hv; exact ⟨none, hv, rfl⟩
  · simp only [Sc.rel, D.rel] at hv; obtain ⟨b, o, rfl, _⟩ := hv; exact ⟨_, rfl, rfl⟩
  · obtain ⟨b, C, e, _, rfl⟩ := hv; exact ⟨_, rfl, rfl⟩
  · obtain ⟨b, C, e, _, rfl⟩ := hv; exact ⟨_, rfl, rfl⟩

theorem nilS_ok {x : Sc} {b : Bool × Prop} (h : nilS x = some b) (hob : b.2) {V : Value} (hv : x.rel φ m V) : ∃ p n k, V = .slice p n k ∧ p.isNone = b.1 := by
  unfold nilS at h
  split at h <;> simp only [Option.some.injEq, reduceCtorEq] at h <;> subst h
  · simp only [Sc.rel, D.rel] at hv
    rename_i z _ _
    rcases hv with ⟨_, h1, rfl⟩ | ⟨h1, ad, k, rfl, _⟩
    · refine ⟨_, _, _, rfl, ?_⟩
      cases z <;> simp_all
    · refine ⟨_, _, _, rfl, ?_⟩
      cases z <;> simp_all
  · simp only [Sc.rel, D.rel] at hv
    rcases hv with ⟨h0, h1, rfl⟩ | ⟨h1, ad, k, rfl, _⟩
    · exact absurd h0 hob
    · exact ⟨_, _, _, rfl, rfl⟩
  · rcases hv with ⟨_, _, h0, _⟩ | ⟨b, C, ad, k, _, rfl, _⟩
    · simp at hob; omega
    · exact ⟨_, _, _, rfl, rfl⟩

theorem litP_ok {d : D} (h : litP d = true) {V : Value} (hv : d.rel m V) : V = .pointer none := by
  cases d <;> simp_all [litP, D.rel]

theorem litS_ok {d : D} (h : litS d = true) {V : Value} (hv : d.rel m V) : V = .slice none 0 0 := by
  unfold litS at h
  split at h
  · simp only [D.rel] at hv
    rcases hv with ⟨_, _, rfl⟩ | ⟨h1, _⟩
    · rfl
    · exact absurd rfl h1
  · cases h

theorem run_equal_bool {t : TypeId} (hu : P.underlying t = some .bool) (a b : Bool) (w : World) : (Op.equal t (.bool a) (.bool b)).run P w = .ok (a == b) w := by
  show (Op.equalIn (9999 + 1) t _ _).run P w = _
  rw [Op.equalIn]
  simp [run_underlying hu]
theorem run_equal_ptr {t e : TypeId} (hu : P.underlying t = some (.pointer e)) (p : Option Addr) (w : World) : (Op.equal t (.pointer p) (.pointer none)).run P w = .ok p.isNone w := by
  show (Op.equalIn (9999 + 1) t _ _).run P w = _
  rw [Op.equalIn]
  cases p <;> simp [run_underlying hu]
theorem binOp_eql_other {t : TypeId} {x y : Value} (h : (match x, y with | .bool _, .bool _ => True | .pointer _, .pointer none => True | .slice _ _ _, .slice none 0 0 => True | _, _ => False)) : binOp .eql t x y = (do pure (.bool (← Op.equal t x y))) := by
  cases x <;> cases y <;> first | rfl | exact h.elim
theorem binOp_neq_other {t : TypeId} {x y : Value} (h : (match x, y with | .bool _, .bool _ => True | .pointer _, .pointer none => True | .slice _ _ _, .slice none 0 0 => True | _, _ => False)) : binOp .neq t x y = (do pure (.bool (!(← Op.equal t x y)))) := by
  cases x <;> cases y <;> first | rfl | exact h.elim

theorem evBinD_ok {op : BinOp} {x : Sc} {y : D} {r : Res} (h : evBinD op x y = some r) (hob : r.ob) (hc : RelC c φ m f a W) {X Y : Value} (hx : x.rel φ m X) (hy : y.rel m Y) (t : TypeId) :
    Gives P (binOp op t X Y) c φ m f a W r := by
  unfold evBinD at h
  split at h
  · rename_i x
    cases he : evBin op x y with
    | none => simp [he] at h
    | some p =>
      simp [he] at h
      subst h
      obtain ⟨R, h1, h2⟩ := evBin_ok (P := P) (r := p.1) (ob := p.2) he hob m hx hy t W
      exact gives_pure hc h1 (val := .one (dv p.1)) h2
  · cases h

theorem evNil_bool {op : BinOp} {b : Bool} {d : D} (h : evNil op b = some d) : (op = .eql ∧ d = .bool b) ∨ (op = .neq ∧ d = .bool (!b)) := by
  cases op <;> simp [evNil] at h
  · exact .inl ⟨rfl, h.symm⟩
  · exact .inr ⟨rfl, h.symm⟩

theorem part_one {e : TypeId} {i : TI} (hT : TIOk P e i) (hag : i.kind.agg = false) {xs : Array Value} {o : Nat} {v : Value} (h : xs[o]? = some v) (W : World) : (part e xs o).run P W = .ok v W := by
  simp only [part, Sem.run_bind, run_isAgg' hT, Result.andThen, hag]
  simp [h]

theorem eqK_agg {k : TK} {x y : D} {b : Bool} (h : eqK k x y = some b) : k.agg = false := by
  unfold eqK at h
  split at h <;> first | rfl | cases h

theorem eqK_ok {e : TypeId} {i : TI} (hT : TIOk P e i) {x y : D} {b : Bool} (h : eqK i.kind x y = some b) {X Y : Value} (hx : x.rel m X) (hy : y.rel m Y) (d : Nat) (W : World) : (Op.equalIn (d + 1) e X Y).run P W = .ok b W := by
  unfold eqK at h
  split at h
  · rename_i a c hk
    have hu := hT.desc (d := .bool) (fun d' hd => kindOf_bool (hd.trans hk))
    simp only [D.rel] at hx hy
    subst hx; subst hy
    injection h with h; subst h
    rw [Op.equalIn]; simp [run_underlying hu, beq_decide]
  · rename_i k0 k a k' c hk
    split at h
    · rename_i e; subst e
      have hu := hT.desc (d := .int k0) (fun d' hd => kindOf_int (hd.trans hk))
      simp only [D.rel] at hx hy
      subst hx; subst hy
      injection h with h; subst h
      rw [Op.equalIn]; simp [run_underlying hu, beq_decide]
    · cases h
  · rename_i a c hk
    have hu := hT.desc (d := .string) (fun d' hd => kindOf_str (hd.trans hk))
    simp only [D.rel] at hx hy
    subst hx; subst hy
    injection h with h; subst h
    rw [run_equalIn_string _ _ _ _ _ hu, ofList_toList, ofList_toList, beq_decide]
  · rename_i k0 k a k' c hk
    split at h
    · rename_i e; subst e
      have hu := hT.desc (d := .float k0) (fun d' hd => kindOf_float (hd.trans hk))
      simp only [D.rel] at hx hy
      subst hx; subst hy
      injection h with h; subst h
      rw [Op.equalIn]; simp [run_underlying hu, Op.floatEq]
    · cases h
  · rename_i k0 k a b' k' c d' hk
    split at h
    · rename_i e; subst e
      have hu := hT.desc (d := .complex k0) (fun d' hd => by have := hd.trans hk; cases d' <;> simp_all [kindOf])
      simp only [D.rel] at hx hy
      subst hx; subst hy
      injection h with h; subst h
      rw [Op.equalIn]; simp [run_underlying hu, Op.floatEq]
    · cases h
  · cases h

theorem scD_ok {xs : List Sc} {vs : List Value} (h : relAll φ m xs vs) {o : Nat} {x : D} (hx : scD xs[o]? = some x) : ∃ v, vs[o]? = some v ∧ x.rel m v := by
  unfold scD at hx
  split at hx
  · rename_i z hz
    injection hx with hx
    subst hx
    exact h.2 o _ hz
  · cases hx

theorem eqFs_ok {T : Tab} (hT : TabOk P T) {xs ys : List Sc} {vs us : Array Value} (hx : relAll φ m xs vs.toList) (hy : relAll φ m ys us.toList) (d : Nat) (W : World) : ∀ (fs : List Field) (b : Bool), fs.all (fun f => f.name != "_") = true → eqFs T xs ys (fs.map fun f => (f.offset, f.type)) = some b →
    (Op.eqFields (d + 1) vs us fs).run P W = .ok b W
  | [], b, _, h => by simp only [List.map_nil, eqFs, Option.some.injEq] at h; subst h; rfl
  | g :: gs, b, hn, h => by
    simp only [List.all_cons, Bool.and_eq_true] at hn
    simp only [List.map_cons, eqFs] at h
    split at h
    · rename_i ti x y h1 h2 h3
      simp only [Option.bind_eq_some_iff, Option.map_eq_some_iff] at h
      obtain ⟨b1, hb1, b2, hb2, rfl⟩ := h
      obtain ⟨v, v1, v2⟩ := scD_ok hx h2
      obtain ⟨u, u1, u2⟩ := scD_ok hy h3
      have hag := eqK_agg hb1
      have p1 := part_one (hT.at h1) hag (xs := vs) (o := g.offset) (by simpa using v1) W
      have p2 := part_one (hT.at h1) hag (xs := us) (o := g.offset) (by simpa using u1) W
      have p3 := eqK_ok (hT.at h1) hb1 v2 u2 d W
      have ih := eqFs_ok hT hx hy d W gs b2 hn.2 hb2
      have hne : g.name ≠ "_" := by simpa using hn.1
      simp only [Op.eqFields]
      rw [if_pos hne]
      simp only [Sem.run_bind, p1, p2, p3, Result.andThen]
      cases b1
      · simp
      · simp only [Bool.not_true, Bool.false_eq_true, if_false, Bool.true_and]
        exact ih
    · cases h

theorem run_ptr_same {t e : TypeId} {te : TI} (hu : P.underlying t = some (.pointer e)) (hte : TIOk P e te) (a : Addr) (w : World) : (Op.equal t (.pointer (some a)) (.pointer (some a))).run P w = .ok true w := by
  obtain ⟨x, h1, _⟩ := hte.info'
  have h : ∀ d : Nat, (Op.equalIn (d + 1) t (.pointer (some a)) (.pointer (some a))).run P w = .ok true w := fun d => by
    simp [Op.equalIn, run_underlying hu, sizeOf, typeInfo, h1, run_sameAddr_same]
  exact h 9999

theorem evBinOp_ok {T : Tab} (hT : TabOk P T) {op : BinOp} {t : TypeId} {x y : AV} {r : Res} (h : evBinOp T op t x y = some r) (hob : r.ob) (hc : RelC c φ m f a W) {X Y : Value}
    (hx : x.rel φ m X) (hy : y.rel φ m Y) : Gives P (binOp op t X Y) c φ m f a W r := by
  unfold evBinOp at h
  split at h
  · rename_i i o j o'
    split at h
    · rename_i e _ _ _ ht
      have hu := (hT.at ht).desc (d := .pointer e) (fun d' hd => kindOf_ptr hd)
      split at h
      · rename_i hc2
        simp only [Bool.and_eq_true, beq_iff_eq] at hc2
        obtain ⟨⟨h1, rfl⟩, rfl⟩ := hc2
        cases hte : lookN e T with
        | none => simp [hte] at h1
        | some te =>
          obtain ⟨b, C, e1, hb, rfl⟩ := hx
          obtain ⟨b', C', e1', hb', rfl⟩ := hy
          rw [hb] at hb'
          injection hb' with hb'
          injection hb' with q _ _
          subst q
          have hru := run_ptr_same hu (hT.at hte) ⟨b, o, none⟩ W
          cases hd : evNil op true with
          | none => simp [hd] at h
          | some d =>
            simp [hd] at h
            subst h
            rcases evNil_bool hd with ⟨rfl, rfl⟩ | ⟨rfl, rfl⟩
            · exact gives_pure hc (V := .bool true) (by simp only [binOp]; simp [hru]) (by simp [AVal.rel, AV.rel, Sc.rel, D.rel])
            · exact gives_pure hc (V := .bool false) (by simp only [binOp]; simp [hru]) (by simp [AVal.rel, AV.rel, Sc.rel, D.rel])
      · cases h
    · cases h
  · rename_i xs ys
    split at h
    · rename_i fs _ _ _ ht
      obtain ⟨vs, rfl, hvs⟩ := hx
      obtain ⟨us, rfl, hus⟩ := hy
      obtain ⟨d0, hu, hk⟩ := (hT.at ht).und'
      obtain ⟨gs, rfl, hgs⟩ := kindOf_struct hk
      simp only [Option.bind_eq_some_iff, Option.map_eq_some_iff] at h
      obtain ⟨b, hb, d, hd, rfl⟩ := h
      have hext := (hT.at ht).ext
      have hfo : P.fieldsOf t = gs := by simp [Program.fieldsOf, hu]
      simp only [extraOk, Bool.and_eq_true, Bool.not_eq_true', hfo] at hext
      have hfs : eqFs T xs ys (gs.toList.map fun f => (f.offset, f.type)) = some b := by rw [← hgs]; exact hb
      have hrun := eqFs_ok (vs := vs.toArray) (us := us.toArray) hT (by simpa using hvs) (by simpa using hus) 9998 W gs.toList b hext.2.1.1 hfs
      have hst := run_equalIn_struct (P := P) W 9999 t vs.toArray us.toArray (by rw [hfo]; exact hu) hext.1
      rw [hfo] at hst
      have hrun2 : (Op.equalIn 10000 t (.agg vs.toArray) (.agg us.toArray)).run P W = .ok b W := hst.trans hrun
      rcases evNil_bool hd with ⟨rfl, rfl⟩ | ⟨rfl, rfl⟩
      · exact gives_pure hc (V := .bool b) (by rw [run_eql_struct, hrun2]; rfl) (by simp [AVal.rel, AV.rel, Sc.rel, D.rel])
      · exact gives_pure hc (V := .bool !b) (by rw [run_neq_struct, hrun2]; rfl) (by simp [AVal.rel, AV.rel, Sc.rel, D.rel])
    · cases h
  · rename_i x y
    change x.rel φ m X at hx
    change y.rel m Y at hy
    split at h
    · rename_i ht
      have hu := (hT.at ht).desc (d := .bool) (fun d' hd => kindOf_bool hd)
      split at h
      · rename_i p q
        simp only [Sc.rel, D.rel] at hx hy
        subst hx; subst hy
        split at h <;> simp only [Option.some.injEq, reduceCtorEq] at h <;> subst h
        · refine gives_pure hc (V := .bool (p == q)) ?_ ?_
          · rw [binOp_eql_other trivial]; simp [run_equal_bool hu]
          · simp [AVal.rel, AV.rel, Sc.rel, D.rel, beq_decide]
        · refine gives_pure hc (V := .bool (!(p == q))) ?_ ?_
          · rw [binOp_neq_other trivial]; simp [run_equal_bool hu]
          · simp [AVal.rel, AV.rel, Sc.rel, D.rel, beq_decide]
      · cases h
    · rename_i e _ _ _ ht
      have hu := (hT.at ht).desc (d := .pointer e) (fun d' hd => kindOf_ptr hd)
      split at h
      · rename_i hl
        have := litP_ok hl hy
        subst this
        cases hn : nilP x with
        | none => simp [hn] at h
        | some b =>
          obtain ⟨p, rfl, hp⟩ := nilP_ok hn hx
          have hru : Sem.run P (Op.equal t (.pointer p) (.pointer none)) W = .ok b W := by
            rw [run_equal_ptr hu, hp]
          cases hd : evNil op b with
          | none => simp [hn, hd] at h
          | some d =>
            simp [hn, hd] at h
            subst h
            rcases evNil_bool hd with ⟨rfl, rfl⟩ | ⟨rfl, rfl⟩
            · exact gives_pure hc (V := .bool b) (by rw [binOp_eql_other trivial]; simp [hru]) (by simp [AVal.rel, AV.rel, Sc.rel, D.rel])
            · exact gives_pure hc (V := .bool !b) (by rw [binOp_neq_other trivial]; simp [hru]) (by simp [AVal.rel, AV.rel, Sc.rel, D.rel])
      · cases h
    · rename_i e _ _ _ ht
      have hu := (hT.at ht).desc (d := .slice e) (fun d' hd => kindOf_slice hd)
      split at h
      · rename_i hl
        have := litS_ok hl hy
        subst this
        cases hn : nilS x with
        | none => simp [hn] at h
        | some b =>
          cases hd : evNil op b.1 with
          | none => simp [hn, hd] at h
          | some d =>
            simp [hn, hd] at h
            subst h
            obtain ⟨p, n, k, rfl, hp⟩ := nilS_ok hn hob hx
            have hru : Sem.run P (Op.equal t (.slice p n k) (.slice none 0 0)) W = .ok b.1 W := by
              rw [run_equal_slice_nil W t e p n k hu, hp]
            rcases evNil_bool hd with ⟨rfl, rfl⟩ | ⟨rfl, rfl⟩
            · exact gives_pure hc (V := .bool b.1) (by rw [binOp_eql_other trivial]; simp [hru]) (by simp [AVal.rel, AV.rel, Sc.rel, D.rel])
            · exact gives_pure hc (V := .bool !b.1) (by rw [binOp_neq_other trivial]; simp [hru]) (by simp [AVal.rel, AV.rel, Sc.rel, D.rel])
      · cases h
    · exact evBinD_ok h hob hc hx hy t
  · cases h

def evUn (op : UnOp) (x : AV) : Option Res :=
  match op, x with
  | .not, .s (.d (.bool b)) => some (pureRes (dv (.bool (!b))) True)
  | .neg, .s (.d (.int k n)) => some (pureRes (dv (.int k (wrapK k (0 - n)))) (wrapOb k (0 - n)))
  | _, _ => none

theorem evUn_ok {op : UnOp} {x : AV} {r : Res} (h : evUn op x = some r) (hob : r.ob) (hc : RelC c φ m f a W) {X : Value} (hx : x.rel φ m X) : Gives P (Op.unary op X) c φ m f a W r := by
  unfold evUn at h
  split at h <;> simp only [Option.some.injEq, reduceCtorEq] at h <;> subst h <;> simp only [AV.rel, Sc.rel, D.rel] at hx <;> subst hx
  · exact gives_pure hc (V := .bool (!_)) (by simp [Op.unary]; rfl) (by simp [AVal.rel, AV.rel, Sc.rel, D.rel])
  · rename_i k n
    refine gives_pure hc (V := .int k (k.wrap (0 - n))) (by simp [Op.unary, Op.intArith]) ?_
    rw [wrapK_ok hob]
    simp [AVal.rel, AV.rel, Sc.rel, D.rel]

end
end Go.Proofs.Hg

/- Operations that read and write memory. -/
set_option linter.unusedVariables false
set_option linter.unusedSimpArgs false
namespace Go.Proofs.Hg
open Go.RowKit

section
variable {P : Program} {c : Ctx} {φ : Names} {m : Mem} {f : StF} {a : Act} {W : World}

theorem addr_add (b o j : Nat) : (⟨b, o, none⟩ : Addr).add j = ⟨b, o + j, none⟩ := by unfold Addr.add; split <;> simp_all

theorem cell_heap {w : World} {b : Nat} {cs : Array Value} {ty : TypeId} {fr : Nat × Nat} (h : w.heap[b]? = some (.cells cs ty fr)) (o : Nat) : w.cell? ⟨b, o, none⟩ = cs[o]? := by
  simp [World.cell?, h]

theorem frozen_heap {w : World} {b : Nat} {cs : Array Value} {ty : TypeId} {fr : Nat × Nat} (h : w.heap[b]? = some (.cells cs ty fr)) (hf : FrOk cs.size fr) {o : Nat} (ho : o < cs.size) : w.frozen? ⟨b, o, none⟩ = false := by
  have := hf o ho
  simp only [World.frozen?, h]
  simp only [Bool.and_eq_false_iff, decide_eq_false_iff_not]
  by_cases h1 : fr.1 ≤ o
  · exact .inr (fun h2 => this ⟨h1, h2⟩)
  · exact .inl h1

theorem mem_cell (h : RelC c φ m f a W) {b o : Nat} {v : Value} (hc : memCell m b o = some v) : W.cell? ⟨b, o, none⟩ = some v := by
  unfold memCell at hc
  cases hb : m b with
  | none => simp [hb] at hc
  | some x =>
    have := h.mem b x hb
    cases x <;> simp [hb] at hc
    rw [cell_heap this]
    exact hc

/-! ### one cell of a scalar -/
theorem D.rel_one {d : D} {V : Value} (h : d.rel m V) : V.oneCell' = true := by
  cases d <;> simp only [D.rel] at h
  case ptr => obtain ⟨b, o, rfl, _⟩ := h; rfl
  case slice => rcases h with ⟨_, _, rfl⟩ | ⟨_, ad, k, rfl, _⟩ <;> rfl
  case func => obtain ⟨vs, rfl, _⟩ := h; rfl
  all_goals subst h; rfl

def Sc.nojunk : Sc → Bool
  | .junk => false
  | _ => true

theorem Sc.rel_one {x : Sc} (hj : x.nojunk = true) {V : Value} (h : x.rel φ m V) : V.oneCell' = true := by
  cases x with
  | d x => exact D.rel_one (m := m) h
  | ptr i off => obtain ⟨b, C, e, _, rfl⟩ := h; rfl
  | eptr i k fo => obtain ⟨b, C, e, _, rfl⟩ := h; rfl
  | row i e off len cap => rcases h with ⟨_, _, _, _, rfl⟩ | ⟨b, C, ad, k, _, rfl, _⟩ <;> rfl
  | func f caps => obtain ⟨vs, rfl, _⟩ := h; rfl
  | yield l => obtain ⟨b, C, e, _, rfl⟩ := h; rfl
  | map i => obtain ⟨b, C, e, _, rfl⟩ := h; rfl
  | upt i e off len => obtain ⟨s, p, _, rfl, _⟩ := h; rfl
  | junk => cases hj

def AV.cells : AV → List Sc
  | .s x => [x]
  | .agg xs => xs

theorem cells_one {V : Value} (h : V.oneCell' = true) : V.cells = #[V] := by cases V <;> first | rfl | cases h

theorem AV.rel_cells {x : AV} {V : Value} (h : x.rel φ m V) (hj : x.cells.all Sc.nojunk = true) : relAll φ m x.cells V.cells.toList ∧ ∀ v ∈ V.cells.toList, v.oneCell' = true := by
  cases x with
  | s x =>
    simp only [AV.cells, List.all_cons, List.all_nil, Bool.and_true] at hj
    have h1 := Sc.rel_one hj (V := V) h
    rw [cells_one h1]
    refine ⟨⟨rfl, fun j y hy => ?_⟩, by simpa using h1⟩
    cases j with
    | zero => simp [AV.cells] at hy; subst hy; exact ⟨V, rfl, h⟩
    | succ j => simp [AV.cells] at hy
  | agg xs =>
    obtain ⟨vs, rfl, h1⟩ := h
    refine ⟨h1, fun v hv => ?_⟩
    simp only [Value.cells] at hv
    obtain ⟨j, hj1, hj2⟩ := List.getElem_of_mem hv
    have hl := h1.1
    have hx : j < xs.length := by omega
    obtain ⟨v', h3, h4⟩ := h1.2 j xs[j] (List.getElem?_eq_getElem hx)
    rw [List.getElem?_eq_getElem hj1] at h3
    injection h3 with h3
    rw [hj2] at h3
    subst h3
    have : xs[j].nojunk = true := by
      rw [List.all_eq_true] at hj
      exact hj _ (List.getElem_mem hx)
    exact Sc.rel_one this h4

/-! ### loads -/
theorem run_loadVar_agg {t : TypeId} {i : TI} (hT : TIOk P t i) (hag : i.kind.agg = true) {b o : Nat} {vs : List Value} (hl : vs.length = i.size) (h : ∀ j v, vs[j]? = some v → W.cell? ⟨b, o + j, none⟩ = some v) :
    (Instr.loadAt t (.pointer (some ⟨b, o, none⟩))).run P W = .ok (.agg vs.toArray) W := by
  have h2 := run_loadCells_list (P := P) W ⟨b, o, none⟩ vs (fun j v hj => by rw [addr_add]; exact h j v hj)
  rw [hl] at h2
  simp [Instr.loadAt, Instr.sureAddr, loadVar, run_isAgg' hT, hag, run_sizeOf' hT, h2]

theorem run_loadVar_one {t : TypeId} {i : TI} (hT : TIOk P t i) (hag : i.kind.agg = false) {b o : Nat} {v : Value} (h : W.cell? ⟨b, o, none⟩ = some v) :
    (Instr.loadAt t (.pointer (some ⟨b, o, none⟩))).run P W = .ok v W := by
  simp [Instr.loadAt, Instr.sureAddr, loadVar, run_isAgg' hT, hag, h]

theorem relAll_drop_take {xs : List Sc} {vs : List Value} (h : relAll φ m xs vs) (o n : Nat) : relAll φ m ((xs.drop o).take n) ((vs.drop o).take n) := by
  refine ⟨by simp [h.1], fun j x hj => ?_⟩
  rw [List.getElem?_take] at hj ⊢
  split at hj
  · rename_i hjn
    rw [List.getElem?_drop] at hj
    simp only [hjn, if_true, List.getElem?_drop]
    exact h.2 _ x hj
  · cases hj

def evLoad (T : Tab) (H : Heap) (t : TypeId) (p : AV) : Option Res :=
  match p, lookN t T with
  | .s (.ptr i off), some ti => (match H i with
    | some (.cells vs ty) => if ti.kind.agg then some ⟨.one (.agg ((vs.drop off).take ti.size)), [(i, .cells vs ty)], false, [], off + ti.size ≤ vs.length⟩
      else some ⟨.one (.s (vs.getD off .junk)), [(i, .cells vs ty)], false, [], off < vs.length⟩
    | _ => none)
  | .s (.eptr i k fo), some ti => (match H i with
    | some (.row es ty) => (match lookN ty T with
      | some te => if ti.kind.agg then some ⟨.one (.agg (((es.getD k te.zero).drop fo).take ti.size |>.map .d)), [(i, .row es ty)], false, [], k < es.length ∧ fo + ti.size ≤ (es.getD k te.zero).length⟩
        else some ⟨.one (dv ((es.getD k te.zero).getD fo .nilp)), [(i, .row es ty)], false, [], k < es.length ∧ fo < (es.getD k te.zero).length⟩
      | none => none)
    | _ => none)
  | .s (.d (.ptr cs)), some ti => if ti.kind.agg then some ⟨.one (.agg ((cs.take ti.size).map .d)), [], false, [], ti.size ≤ cs.length⟩
      else some ⟨.one (dv (cs.getD 0 .nilp)), [], false, [], 0 < cs.length⟩
  | _, _ => none

theorem flatten_at {e : Nat} : ∀ (es : List (List D)) (k fo : Nat), (∀ r ∈ es, r.length = e) → k < es.length → fo < e → es.flatten[k * e + fo]? = (es.getD k [])[fo]?
  | [], k, fo, _, hk, _ => by simp at hk
  | r :: rs, 0, fo, h, _, hf => by
    have := h r (List.mem_cons_self ..)
    simp [List.getElem?_append_left (show fo < r.length by omega)]
  | r :: rs, k + 1, fo, h, hk, hf => by
    have h1 := h r (List.mem_cons_self ..)
    rw [List.flatten_cons, List.getElem?_append_right (by rw [h1, Nat.succ_mul]; omega)]
    rw [show (k + 1) * e + fo - r.length = k * e + fo by rw [h1, Nat.succ_mul]; omega]
    rw [flatten_at rs k fo (fun x hx => h x (List.mem_cons_of_mem _ hx)) (by simpa using hk) hf]
    simp

theorem row_cell (hc : RelC c φ m f a W) {i : Nat} {es : List (List D)} {ty : TypeId} (hi : f (.h i) = .o (.row es ty)) {b C e : Nat} (hb : φ i = some (.blk b C e)) :
    ∃ (cs : Array Value) (fr : Nat × Nat), W.heap[b]? = some (.cells cs ty fr) ∧ FrOk cs.size fr ∧ cs.size = C * e ∧ es.length ≤ C ∧ C ≤ 9223372036854775807 ∧ (∀ r ∈ es, r.length = e) ∧ relRow m es cs ∧
      ∀ k fo, k < es.length → fo < e → ∃ d v, (es.getD k [])[fo]? = some d ∧ cs[k * e + fo]? = some v ∧ d.rel m v := by
  have h := hc.obj i _ hi
  rcases h with ⟨h1, _⟩ | ⟨b', C', e', cs, fr, h1, h2, h3, h4, h5, h6, h7, h8⟩
  · rw [hb] at h1; cases h1
  · rw [hb] at h1
    injection h1 with h1
    injection h1 with e1 e2 e3
    subst e1; subst e2; subst e3
    refine ⟨cs, fr, h2, h3, h4, h5, h6, h7, h8, fun k fo hk hfo => ?_⟩
    have hf := flatten_at es k fo h7 hk hfo
    have hl : (es.getD k []).length = e := by
      rw [List.getD_eq_getElem?_getD, List.getElem?_eq_getElem hk]
      exact h7 _ (List.getElem_mem hk)
    rw [List.getElem?_eq_getElem (show fo < (es.getD k []).length by rw [hl]; exact hfo)] at hf
    obtain ⟨v, hv1, hv2⟩ := h8 _ _ hf
    exact ⟨_, v, List.getElem?_eq_getElem (by rw [hl]; exact hfo), hv1, hv2⟩

theorem getD_dflt {es : List (List D)} {k : Nat} (hk : k < es.length) (z : List D) : es.getD k z = es.getD k [] := by
  simp [List.getD_eq_getElem?_getD, List.getElem?_eq_getElem hk]

theorem evLoad_ok {T : Tab} (hT : TabOk P T) {H : Heap} {t : TypeId} {p : AV} {r : Res} (h : evLoad T H t p = some r) (hob : r.ob) {fr : Nat} (hrd : r.Reads fr f) (hc : RelC c φ m f a W) {X : Value}
    (hx : p.rel φ m X) : Gives P (Instr.loadAt t X) c φ m f a W r := by
  unfold evLoad at h
  split at h
  · rename_i i off ti ht
    obtain ⟨b, C, e, hb, rfl⟩ := hx
    split at h
    · rename_i vs ty hH
      split at h
      · rename_i hag
        injection h with h
        subst h
        have ho := hrd.1 _ (List.mem_cons_self ..)
        obtain ⟨b', C', e', cs, fr', h1, h2, h3, h4⟩ := hc.obj i _ ho
        rw [hb] at h1
        injection h1 with h1
        injection h1 with e1 _ _
        subst e1
        have hl : ((cs.toList.drop off).take ti.size).length = ti.size := by have := h4.1; simp at this ⊢; omega
        refine ⟨φ, m, W, _, hc, NamesLe.refl φ, MemLe.refl m, run_loadVar_agg (hT.at ht) hag hl fun j v hj => ?_, _, rfl, relAll_drop_take h4 off ti.size⟩
        rw [cell_heap h2]
        rw [List.getElem?_take] at hj
        split at hj
        · rw [List.getElem?_drop] at hj; simpa using hj
        · cases hj
      · rename_i hag
        injection h with h
        subst h
        have ho := hrd.1 _ (List.mem_cons_self ..)
        obtain ⟨b', C', e', cs, fr', h1, h2, h3, h4⟩ := hc.obj i _ ho
        rw [hb] at h1
        injection h1 with h1
        injection h1 with e1 _ _
        subst e1
        obtain ⟨v, h5, h6⟩ := h4.2 off vs[off] (List.getElem?_eq_getElem hob)
        refine gives_pure hc (run_loadVar_one (hT.at ht) (by simpa using hag) (by rw [cell_heap h2]; simpa using h5)) ?_
        simp only [AVal.rel, AV.rel, List.getD_eq_getElem?_getD, List.getElem?_eq_getElem hob, Option.getD_some]
        exact h6
    · cases h
  · rename_i i k fo ti ht
    obtain ⟨b, C, e, hb, rfl⟩ := hx
    split at h
    · rename_i es ty hH
      split at h
      · rename_i te hte
        split at h
        · rename_i hag
          injection h with h
          subst h
          obtain ⟨hk, hfo⟩ := hob
          rw [getD_dflt hk] at hfo
          obtain ⟨cs, fr', h2, h3, h4, h5, h6, h7, h8, h9⟩ := row_cell hc (hrd.1 _ (List.mem_cons_self ..)) hb
          have hel : (es.getD k []).length = e := by
            rw [List.getD_eq_getElem?_getD, List.getElem?_eq_getElem hk]
            exact h7 _ (List.getElem_mem hk)
          have hsz : k * e + e ≤ cs.size := by
            rw [h4]
            have : (k + 1) * e ≤ C * e := Nat.mul_le_mul_right _ (by omega)
            rwa [Nat.succ_mul] at this
          have hl : ((cs.toList.drop (k * e + fo)).take ti.size).length = ti.size := by simp; omega
          refine ⟨φ, m, W, _, hc, NamesLe.refl φ, MemLe.refl m, run_loadVar_agg (hT.at ht) hag hl fun j v hj => ?_, _, rfl, ?_⟩
          · rw [cell_heap h2]
            rw [List.getElem?_take] at hj
            split at hj
            · rw [List.getElem?_drop] at hj; simpa using hj
            · cases hj
          · rw [getD_dflt hk]
            refine ⟨by rw [hl]; simp only [List.length_map, List.length_take, List.length_drop]; omega, fun j x hj => ?_⟩
            have hjl : j < ti.size := by
              have := (List.getElem?_eq_some_iff.1 hj).1
              simp at this
              omega
            obtain ⟨d, v, g1, g2, g3⟩ := h9 k (fo + j) hk (by omega)
            rw [List.getElem?_map, List.getElem?_take, if_pos hjl, List.getElem?_drop, g1] at hj
            injection hj with hj
            subst hj
            refine ⟨v, ?_, g3⟩
            rw [List.getElem?_take, if_pos hjl, List.getElem?_drop]
            rw [← g2]
            simp [Nat.add_assoc]
        · rename_i hag
          injection h with h
          subst h
          obtain ⟨hk, hfo⟩ := hob
          rw [getD_dflt hk] at hfo
          obtain ⟨cs, fr', h2, h3, h4, h5, h6, h7, h8, h9⟩ := row_cell hc (hrd.1 _ (List.mem_cons_self ..)) hb
          have hel : (es.getD k []).length = e := by
            rw [List.getD_eq_getElem?_getD, List.getElem?_eq_getElem hk]
            exact h7 _ (List.getElem_mem hk)
          obtain ⟨d, v, g1, g2, g3⟩ := h9 k fo hk (by omega)
          refine gives_pure hc (run_loadVar_one (hT.at ht) (by simpa using hag) (by rw [cell_heap h2]; exact g2)) ?_
          rw [getD_dflt hk]
          simp only [AVal.rel, AV.rel, Sc.rel]
          rw [List.getD_eq_getElem?_getD (l := es.getD k []), g1]
          exact g3
      · cases h
    · cases h
  · rename_i cs ti ht
    simp only [AV.rel, Sc.rel, D.rel] at hx
    obtain ⟨b, o, rfl, hcs⟩ := hx
    rw [relCells_iff] at hcs
    split at h
    · rename_i hag
      injection h with h
      subst h
      have hex : ∃ vs : List Value, vs.length = ti.size ∧ (∀ j v, vs[j]? = some v → W.cell? ⟨b, o + j, none⟩ = some v) ∧ ∀ (j : Nat) (d : D), j < ti.size → cs[j]? = some d → ∃ v : Value, vs[j]? = some v ∧ d.rel m v := by
        refine ⟨(List.range ti.size).map fun j => (W.cell? ⟨b, o + j, none⟩).getD undef, by simp, fun j v hj => ?_, fun j d hj hd => ?_⟩
        · have hjl : j < ti.size := by have := (List.getElem?_eq_some_iff.1 hj).1; simpa using this
          simp [hjl] at hj
          obtain ⟨v', g1, _⟩ := hcs j cs[j] (List.getElem?_eq_getElem (Nat.lt_of_lt_of_le hjl hob))
          have g2 := mem_cell hc g1
          rw [g2] at hj
          rw [g2, ← hj]
          rfl
        · obtain ⟨v', g1, g3⟩ := hcs j d hd
          refine ⟨v', ?_, g3⟩
          have g2 := mem_cell hc g1
          simp [hj, g2]
      obtain ⟨vs, g1, g2, g3⟩ := hex
      refine ⟨φ, m, W, _, hc, NamesLe.refl φ, MemLe.refl m, run_loadVar_agg (hT.at ht) hag g1 g2, vs, rfl, ?_, fun j x hj => ?_⟩
      · have := hob; simp; omega
      · have hjl : j < ti.size := by have := (List.getElem?_eq_some_iff.1 hj).1; simp at this; omega
        rw [List.getElem?_map, List.getElem?_take, if_pos hjl] at hj
        cases hd : cs[j]? with
        | none => simp [hd] at hj
        | some d =>
          simp [hd] at hj
          subst hj
          exact g3 j d hjl hd
    · rename_i hag
      injection h with h
      subst h
      obtain ⟨v, g1, g2⟩ := hcs 0 cs[0] (List.getElem?_eq_getElem hob)
      refine gives_pure hc (run_loadVar_one (hT.at ht) (by simpa using hag) (by simpa using mem_cell hc g1)) ?_
      simp only [AVal.rel, AV.rel, Sc.rel, List.getD_eq_getElem?_getD, List.getElem?_eq_getElem hob, Option.getD_some]
      exact g2
  · cases h

/-! ### stores -/
def splA (cs : Array Value) (o : Nat) : List Value → Array Value
  | [] => cs
  | v :: r => splA (cs.setIfInBounds o v) (o + 1) r

def splL {α : Type} (xs : List α) (o : Nat) : List α → List α
  | [] => xs
  | y :: r => splL (xs.set o y) (o + 1) r

theorem splA_size : ∀ (vs : List Value) (cs : Array Value) (o : Nat), (splA cs o vs).size = cs.size
  | [], _, _ => rfl
  | v :: r, cs, o => by rw [splA, splA_size r]; simp

theorem splL_length {α : Type} : ∀ (ys xs : List α) (o : Nat), (splL xs o ys).length = xs.length
  | [], _, _ => rfl
  | v :: r, cs, o => by rw [splL, splL_length r]; simp

theorem setCells_heap : ∀ (vs : List Value) (b o : Nat) (w : World) (cs : Array Value) (ty : TypeId) (fr : Nat × Nat), w.heap[b]? = some (.cells cs ty fr) →
    (w.setCells b o vs).heap[b]? = some (.cells (splA cs o vs) ty fr) ∧ (∀ k, k ≠ b → (w.setCells b o vs).heap[k]? = w.heap[k]?) ∧ (w.setCells b o vs).heap.size = w.heap.size ∧
      (w.setCells b o vs).os = w.os ∧ (w.setCells b o vs).output = w.output ∧ (w.setCells b o vs).tape = w.tape
  | [], b, o, w, cs, ty, fr, h => ⟨h, fun _ _ => rfl, rfl, rfl, rfl, rfl⟩
  | v :: r, b, o, w, cs, ty, fr, h => by
    have hb : (w.setCell ⟨b, o, none⟩ v).heap[b]? = some (.cells (cs.setIfInBounds o v) ty fr) := by
      simp [World.setCell, Array.getElem?_modify, h]
    obtain ⟨h1, h2, h3, h4, h5, h6⟩ := setCells_heap r b (o + 1) (w.setCell ⟨b, o, none⟩ v) _ ty fr hb
    refine ⟨h1, fun k hk => ?_, ?_, h4, h5, h6⟩
    · rw [World.setCells, h2 k hk]
      exact Below.heap_setCell w ⟨b, o, none⟩ v k hk
    · rw [World.setCells, h3]
      simp [World.setCell]

theorem relAll_set {xs : List Sc} {vs : List Value} (h : relAll φ m xs vs) (o : Nat) {x : Sc} {v : Value} (hx : x.rel φ m v) : relAll φ m (xs.set o x) (vs.set o v) := by
  refine ⟨by simp [h.1], fun j y hj => ?_⟩
  by_cases e : o = j
  · subst e
    have hl : o < xs.length := by have := (List.getElem?_eq_some_iff.1 hj).1; simpa using this
    rw [List.getElem?_set_self hl] at hj
    injection hj with hj
    subst hj
    exact ⟨v, by rw [List.getElem?_set_self (by have := h.1; omega)], hx⟩
  · rw [List.getElem?_set_ne e] at hj ⊢
    exact h.2 j y hj

theorem relAll_spl : ∀ (ys : List Sc) (us : List Value) (xs : List Sc) (cs : Array Value) (o : Nat), relAll φ m ys us → relAll φ m xs cs.toList → relAll φ m (splL xs o ys) (splA cs o us).toList
  | [], us, xs, cs, o, hy, hx => by
    have : us = [] := List.eq_nil_of_length_eq_zero hy.1
    subst this
    exact hx
  | y :: ys, us, xs, cs, o, hy, hx => by
    cases us with
    | nil => have := hy.1; simp at this
    | cons u us =>
      obtain ⟨v, h1, h2⟩ := hy.2 0 y rfl
      simp at h1
      subst h1
      refine relAll_spl ys us (xs.set o y) (cs.setIfInBounds o u) (o + 1) ⟨by have := hy.1; simpa using this, fun j x hj => ?_⟩ (by simpa using relAll_set hx o h2)
      have := hy.2 (j + 1) x (by simpa using hj)
      simpa using this

/-- An instruction that only does something. -/
def Does (P : Program) (s : Sem Unit) (c : Ctx) (φ : Names) (m : Mem) (f : StF) (a : Act) (W : World) (r : Res) : Prop :=
  ∃ φ' m' W', RelC c φ' m' (wrApp r.wr f) a W' ∧ NamesLe φ φ' ∧ MemLe m m' ∧ s.run P W = .ok () W' ∧ r.val = .junk

def toDs : List Sc → Option (List D)
  | [] => some []
  | .d x :: r => (toDs r).map (x :: ·)
  | _ :: _ => none

theorem toDs_map : ∀ {xs : List Sc} {ds : List D}, toDs xs = some ds → xs = ds.map .d
  | [], ds, h => by simp [toDs] at h; subst h; rfl
  | .d x :: r, ds, h => by
    simp only [toDs, Option.map_eq_some_iff] at h
    obtain ⟨ds', h1, rfl⟩ := h
    rw [toDs_map h1]; rfl
  | .ptr _ _ :: _, _, h => by simp [toDs] at h
  | .eptr _ _ _ :: _, _, h => by simp [toDs] at h
  | .row _ _ _ _ _ :: _, _, h => by simp [toDs] at h
  | .func _ _ :: _, _, h => by simp [toDs] at h
  | .yield _ :: _, _, h => by simp [toDs] at h
  | .map _ :: _, _, h => by simp [toDs] at h
  | .upt _ _ _ _ :: _, _, h => by simp [toDs] at h
  | .junk :: _, _, h => by simp [toDs] at h

def evStore (T : Tab) (H : Heap) (t : TypeId) (p v : AV) : Option Res :=
  match p, lookN t T with
  | .s (.ptr i off), some ti => (match H i with
    | some (.cells vs ty) => if v.cells.all Sc.nojunk then some ⟨.junk, [(i, .cells vs ty)], false, [(i, .o (.cells (splL vs off v.cells) ty))], v.cells.length = ti.size ∧ off + ti.size ≤ vs.length⟩ else none
    | _ => none)
  | .s (.eptr i k fo), some ti => (match H i, toDs v.cells with
    | some (.row es ty), some ds => (match lookN ty T with
      | some te => some ⟨.junk, [(i, .row es ty)], false, [(i, .o (.row (es.set k (splL (es.getD k te.zero) fo ds)) ty))], ds.length = ti.size ∧ k < es.length ∧ fo + ti.size ≤ (es.getD k te.zero).length⟩
      | none => none)
    | _, _ => none)
  | _, _ => none

theorem run_storeAt {t : TypeId} {i : TI} (hT : TIOk P t i) {b o : Nat} {V : Value} {cs : Array Value} {ty : TypeId} {fr : Nat × Nat} (hb : W.heap[b]? = some (.cells cs ty fr)) (hf : FrOk cs.size fr)
    (hl : V.cells.size = i.size) (ho : o + i.size ≤ cs.size) (h1 : ∀ v ∈ V.cells.toList, v.oneCell' = true) :
    (Instr.storeAt t (.pointer (some ⟨b, o, none⟩)) V).run P W = .ok () (W.setCells b o V.cells.toList) := by
  have h2 := run_storeCells_cells (P := P) b o V.cells.toList 0 W (fun j hj => by
      rw [cell_heap hb]
      simp at hj
      rw [Array.getElem?_eq_getElem (by omega)]
      rfl) (fun j hj => frozen_heap hb hf (by simp at hj; omega)) h1
  rw [Nat.add_zero] at h2
  simp [Instr.storeAt, Instr.sureAddr, storeVar, run_sizeOf' hT, hl, h2]

theorem splA_get : ∀ (us : List Value) (cs : Array Value) (o j : Nat), o + us.length ≤ cs.size → (splA cs o us)[j]? = if o ≤ j ∧ j < o + us.length then us[j - o]? else cs[j]?
  | [], cs, o, j, _ => by
    simp only [splA, List.length_nil, Nat.add_zero]
    rw [if_neg (by omega)]
  | u :: us, cs, o, j, h => by
    simp only [List.length_cons] at h
    rw [splA, splA_get us (cs.setIfInBounds o u) (o + 1) j (by simp; omega)]
    by_cases h1 : o + 1 ≤ j ∧ j < o + 1 + us.length
    · rw [if_pos h1, if_pos (by simp; omega), show j - o = (j - (o + 1)) + 1 by omega]
      simp
    · rw [if_neg h1]
      by_cases h2 : j = o
      · subst h2
        rw [if_pos (by simp)]
        simp [Array.getElem?_setIfInBounds, show j < cs.size by omega]
      · rw [if_neg (by simp; omega), Array.getElem?_setIfInBounds_ne (by omega)]

theorem splL_get {α : Type} : ∀ (us cs : List α) (o j : Nat), o + us.length ≤ cs.length → (splL cs o us)[j]? = if o ≤ j ∧ j < o + us.length then us[j - o]? else cs[j]?
  | [], cs, o, j, _ => by
    simp only [splL, List.length_nil, Nat.add_zero]
    rw [if_neg (by omega)]
  | u :: us, cs, o, j, h => by
    simp only [List.length_cons] at h
    rw [splL, splL_get us (cs.set o u) (o + 1) j (by simp; omega)]
    by_cases h1 : o + 1 ≤ j ∧ j < o + 1 + us.length
    · rw [if_pos h1, if_pos (by simp; omega), show j - o = (j - (o + 1)) + 1 by omega]
      simp
    · rw [if_neg h1]
      by_cases h2 : j = o
      · subst h2
        rw [if_pos (by simp)]
        simp [List.getElem?_set, show j < cs.length by omega]
      · rw [if_neg (by simp; omega), List.getElem?_set_ne (by omega)]

theorem flatten_get {e : Nat} (he : 0 < e) {es : List (List D)} (h : ∀ r ∈ es, r.length = e) {j : Nat} (hj : j < es.length * e) : es.flatten[j]? = (es.getD (j / e) [])[j % e]? := by
  have h1 : j / e < es.length := (Nat.div_lt_iff_lt_mul he).2 hj
  have h2 := flatten_at es (j / e) (j % e) h h1 (Nat.mod_lt _ he)
  rw [← h2]
  congr 1
  have := Nat.div_add_mod j e
  rw [Nat.mul_comm]
  omega

theorem flatten_len {e : Nat} : ∀ {es : List (List D)}, (∀ r ∈ es, r.length = e) → es.flatten.length = es.length * e
  | [], _ => by simp
  | r :: rs, h => by
    have h1 := flatten_len (es := rs) (fun x hx => h x (List.mem_cons_of_mem _ hx))
    have h2 := h r (List.mem_cons_self ..)
    simp only [List.flatten_cons, List.length_append, List.length_cons, h1, h2, Nat.succ_mul]
    omega

theorem evStore_ok {T : Tab} (hT : TabOk P T) {H : Heap} {t : TypeId} {p v : AV} {r : Res} (h : evStore T H t p v = some r) (hob : r.ob) {fr : Nat} (hrd : r.Reads fr f) (hc : RelC c φ m f a W) {X V : Value}
    (hx : p.rel φ m X) (hv : v.rel φ m V) : Does P (Instr.storeAt t X V) c φ m f a W r := by
  unfold evStore at h
  split at h
  · rename_i i off ti ht
    obtain ⟨b, C, e, hb, rfl⟩ := hx
    split at h
    · rename_i vs ty hH
      split at h
      · rename_i hnj
        injection h with h
        subst h
        have ho := hrd.1 _ (List.mem_cons_self ..)
        obtain ⟨b', C', e', cs, fr', h1, h2, h3, h4⟩ := hc.obj i _ ho
        rw [hb] at h1
        injection h1 with h1
        injection h1 with e1 _ _
        subst e1
        obtain ⟨hcell, hone⟩ := AV.rel_cells hv hnj
        have hsz : V.cells.size = ti.size := by have := hcell.1; simp at this; omega
        have hcs : cs.size = vs.length := by have := h4.1; simpa using this
        obtain ⟨g1, g2, g3, g4, g5, g6⟩ := setCells_heap V.cells.toList b off W cs ty fr' h2
        refine ⟨φ, m, _, ?_, NamesLe.refl φ, MemLe.refl m, run_storeAt (hT.at ht) h2 h3 hsz (by have := hob.2; omega) hone, rfl⟩
        rw [wrApp_cons, wrApp_nil]
        exact hc.setObj ho hb g4 g5 g6 g3 g2 ⟨b, C, e, _, fr', hb, g1, by rw [splA_size]; exact h3, relAll_spl _ _ _ _ _ hcell h4⟩
      · cases h
    · cases h
  · rename_i i k fo ti ht
    obtain ⟨b, C, e, hb, rfl⟩ := hx
    split at h
    · rename_i es ty ds hH hds
      split at h
      · rename_i te hte
        injection h with h
        subst h
        obtain ⟨o1, o2, o3⟩ := hob
        have ho := hrd.1 _ (List.mem_cons_self ..)
        obtain ⟨cs, fr', h2, h3, h4, h5, h6, h7, h8, h9⟩ := row_cell hc ho hb
        rw [getD_dflt o2] at o3
        have hel : (es.getD k []).length = e := by
          rw [List.getD_eq_getElem?_getD, List.getElem?_eq_getElem o2]
          exact h7 _ (List.getElem_mem o2)
        have hmap := toDs_map hds
        obtain ⟨hcell, hone⟩ := AV.rel_cells hv (by rw [hmap]; simp [Sc.nojunk])
        have hsz : V.cells.size = ti.size := by have := hcell.1; rw [hmap] at this; simp at this; omega
        have hin : k * e + e ≤ cs.size := by
          rw [h4]
          have : (k + 1) * e ≤ C * e := Nat.mul_le_mul_right _ (by omega)
          rwa [Nat.succ_mul] at this
        obtain ⟨g1, g2, g3, g4, g5, g6⟩ := setCells_heap V.cells.toList b (k * e + fo) W cs ty fr' h2
        refine ⟨φ, m, _, ?_, NamesLe.refl φ, MemLe.refl m, run_storeAt (hT.at ht) h2 h3 hsz (by omega) hone, rfl⟩
        rw [wrApp_cons, wrApp_nil]
        have hrows : ∀ r ∈ es.set k (splL (es.getD k te.zero) fo ds), r.length = e := by
          intro r hr
          rcases List.mem_or_eq_of_mem_set hr with h | h
          · exact h7 r h
          · subst h; rw [splL_length, getD_dflt o2]; exact hel
        refine hc.setObj ho hb g4 g5 g6 g3 g2 (.inr ⟨b, C, e, _, fr', hb, g1, by rw [splA_size]; exact h3, by rw [splA_size]; exact h4, by simpa using h5, h6, hrows, ?_⟩)
        intro j d hj
        have hjl : j < es.length * e := by
          have := (List.getElem?_eq_some_iff.1 hj).1
          rw [flatten_len hrows] at this
          simpa using this
        rcases Nat.eq_zero_or_pos e with he | he
        · subst he; simp at hjl
        rw [flatten_get he hrows (by simpa using hjl)] at hj
        have hjk : j / e < es.length := (Nat.div_lt_iff_lt_mul he).2 hjl
        have hdm := Nat.div_add_mod j e
        rw [Nat.mul_comm] at hdm
        have hmod := Nat.mod_lt j he
        rw [splA_get _ _ _ _ (by simp; omega)]
        by_cases hk : j / e = k
        · rw [hk, List.getD_eq_getElem?_getD, List.getElem?_set_self o2, Option.getD_some, getD_dflt o2, splL_get _ _ _ _ (by omega)] at hj
          rw [hk] at hdm
          by_cases hin2 : fo ≤ j % e ∧ j % e < fo + ds.length
          · rw [if_pos hin2] at hj
            rw [if_pos (by simp; omega)]
            obtain ⟨v', q1, q2⟩ := hcell.2 (j % e - fo) (.d d) (by rw [hmap, List.getElem?_map, hj]; rfl)
            refine ⟨v', ?_, q2⟩
            rw [← q1]
            congr 1
            omega
          · rw [if_neg hin2] at hj
            rw [if_neg (by simp; omega)]
            obtain ⟨d', v', q1, q2, q3⟩ := h9 k (j % e) o2 hmod
            rw [q1] at hj
            injection hj with hj
            subst hj
            exact ⟨v', by rw [← q2]; congr 1; omega, q3⟩
        · rw [List.getD_eq_getElem?_getD, List.getElem?_set_ne (fun x => hk x.symm), ← List.getD_eq_getElem?_getD] at hj
          have hne : ¬ (k * e + fo ≤ j ∧ j < k * e + fo + V.cells.toList.length) := by
            rintro ⟨x1, x2⟩
            apply hk
            simp at x2
            have y1 : k * e ≤ j := by omega
            have y2 : j < (k + 1) * e := by rw [Nat.succ_mul]; omega
            have z1 : k ≤ j / e := (Nat.le_div_iff_mul_le he).2 y1
            have z2 : j / e < k + 1 := (Nat.div_lt_iff_lt_mul he).2 y2
            omega
          rw [if_neg hne]
          obtain ⟨d', v', q1, q2, q3⟩ := h9 (j / e) (j % e) hjk hmod
          rw [q1] at hj
          injection hj with hj
          subst hj
          exact ⟨v', by rw [← q2, hdm], q3⟩
      · cases h
    · cases h
  · cases h

end
end Go.Proofs.Hg

/- New variables, literals, places of fields and elements, cuts. -/
set_option linter.unusedVariables false
set_option linter.unusedSimpArgs false
namespace Go.Proofs.Hg
open Go.RowKit

section
variable {P : Program} {c : Ctx} {φ : Names} {m : Mem} {f : StF} {a : Act} {W : World}

theorem heap_new (w : World) (o : Obj) : (w.alloc o).heap[w.heap.size]? = some o := by
  show (w.heap.push o)[w.heap.size]? = _
  simp

/-! ### new variables -/
def evBox (fresh : Nat) (t : TypeId) (v : AV) : Option Res :=
  if v.cells.all Sc.nojunk then some ⟨.one (.s (.ptr fresh 0)), [], true, [(fresh, .o (.cells v.cells t))], True⟩ else none

theorem evBox_ok {fresh : Nat} {t : TypeId} {v : AV} {r : Res} (h : evBox fresh t v = some r) (hrd : r.Reads fresh f) (hc : RelC c φ m f a W) {V : Value} (hv : v.rel φ m V) :
    Gives P (Instr.box t V) c φ m f a W r := by
  unfold evBox at h
  split at h
  · rename_i hj
    injection h with h
    subst h
    have hn := hc.free _ (hrd.2 rfl)
    obtain ⟨hcell, _⟩ := AV.rel_cells hv hj
    have hp : NamesLe φ (updN φ fresh (.blk W.heap.size 0 0)) := updN_le _ hn
    refine ⟨updN φ fresh (.blk W.heap.size 0 0), m, W.alloc (.cells V.cells t), .pointer (some ⟨W.heap.size, 0, none⟩), ?_, hp, MemLe.refl m, ?_, ?_⟩
    · rw [wrApp_cons, wrApp_nil]
      refine hc.alloc (hrd.2 rfl) ⟨W.heap.size, 0, 0, V.cells, (0, 0), updN_self _ _ _, heap_new _ _, FrOk.zero _, relAll_le hp (MemLe.refl m) hcell⟩
    · simp [Instr.box, newVar, newRow]
    · exact ⟨W.heap.size, 0, 0, updN_self _ _ _, rfl⟩
  · cases h

def evAlloc (T : Tab) (fresh : Nat) (t : TypeId) : Option Res :=
  match lookN t T with
  | some ti => some ⟨.one (.s (.ptr fresh 0)), [], true, [(fresh, .o (.cells (ti.zero.map .d) t))], True⟩
  | none => none

theorem evAlloc_ok {T : Tab} (hT : TabOk P T) {fresh : Nat} {t : TypeId} {r : Res} (h : evAlloc T fresh t = some r) (hrd : r.Reads fresh f) (hc : RelC c φ m f a W) :
    Gives P (Instr.alloc t true (.tuple #[])) c φ m f a W r := by
  unfold evAlloc at h
  split at h
  · rename_i ti ht
    injection h with h
    subst h
    have hn := hc.free _ (hrd.2 rfl)
    have hp : NamesLe φ (updN φ fresh (.blk W.heap.size 0 0)) := updN_le _ hn
    refine ⟨updN φ fresh (.blk W.heap.size 0 0), m, W.alloc (.cells (ti.zero.map D.val).toArray t), .pointer (some ⟨W.heap.size, 0, none⟩), ?_, hp, MemLe.refl m, ?_, ?_⟩
    · rw [wrApp_cons, wrApp_nil]
      refine hc.alloc (hrd.2 rfl) ⟨W.heap.size, 0, 0, _, (0, 0), updN_self _ _ _, heap_new _ _, FrOk.zero _, zero_rel (hT.at ht) _ _⟩
    · simp [Instr.alloc, run_zero' (hT.at ht), newVar, newRow, zeroVal_cells (hT.at ht)]
    · exact ⟨W.heap.size, 0, 0, updN_self _ _ _, rfl⟩
  · cases h

/-! ### literals -/
/-- parts, each at its place -/
def fillL (place : Nat → Option (Nat × Nat)) (cells : List Sc) : List (Nat × AV) → Option (List Sc × Prop)
  | [] => some (cells, True)
  | (i, v) :: rest => match place i with
    | none => none
    | some (off, size) => if v.cells.all Sc.nojunk then (fillL place (splL cells off v.cells) rest).map fun p => (p.1, (v.cells.length = size ∧ off + size ≤ cells.length) ∧ p.2) else none

theorem zipIdx_fold (off : Nat) : ∀ (vs : List Value) (k : Nat) (cs : Array Value), (vs.zipIdx k).foldl (fun cs (p : Value × Nat) => cs.setIfInBounds (off + p.2) p.1) cs = splA cs (off + k) vs
  | [], _, _ => rfl
  | v :: r, k, cs => by
    rw [List.zipIdx_cons, List.foldl_cons, splA, zipIdx_fold off r (k + 1)]
    rfl

theorem fillL_ok {place : Nat → Option (Nat × Nat)} : ∀ (parts : List (Nat × AV)) (vals : List (Nat × Value)) (cells : List Sc) (cs : Array Value) (q : List Sc × Prop),
    fillL place cells parts = some q → q.2 → relAll φ m cells cs.toList → vals.length = parts.length →
    (∀ (j : Nat) (p : Nat × AV), parts[j]? = some p → ∃ V : Value, vals[j]? = some (p.1, V) ∧ p.2.rel φ m V) →
    ∃ cs' : Array Value, Instr.fill place cs vals = some cs' ∧ relAll φ m q.1 cs'.toList
  | [], vals, cells, cs, q, h, hq, hr, hl, hv => by
    simp [fillL] at h
    subst h
    have : vals = [] := List.eq_nil_of_length_eq_zero hl
    subst this
    exact ⟨cs, rfl, hr⟩
  | (i, v) :: rest, vals, cells, cs, q, h, hq, hr, hl, hv => by
    cases vals with
    | nil => simp at hl
    | cons u us =>
      obtain ⟨V, h1, h2⟩ := hv 0 (i, v) rfl
      simp at h1
      subst h1
      simp only [fillL] at h
      cases hp : place i with
      | none => simp [hp] at h
      | some p =>
        obtain ⟨off, size⟩ := p
        simp only [hp] at h
        split at h
        · rename_i hj
          cases hf : fillL place (splL cells off v.cells) rest with
          | none => simp [hf] at h
          | some p2 =>
            simp [hf] at h
            subst h
            obtain ⟨⟨o1, o2⟩, o3⟩ := hq
            obtain ⟨hcell, _⟩ := AV.rel_cells h2 hj
            have hs := relAll_spl v.cells V.cells.toList cells cs off hcell hr
            have hsz : V.cells.size = size := by have := hcell.1; simp at this; omega
            have hcs : cs.size = cells.length := by have := hr.1; simpa using this
            obtain ⟨cs', g1, g2⟩ := fillL_ok rest us (splL cells off v.cells) (splA cs off V.cells.toList) p2 hf o3 hs (by simpa using hl) (fun j p hj => by
              have := hv (j + 1) p (by simpa using hj)
              simpa using this)
            refine ⟨cs', ?_, g2⟩
            simp only [Instr.fill, hp]
            rw [if_neg (by simp [hsz]; omega)]
            rw [← g1]
            congr 1
            have := zipIdx_fold off V.cells.toList 0 cs
            simp only [Nat.add_zero] at this
            rw [← this, ← Array.foldl_toList]
            congr 1
            simp
        · cases h

def stPlace (T : Tab) (fs : List (Nat × TypeId)) (i : Nat) : Option (Nat × Nat) :=
  match fs[i]? with
  | some p => (lookN p.2 T).map fun x => (p.1, x.size)
  | none => none

def evBuild (T : Tab) (t : TypeId) (parts : List (Nat × AV)) : Option Res :=
  match lookN t T with
  | some ⟨.struct fs, _, _, zero⟩ => if fs.all (fun p => (lookN p.2 T).isSome) then (fillL (stPlace T fs) (zero.map .d) parts).map fun p => ⟨.one (.agg p.1), [], false, [], p.2⟩ else none
  | some ⟨.array _ e, _, _, zero⟩ => (match lookN e T with
      | some te => (fillL (fun i => some (i * te.size, te.size)) (zero.map .d) parts).map fun p => ⟨.one (.agg p.1), [], false, [], p.2⟩
      | none => none)
  | _ => none

theorem run_placesT {T : Tab} (hT : TabOk P T) : ∀ (fs : List Field), (fs.all fun f => (lookN f.type T).isSome) = true →
    ∃ l : List (Nat × Nat), Sem.run P (fs.mapM fun (f : Field) => do pure (f.offset, ← sizeOf f.type)) W = .ok l W ∧ ∀ i : Nat, l[i]? = (fs[i]?).bind fun (f : Field) => (lookN f.type T).map fun x => (f.offset, x.size)
  | [], _ => ⟨[], by simp, by simp⟩
  | g :: gs, h => by
    simp only [List.all_cons, Bool.and_eq_true] at h
    obtain ⟨l, h1, h2⟩ := run_placesT hT gs h.2
    cases hx : lookN g.type T with
    | none => simp [hx] at h
    | some x =>
      refine ⟨(g.offset, x.size) :: l, ?_, fun i => ?_⟩
      · rw [List.mapM_cons]
        simp only [Sem.run_bind, run_sizeOf' (hT.at hx), Result.andThen, Sem.run_pure, h1]
      · cases i with
        | zero => simp [hx]
        | succ i => simpa using h2 i

theorem evBuild_ok {T : Tab} (hT : TabOk P T) {t : TypeId} {parts : List (Nat × AV)} {vals : List (Nat × Value)} {r : Res} (h : evBuild T t parts = some r) (hob : r.ob) (hc : RelC c φ m f a W)
    (hl : vals.length = parts.length) (hv : ∀ (j : Nat) (p : Nat × AV), parts[j]? = some p → ∃ V : Value, vals[j]? = some (p.1, V) ∧ p.2.rel φ m V) :
    Gives P (Instr.build t vals.toArray) c φ m f a W r := by
  unfold evBuild at h
  split at h
  · rename_i fs sz by_ zero ht
    split at h
    · rename_i hall
      cases hf : fillL (stPlace T fs) (zero.map .d) parts with
      | none => rw [hf] at h; cases h
      | some q =>
        rw [hf] at h
        injection h with h
        subst h
        obtain ⟨d, hu, hk⟩ := (hT.at ht).und'
        obtain ⟨gs, rfl, hgs⟩ := kindOf_struct hk
        obtain ⟨l, hl1, hl2⟩ := run_placesT (P := P) (W := W) hT gs.toList (by rw [hgs] at hall; simpa [List.all_map] using hall)
        have hplace : stPlace T fs = (l.toArray[·]?) := by
          funext i
          unfold stPlace
          rw [List.getElem?_toArray, hl2 i, hgs, List.getElem?_map]
          cases gs.toList[i]? <;> rfl
        rw [hplace] at hf
        obtain ⟨cs', g1, g2⟩ := fillL_ok parts vals (zero.map .d) (zero.map D.val).toArray q hf hob (zero_rel (hT.at ht) φ m) hl hv
        refine ⟨φ, m, W, .agg cs', hc, NamesLe.refl φ, MemLe.refl m, ?_, cs'.toList, by simp, g2⟩
        have hm : Sem.run P (gs.mapM fun f => do pure (f.offset, ← sizeOf f.type)) W = .ok l.toArray W := by
          rw [Array.mapM_eq_mapM_toList]
          rw [map_eq_pure_bind]
          simp only [Sem.run_bind, hl1, Result.andThen]
          rfl
        simp only [Instr.build, Sem.run_bind, run_zero' (hT.at ht), Result.andThen, run_underlying hu, hm, zeroVal_cells (hT.at ht)]
        rw [g1]
        rfl
    · cases h
  · rename_i n e sz by_ zero ht
    split at h
    · rename_i te hte
      cases hf : fillL (fun i => some (i * te.size, te.size)) (zero.map .d) parts with
      | none => rw [hf] at h; cases h
      | some q =>
        rw [hf] at h
        injection h with h
        subst h
        have hu := (hT.at ht).desc (d := .array n e) (fun d' hd => kindOf_array hd)
        obtain ⟨cs', g1, g2⟩ := fillL_ok parts vals (zero.map .d) (zero.map D.val).toArray q hf hob (zero_rel (hT.at ht) φ m) hl hv
        refine ⟨φ, m, W, .agg cs', hc, NamesLe.refl φ, MemLe.refl m, ?_, cs'.toList, by simp, g2⟩
        simp only [Instr.build, Sem.run_bind, run_zero' (hT.at ht), Result.andThen, run_underlying hu, run_sizeOf' (hT.at hte), zeroVal_cells (hT.at ht)]
        rw [g1]
        rfl
    · cases h
  · cases h

/-! ### a row that becomes a value -/
theorem freeze_row (hc : RelC c φ m f a W) {j e : Nat} {es : List (List D)} {ty : TypeId} {len : Nat} {cap : Option Nat} (hj : f (.h j) = .o (.row es ty)) (hl : len = es.length) {X : Value} (hx : (Sc.row j e 0 len cap).rel φ m X) :
    ∃ m', RelC c φ m' (upd f (.h j) .none) a W ∧ MemLe m m' ∧ (D.slice none e es).rel m' X := by
  rcases hx with ⟨h1, _, h2, _, rfl⟩ | ⟨b, C, ad, k, h1, rfl, h3, h4, h5, h6⟩
  · refine ⟨m, hc.kill _, MemLe.refl m, ?_⟩
    unfold D.rel
    have : es = [] := List.eq_nil_of_length_eq_zero (by omega)
    exact .inl ⟨this, by simp, rfl⟩
  · obtain ⟨cs, fr, g2, g3, g4, g5, g6, g7, g8, _⟩ := row_cell hc hj h1
    have hf := hc.freeze hj h1 g2
    have hm : MemLe m (fun k => if k = b then some (.cells cs ty fr) else m k) := by
      have hown := hc.own j _ b C e hj h1
      intro k o1 hk
      by_cases ek : k = b
      · subst ek; rw [hown.2.1] at hk; cases hk
      · simp only [if_neg ek]; exact hk
    refine ⟨_, hf, hm, ?_⟩
    simp only [D.rel]
    refine .inr ⟨by simp, ad, k, by rw [hl], by omega, g7, fun hne => ?_⟩
    have hk0 : k ≠ 0 := by
      have : 0 < es.length := List.length_pos_iff.2 hne
      omega
    rw [h6.1 hk0]
    refine ⟨rfl, ?_⟩
    rw [relRows_iff, relCells_iff]
    intro i d hi
    obtain ⟨v, q1, q2⟩ := g8 i d hi
    refine ⟨v, ?_, D.rel_le hm d v q2⟩
    simp [memCell, q1]

structure Frz where
  d : D
  kill : Option (Nat × AObj)
  ob : Prop

def frz (H : Heap) : Sc → Option Frz
  | .d x => some ⟨x, none, True⟩
  | .row j e off len none => (match H j with
    | some (.row es ty) => some ⟨.slice none e es, some (j, .row es ty), off = 0 ∧ len = es.length⟩
    | _ => none)
  | _ => none

def frzL (H : Heap) : List Sc → Option (List Frz)
  | [] => some []
  | x :: r => (frz H x).bind fun a => (frzL H r).map (a :: ·)

def kills (l : List Frz) : List (Nat × AObj) := l.filterMap (·.kill)
def killW (l : List (Nat × AObj)) : List (Nat × Ent) := l.map fun p => (p.1, .none)

theorem wrApp_ne {l : List (Nat × Ent)} {i : Nat} (h : ∀ p ∈ l, p.1 ≠ i) (f : StF) : wrApp l f (.h i) = f (.h i) := by
  induction l with
  | nil => rfl
  | cons p l ih =>
    rw [wrApp_cons, upd_other (by have := h p (List.mem_cons_self ..); simpa using fun e => this e.symm)]
    exact ih (fun q hq => h q (List.mem_cons_of_mem _ hq))

theorem frzL_ok {H : Heap} : ∀ (xs : List Sc) (l : List Frz) (vs : List Value) (m : Mem), frzL H xs = some l → (∀ z ∈ l, z.ob) → (∀ p ∈ kills l, f (.h p.1) = .o p.2) → ((kills l).map (·.1)).Nodup →
    relAll φ m xs vs → RelC c φ m f a W → ∃ m', RelC c φ m' (wrApp (killW (kills l)) f) a W ∧ MemLe m m' ∧ relAll φ m' (l.map fun z => Sc.d z.d) vs
  | [], l, vs, m, h, _, _, _, hr, hc => by
    simp [frzL] at h
    subst h
    exact ⟨m, hc, MemLe.refl m, hr⟩
  | x :: r, l, vs, m, h, hob, hk, hn, hr, hc => by
    simp only [frzL] at h
    cases hx : frz H x with
    | none => simp [hx] at h
    | some z =>
      cases hl : frzL H r with
      | none => simp [hx, hl] at h
      | some l' =>
        simp [hx, hl] at h
        subst h
        cases vs with
        | nil => have := hr.1; simp at this
        | cons v vs =>
          have hr' : relAll φ m r vs := ⟨by have := hr.1; simpa using this, fun j y hj => by have := hr.2 (j + 1) y (by simpa using hj); simpa using this⟩
          have hv : x.rel φ m v := by obtain ⟨v', h1, h2⟩ := hr.2 0 x rfl; simp at h1; subst h1; exact h2
          have hsub : kills l' ⊆ kills (z :: l') := by
            intro p hp
            simp only [kills, List.filterMap_cons] at hp ⊢
            split
            · exact hp
            · exact List.mem_cons_of_mem _ hp
          have hn' : ((kills l').map (·.1)).Nodup := by
            refine hn.sublist ?_
            simp only [kills, List.filterMap_cons]
            split
            · exact List.Sublist.refl _
            · exact List.sublist_cons_self _ _
          obtain ⟨m1, c1, le1, rel1⟩ := frzL_ok r l' vs m hl (fun y hy => hob y (List.mem_cons_of_mem _ hy)) (fun p hp => hk p (hsub hp)) hn' hr' hc
          have hzob := hob z (List.mem_cons_self ..)
          have hv1 := Sc.rel_le (NamesLe.refl φ) le1 x v hv
          unfold frz at hx
          split at hx
          · simp at hx
            subst hx
            refine ⟨m1, c1, le1, by simp [rel1.1], fun j y hj => ?_⟩
            cases j with
            | zero => simp at hj; subst hj; exact ⟨v, rfl, hv1⟩
            | succ j => simpa using rel1.2 j y (by simpa using hj)
          · rename_i j e off len
            split at hx
            · rename_i es ty hH
              simp at hx
              subst hx
              simp only at hzob
              obtain ⟨rfl, hlen⟩ := hzob
              have hj : wrApp (killW (kills l')) f (.h j) = .o (.row es ty) := by
                rw [wrApp_ne]
                · exact hk (j, _) (by simp [kills])
                · intro p hp he
                  simp only [kills, List.filterMap_cons, List.map_cons, List.nodup_cons] at hn
                  apply hn.1
                  simp only [killW, List.mem_map] at hp
                  obtain ⟨q, hq, rfl⟩ := hp
                  simp only at he
                  rw [← he]
                  exact List.mem_map.2 ⟨q, hq, rfl⟩
              obtain ⟨m2, c2, le2, rel2⟩ := freeze_row c1 hj hlen hv1
              refine ⟨m2, ?_, le1.trans le2, by simp [rel1.1], fun k y hk' => ?_⟩
              · simp only [kills, List.filterMap_cons, killW, List.map_cons]
                rw [wrApp_cons]
                exact c2
              · cases k with
                | zero => simp at hk'; subst hk'; exact ⟨v, rfl, rel2⟩
                | succ k =>
                  have := relAll_le (NamesLe.refl φ) le2 rel1
                  simpa using this.2 k y (by simpa using hk')
            · cases hx
          · cases hx

end
end Go.Proofs.Hg

/- Slice literals, places of fields and elements, cuts, lengths, conversions. -/
set_option linter.unusedVariables false
set_option linter.unusedSimpArgs false
namespace Go.Proofs.Hg
open Go.RowKit

section
variable {P : Program} {c : Ctx} {φ : Names} {m : Mem} {f : StF} {a : Act} {W : World}

/-! ### slice literals -/
def chunksD (e : Nat) : Nat → List D → List (List D)
  | 0, _ => []
  | n + 1, ds => ds.take e :: chunksD e n (ds.drop e)

theorem chunksD_len (e : Nat) : ∀ (n : Nat) (ds : List D), (chunksD e n ds).length = n
  | 0, _ => rfl
  | n + 1, ds => by simp [chunksD, chunksD_len e n]

theorem chunksD_mem {e : Nat} : ∀ (n : Nat) (ds : List D), ds.length = n * e → ∀ r ∈ chunksD e n ds, r.length = e
  | 0, _, _, r, h => by simp [chunksD] at h
  | n + 1, ds, hl, r, h => by
    simp only [chunksD, List.mem_cons] at h
    rw [Nat.succ_mul] at hl
    rcases h with rfl | h
    · simp; omega
    · exact chunksD_mem n _ (by simp; omega) r h

theorem chunksD_flat {e : Nat} : ∀ (n : Nat) (ds : List D), ds.length = n * e → (chunksD e n ds).flatten = ds
  | 0, ds, h => by simp at h; simp [chunksD, h]
  | n + 1, ds, hl => by
    rw [Nat.succ_mul] at hl
    simp only [chunksD, List.flatten_cons]
    rw [chunksD_flat n _ (by simp; omega), List.take_append_drop]

theorem splA_toList : ∀ (vs : List Value) (cs : Array Value) (o : Nat), o + vs.length ≤ cs.size → (splA cs o vs).toList = cs.toList.take o ++ vs ++ cs.toList.drop (o + vs.length)
  | [], cs, o, h => by simp [splA]
  | v :: r, cs, o, h => by
    simp only [List.length_cons] at h
    rw [splA, splA_toList r (cs.setIfInBounds o v) (o + 1) (by simp; omega)]
    apply List.ext_getElem?
    intro j
    have hl : cs.toList.length = cs.size := by simp
    simp only [Array.toList_setIfInBounds, List.getElem?_append, List.length_append, List.length_take, List.length_set, hl, List.length_cons, List.getElem?_take, List.getElem?_drop, List.getElem?_set]
    have h1 : min (o + 1) cs.size = o + 1 := by omega
    have h2 : min o cs.size = o := by omega
    rw [h1, h2]
    by_cases c1 : j < o
    · simp [c1, show j < o + 1 by omega, show j < o + 1 + r.length by omega, show j < o + (r.length + 1) by omega, show ¬ o = j by omega]
    · by_cases c2 : j = o
      · subst c2
        simp [show j < cs.size by omega, show j < j + 1 + r.length by omega]
      · by_cases c3 : j < o + 1 + r.length
        · simp only [show ¬ j < o + 1 by omega, c3, if_true, if_false, show j < o + (r.length + 1) by omega, c1]
          rw [show j - o = (j - (o + 1)) + 1 by omega, List.getElem?_cons_succ]
        · simp only [c3, if_false, show ¬ j < o + (r.length + 1) by omega]
          rw [if_neg (by omega)]
          congr 1
          omega

theorem fill_seq {e : Nat} : ∀ (vals : List (Nat × Value)) (k : Nat) (cs : Array Value), (∀ (j : Nat) (p : Nat × Value), vals[j]? = some p → p.1 = k + j) → (∀ p ∈ vals, p.2.cells.size = e) →
    (k + vals.length) * e = cs.size → ∃ cs', Instr.fill (fun i => some (i * e, e)) cs vals = some cs' ∧ cs'.toList = cs.toList.take (k * e) ++ vals.flatMap fun p => p.2.cells.toList
  | [], k, cs, _, _, h => by
    refine ⟨cs, rfl, ?_⟩
    simp at h
    simp only [h, List.flatMap_nil, List.append_nil]
    rw [List.take_of_length_le (by simp)]
  | (i, v) :: r, k, cs, hi, hv, h => by
    have h0 := hi 0 (i, v) rfl
    simp at h0
    subst h0
    have hsz := hv (i, v) (List.mem_cons_self ..)
    simp only at hsz
    simp only [List.length_cons] at h
    have hin : i * e + e ≤ cs.size := by
      rw [← h]
      have : (i + 1) * e ≤ (i + (r.length + 1)) * e := Nat.mul_le_mul_right _ (by omega)
      rwa [Nat.succ_mul] at this
    have hfold : v.cells.zipIdx.foldl (fun cs (x : Value × Nat) => cs.setIfInBounds (i * e + x.2) x.1) cs = splA cs (i * e) v.cells.toList := by
      have := zipIdx_fold (i * e) v.cells.toList 0 cs
      simp only [Nat.add_zero] at this
      rw [← this, ← Array.foldl_toList]
      congr 1
      simp
    obtain ⟨cs', g1, g2⟩ := fill_seq r (i + 1) (splA cs (i * e) v.cells.toList) (fun j p hj => by have := hi (j + 1) p (by simpa using hj); omega)
      (fun p hp => hv p (List.mem_cons_of_mem _ hp)) (by rw [splA_size, ← h]; congr 1; omega)
    refine ⟨cs', ?_, ?_⟩
    · simp only [Instr.fill]
      rw [if_neg (by simp [hsz]; omega)]
      rw [hfold]
      exact g1
    · rw [g2, splA_toList _ _ _ (by simp [hsz]; omega)]
      simp only [List.flatMap_cons]
      have h1 : (cs.toList.take (i * e) ++ v.cells.toList).length = (i + 1) * e := by simp [hsz, Nat.succ_mul]; omega
      rw [List.take_append_of_le_length (by omega), List.take_of_length_le (by omega), List.append_assoc]

def evBuildSlice (T : Tab) (fresh : Nat) (H : Heap) (t : TypeId) (len : Nat) (parts : List (Nat × AV)) : Option Res :=
  match lookN t T with
  | some ⟨.slice e, _, _, _⟩ => (match lookN e T with
    | some te => if (parts.map (·.1) == List.range len) && parts.all (fun p => p.2.cells.all Sc.nojunk && p.2.cells.length == te.size) then
        (frzL H (parts.flatMap fun p => p.2.cells)).map fun zs =>
          ⟨.one (.s (.row fresh te.size 0 len none)), kills zs, true, (fresh, .o (.row (chunksD te.size len (zs.map (·.d))) e)) :: killW (kills zs),
            (∀ z ∈ zs, z.ob) ∧ ((kills zs).map (·.1)).Nodup ∧ len * te.size ≤ 16777216 ∧ len ≤ 16777216⟩
      else none
    | none => none)
  | _ => none

theorem relAll_append {xs ys : List Sc} {us vs : List Value} (h : relAll φ m xs us) (k : relAll φ m ys vs) : relAll φ m (xs ++ ys) (us ++ vs) := by
  refine ⟨by simp [h.1, k.1], fun j x hj => ?_⟩
  rw [List.getElem?_append] at hj ⊢
  rw [h.1]
  split
  · rename_i hl; rw [if_pos hl] at hj; exact h.2 j x hj
  · rename_i hl; rw [if_neg hl] at hj; exact k.2 _ x hj

theorem parts_rel : ∀ (parts : List (Nat × AV)) (vals : List (Nat × Value)), vals.length = parts.length → (∀ (j : Nat) (p : Nat × AV), parts[j]? = some p → ∃ V : Value, vals[j]? = some (p.1, V) ∧ p.2.rel φ m V) →
    (∀ p ∈ parts, p.2.cells.all Sc.nojunk = true) → relAll φ m (parts.flatMap fun p => p.2.cells) (vals.flatMap fun p => p.2.cells.toList)
  | [], vals, hl, _, _ => by
    have : vals = [] := List.eq_nil_of_length_eq_zero hl
    subst this
    exact ⟨rfl, fun j x hj => by simp at hj⟩
  | p :: ps, vals, hl, hv, hj => by
    cases vals with
    | nil => simp at hl
    | cons u us =>
      obtain ⟨V, h1, h2⟩ := hv 0 p rfl
      simp at h1
      subst h1
      simp only [List.flatMap_cons]
      exact relAll_append (AV.rel_cells h2 (hj p (List.mem_cons_self ..))).1
        (parts_rel ps us (by simpa using hl) (fun j q hq => by have := hv (j + 1) q (by simpa using hq); simpa using this) (fun q hq => hj q (List.mem_cons_of_mem _ hq)))

theorem evBuildSlice_ok {T : Tab} (hT : TabOk P T) {fresh : Nat} {H : Heap} {t : TypeId} {len : Nat} {parts : List (Nat × AV)} {vals : List (Nat × Value)} {r : Res} (h : evBuildSlice T fresh H t len parts = some r) (hob : r.ob)
    (hrd : r.Reads fresh f) (hc : RelC c φ m f a W) (hl : vals.length = parts.length) (hv : ∀ (j : Nat) (p : Nat × AV), parts[j]? = some p → ∃ V : Value, vals[j]? = some (p.1, V) ∧ p.2.rel φ m V) :
    Gives P (Instr.buildSlice t len vals.toArray) c φ m f a W r := by
  unfold evBuildSlice at h
  split at h
  · rename_i e sz by_ zero ht
    split at h
    · rename_i te hte
      split at h
      · rename_i hcond
        simp only [Bool.and_eq_true, beq_iff_eq, List.all_eq_true] at hcond
        obtain ⟨hidx, hall⟩ := hcond
        cases hf : frzL H (parts.flatMap fun p => p.2.cells) with
        | none => simp [hf] at h
        | some zs =>
          simp [hf] at h
          subst h
          obtain ⟨o1, o2, o3, o4⟩ := hob
          have hrel := parts_rel parts vals hl hv (fun p hp => by rw [List.all_eq_true]; exact (hall p hp).1)
          obtain ⟨m1, c1, le1, rel1⟩ := frzL_ok _ zs _ m hf o1 (fun p hp => hrd.1 p hp) o2 hrel hc
          have hu := (hT.at ht).desc (d := .slice e) (fun d' hd => kindOf_slice hd)
          have hlen : parts.length = len := by have := congrArg List.length hidx; simpa using this
          have hvl : vals.length = len := by omega
          -- the cells
          have hsz : ∀ p ∈ vals, p.2.cells.size = te.size := by
            intro p hp
            obtain ⟨j, hj1, hj2⟩ := List.getElem_of_mem hp
            obtain ⟨V, g1, g2⟩ := hv j parts[j] (List.getElem?_eq_getElem (by omega))
            rw [List.getElem?_eq_getElem hj1] at g1
            injection g1 with g1
            rw [← hj2, g1]
            have hq := hall parts[j] (List.getElem_mem _)
            have := (AV.rel_cells g2 (by rw [List.all_eq_true]; exact hq.1)).1.1
            simp at this
            rw [this]
            exact hq.2
          have hpos : ∀ (j : Nat) (p : Nat × Value), vals[j]? = some p → p.1 = 0 + j := by
            intro j p hj
            have hjl := (List.getElem?_eq_some_iff.1 hj).1
            obtain ⟨V, g1, g2⟩ := hv j parts[j] (List.getElem?_eq_getElem (by omega))
            rw [hj] at g1
            injection g1 with g1
            have h3 : (parts.map (·.1))[j]? = (List.range len)[j]? := by rw [hidx]
            rw [List.getElem?_map, List.getElem?_eq_getElem (by omega), List.getElem?_range (by omega)] at h3
            simp at h3
            rw [g1]
            simp [h3]
          have hfill : ∀ cs : Array Value, cs.size = len * te.size → ∃ cs', Instr.fill (fun i => some (i * te.size, te.size)) cs vals = some cs' ∧ cs'.toList = vals.flatMap fun p => p.2.cells.toList := by
            intro cs hcs
            obtain ⟨cs', g1, g2⟩ := fill_seq vals 0 cs hpos hsz (by rw [hcs, hvl]; simp)
            exact ⟨cs', g1, by simpa using g2⟩
          have hflat : (vals.flatMap fun p => p.2.cells.toList).length = len * te.size := by
            have g := (parts_rel parts vals hl hv (fun p hp => by rw [List.all_eq_true]; exact (hall p hp).1)).1
            have : ∀ (l : List (Nat × Value)), (∀ p ∈ l, p.2.cells.size = te.size) → (l.flatMap fun p => p.2.cells.toList).length = l.length * te.size := by
              intro l
              induction l with
              | nil => intro _; simp
              | cons p l ih =>
                intro hp
                have h1 := hp p (List.mem_cons_self ..)
                rw [List.flatMap_cons, List.length_append, ih (fun q hq => hp q (List.mem_cons_of_mem _ hq))]
                simp [h1, Nat.succ_mul]
                omega
            rw [this vals hsz, hvl]
          have hzl : zs.length = len * te.size := by have := rel1.1; simp at this hflat; omega
          let cs0 : Array Value := (Array.range (len * te.size)).map fun i => (if len * te.size = 0 then (#[] : Array Value) else te.zeroVal.cells)[i % (if len * te.size = 0 then (#[] : Array Value) else te.zeroVal.cells).size]!
          obtain ⟨cs', g1, g2⟩ := hfill cs0 (by simp [cs0])
          have hcsz : cs'.size = len * te.size := by rw [← Array.length_toList, g2, hflat]
          have hfree : wrApp (killW (kills zs)) f (.h fresh) = .free := by
            rw [wrApp_ne]
            · exact hrd.2 rfl
            · intro p hp he
              simp only [killW, List.mem_map] at hp
              obtain ⟨q, hq, rfl⟩ := hp
              simp only at he
              have h1 := hrd.1 q hq
              have h2 := hrd.2 rfl
              rw [he, h2] at h1
              cases h1
          have hn := c1.free _ hfree
          have hp : NamesLe φ (updN φ fresh (.blk W.heap.size len te.size)) := updN_le _ hn
          refine ⟨updN φ fresh (.blk W.heap.size len te.size), m1, W.alloc (.cells cs' e), .slice (some ⟨W.heap.size, 0, none⟩) len len, ?_, hp, le1, ?_, ?_⟩
          · rw [wrApp_cons]
            refine c1.alloc hfree (.inr ⟨W.heap.size, len, te.size, cs', (0, 0), updN_self _ _ _, heap_new _ _, FrOk.zero _, hcsz, by rw [chunksD_len]; omega, by omega, chunksD_mem _ _ (by simp [hzl]), ?_⟩)
            intro j d hj
            rw [chunksD_flat _ _ (by simp [hzl])] at hj
            obtain ⟨v, q1, q2⟩ := rel1.2 j (.d d) (by rw [List.getElem?_map] at hj ⊢; cases hz : zs[j]? <;> simp_all)
            exact ⟨v, by rw [← g2] at q1; simpa using q1, q2⟩
          · unfold Instr.buildSlice
            simp only [Sem.run_bind, run_underlying hu, Result.andThen, run_sizeOf' (hT.at hte)]
            rw [if_neg (by omega)]
            by_cases hz : len * te.size = 0
            · have hcs0 : cs0 = (Array.range (len * te.size)).map fun i => (#[] : Array Value)[i % (#[] : Array Value).size]! := by simp [cs0, hz]
              rw [hcs0] at g1
              simp only [hz, if_true, Sem.run_pure, Sem.run_bind, Result.andThen]
              rw [hz] at g1
              rw [g1]
              simp [newRow]
            · have hcs0 : cs0 = (Array.range (len * te.size)).map fun i => te.zeroVal.cells[i % te.zeroVal.cells.size]! := by simp [cs0, hz]
              rw [hcs0] at g1
              simp only [hz, if_false, Sem.run_pure, Sem.run_bind, Result.andThen, run_zero' (hT.at hte)]
              rw [g1]
              simp [newRow]
          · refine .inr ⟨W.heap.size, len, ⟨W.heap.size, 0, none⟩, len, updN_self _ _ _, rfl, by simp, by omega, Nat.le_refl _, fun _ => by simp, rfl⟩
      · cases h
    · cases h
  · cases h

end
end Go.Proofs.Hg

/- Places of fields and elements, cuts, lengths. -/
set_option linter.unusedVariables false
set_option linter.unusedSimpArgs false
namespace Go.Proofs.Hg
open Go.RowKit

section
variable {P : Program} {c : Ctx} {φ : Names} {m : Mem} {f : StF} {a : Act} {W : World}

def valRes (v : AV) (ob : Prop) : Res := ⟨.one v, [], false, [], ob⟩

theorem gives_val (h : RelC c φ m f a W) {s : Sem Value} {V : Value} (hs : s.run P W = .ok V W) {v : AV} (hv : v.rel φ m V) {ob : Prop} : Gives P s c φ m f a W (valRes v ob) :=
  ⟨φ, m, W, V, h, NamesLe.refl φ, MemLe.refl m, hs, hv⟩

/-! ### fields -/
def evFieldAddr (T : Tab) (t : TypeId) (p : AV) (fld : Nat) : Option Res :=
  match lookN t T with
  | some ⟨.struct fs, _, _, _⟩ => (match fs[fld]? with
    | some q => (match lookN q.2 T with
      | some tf => if tf.size = 0 then none else (match p with
        | .s (.ptr i off) => some (valRes (.s (.ptr i (off + q.1))) True)
        | .s (.eptr i k fo) => some (valRes (.s (.eptr i k (fo + q.1))) True)
        | .s (.d (.ptr cs)) => some (valRes (dv (.ptr (cs.drop q.1))) True)
        | _ => none)
      | none => none)
    | none => none)
  | _ => none

theorem relCells_drop {cs : List D} {b o : Nat} (h : D.relCells m cs b o) (k : Nat) : D.relCells m (cs.drop k) b (o + k) := by
  rw [relCells_iff] at h ⊢
  intro i d hi
  rw [List.getElem?_drop] at hi
  obtain ⟨v, h1, h2⟩ := h _ d hi
  exact ⟨v, by rw [← h1]; congr 1; omega, h2⟩

theorem evFieldAddr_ok {T : Tab} (hT : TabOk P T) {t : TypeId} {p : AV} {fld : Nat} {r : Res} (h : evFieldAddr T t p fld = some r) (hc : RelC c φ m f a W) {X : Value} (hx : p.rel φ m X) :
    Gives P (Instr.fieldAt t X fld) c φ m f a W r := by
  unfold evFieldAddr at h
  split at h
  · rename_i fs _ _ _ ht
    split at h
    · rename_i q hq
      split at h
      · rename_i tf htf
        split at h
        · cases h
        · rename_i hsz
          obtain ⟨d, hu, hk⟩ := (hT.at ht).und'
          obtain ⟨gs, rfl, hgs⟩ := kindOf_struct hk
          have hg : ∃ g, gs[fld]? = some g ∧ g.offset = q.1 ∧ g.type = q.2 := by
            rw [hgs, List.getElem?_map] at hq
            cases hgf : gs.toList[fld]? with
            | none => simp [hgf] at hq
            | some g => simp [hgf] at hq; exact ⟨g, by simpa using hgf, by rw [← hq], by rw [← hq]⟩
          obtain ⟨g, hg1, hg2, hg3⟩ := hg
          have hrun : ∀ b o, (Instr.fieldAt t (.pointer (some ⟨b, o, none⟩)) fld).run P W = .ok (.pointer (some ⟨b, o + q.1, none⟩)) W := by
            intro b o
            simp only [Instr.fieldAt, Sem.run_bind, run_underlying hu, Result.andThen, hg1, Instr.sureAddr, Sem.run_pure, fieldPlace]
            rw [hg3, run_sizeOf' (hT.at htf)]
            simp only [hsz, if_false, Sem.run_pure, addr_add, hg2]
          split at h <;> simp only [Option.some.injEq, reduceCtorEq] at h <;> subst h
          · obtain ⟨b, C, e, hb, rfl⟩ := hx
            refine gives_val hc (hrun b _) ?_
            exact ⟨b, C, e, hb, rfl⟩
          · rename_i i k fo
            obtain ⟨b, C, e, hb, rfl⟩ := hx
            refine gives_val hc (hrun b _) ?_
            refine ⟨b, C, e, hb, ?_⟩
            rw [Nat.add_assoc]
          · simp only [AV.rel, Sc.rel, D.rel] at hx
            obtain ⟨b, o, rfl, hcs⟩ := hx
            refine gives_val hc (hrun b o) ?_
            simp only [AV.rel, Sc.rel, D.rel]
            exact ⟨b, o + q.1, rfl, relCells_drop hcs _⟩
      · cases h
    · cases h
  · cases h

def evField (T : Tab) (t : TypeId) (p : AV) (fld : Nat) : Option Res :=
  match lookN t T, p with
  | some ⟨.struct fs, _, _, _⟩, .agg xs => (match fs[fld]? with
    | some q => (match lookN q.2 T with
      | some tf => if tf.kind.agg then some (valRes (.agg ((xs.drop q.1).take tf.size)) True) else some (valRes (.s (xs.getD q.1 .junk)) (q.1 < xs.length))
      | none => none)
    | none => none)
  | _, _ => none

theorem evField_ok {T : Tab} (hT : TabOk P T) {t : TypeId} {p : AV} {fld : Nat} {r : Res} (h : evField T t p fld = some r) (hob : r.ob) (hc : RelC c φ m f a W) {X : Value} (hx : p.rel φ m X) :
    Gives P (Instr.field t X fld) c φ m f a W r := by
  unfold evField at h
  split at h
  · rename_i fs _ _ _ xs ht
    obtain ⟨vs, rfl, hvs⟩ := hx
    split at h
    · rename_i q hq
      split at h
      · rename_i tf htf
        obtain ⟨d, hu, hk⟩ := (hT.at ht).und'
        obtain ⟨gs, rfl, hgs⟩ := kindOf_struct hk
        have hg : ∃ g, gs[fld]? = some g ∧ g.offset = q.1 ∧ g.type = q.2 := by
          rw [hgs, List.getElem?_map] at hq
          cases hgf : gs.toList[fld]? with
          | none => simp [hgf] at hq
          | some g => simp [hgf] at hq; exact ⟨g, by simpa using hgf, by rw [← hq], by rw [← hq]⟩
        obtain ⟨g, hg1, hg2, hg3⟩ := hg
        split at h
        · rename_i hag
          injection h with h
          subst h
          refine gives_val hc (V := .agg ((vs.drop q.1).take tf.size).toArray) ?_ ?_
          rotate_left
          · exact ⟨_, rfl, relAll_drop_take hvs _ _⟩
          simp only [Instr.field, Sem.run_bind, run_underlying hu, Result.andThen, hg1, asAgg, Sem.run_pure, part, hg3, run_isAgg' (hT.at htf), hag, if_true, run_sizeOf' (hT.at htf), hg2]
          congr 1
          simp [Nat.add_comm]
        · rename_i hag
          injection h with h
          subst h
          have hl : q.1 < xs.length := hob
          obtain ⟨v, h1, h2⟩ := hvs.2 q.1 xs[q.1] (List.getElem?_eq_getElem hl)
          refine gives_val hc (V := v) ?_ ?_
          · simp only [Instr.field, Sem.run_bind, run_underlying hu, Result.andThen, hg1, asAgg, Sem.run_pure, part, hg3, run_isAgg' (hT.at htf), hag, hg2]
            simp [h1]
          · simp only [AV.rel, List.getD_eq_getElem?_getD, List.getElem?_eq_getElem hl, Option.getD_some]
            exact h2
      · cases h
    · cases h
  · cases h

/-! ### elements -/
def evIndexAddr (T : Tab) (t : TypeId) (x ix : AV) : Option Res :=
  match lookN t T, ix with
  | some ⟨.slice e, _, _, _⟩, .s (.d (.int k n)) => (match lookN e T with
    | some te => (match x with
      | .s (.row i e' off len cap) => if e' = te.size then some (valRes (.s (.eptr i (off + n.toNat) 0)) (0 ≤ n ∧ n < (len : Int))) else none
      | .s (.d (.slice z e' es)) => if e' = te.size then some (valRes (dv (.ptr (es.getD n.toNat te.zero))) (0 ≤ n ∧ n < (es.length : Int))) else none
      | _ => none)
    | none => none)
  | some ⟨.array len e, _, _, _⟩, .s (.d (.int k n)) => (match lookN e T with
    | some te => (match x with
      | .s (.ptr i off) => some (valRes (.s (.ptr i (off + n.toNat * te.size))) (0 ≤ n ∧ n < (len : Int)))
      | .s (.d (.ptr cs)) => some (valRes (dv (.ptr (cs.drop (n.toNat * te.size)))) (0 ≤ n ∧ n < (len : Int)))
      | _ => none)
    | none => none)
  | _, _ => none

theorem relRows_at {es : List (List D)} {b o e : Nat} (h : D.relRows m es b o) (he : ∀ r ∈ es, r.length = e) {k : Nat} (hk : k < es.length) : D.relCells m (es.getD k []) b (o + k * e) := by
  rw [relRows_iff, relCells_iff] at h
  rw [relCells_iff]
  intro i d hi
  have hel : (es.getD k []).length = e := by
    rw [List.getD_eq_getElem?_getD, List.getElem?_eq_getElem hk]
    exact he _ (List.getElem_mem hk)
  have hil := (List.getElem?_eq_some_iff.1 hi).1
  have := flatten_at es k i he hk (by omega)
  rw [hi] at this
  obtain ⟨v, h1, h2⟩ := h _ d this
  exact ⟨v, by rw [← h1]; congr 1; omega, h2⟩

theorem evIndexAddr_ok {T : Tab} (hT : TabOk P T) {t : TypeId} {x ix : AV} {r : Res} (h : evIndexAddr T t x ix = some r) (hob : r.ob) (hc : RelC c φ m f a W) {X I : Value} (hx : x.rel φ m X) (hi : ix.rel φ m I) :
    Gives P (Instr.indexAt t X I) c φ m f a W r := by
  unfold evIndexAddr at h
  split at h
  · rename_i e _ _ _ k n ht
    simp only [AV.rel, Sc.rel, D.rel] at hi
    subst hi
    have hu := (hT.at ht).desc (d := .slice e) (fun d' hd => kindOf_slice hd)
    split at h
    · rename_i te hte
      have hrun : ∀ (ad : Addr) (len cap : Nat), 0 ≤ n ∧ n < (len : Int) → (Instr.indexAt t (.slice (some ad) len cap) (.int k n)).run P W = .ok (.pointer (some (ad.add (n.toNat * te.size)))) W := by
        intro ad len cap hb
        simp only [Instr.indexAt, Sem.run_bind, asIntOf, Sem.run_pure, Result.andThen, run_underlying hu, hb, and_self, if_true, run_sizeOf' (hT.at hte)]
      split at h
      · rename_i i e' off len cap
        split at h
        · rename_i hee
          injection h with h
          subst h
          subst hee
          obtain ⟨o1, o2⟩ := hob
          rcases hx with ⟨_, _, h0, _⟩ | ⟨b, C, ad, cc, h1, rfl, h3, h4, h5, h6⟩
          · omega
          · have : cc ≠ 0 := by omega
            rw [h6.1 this]
            refine gives_val hc (hrun _ _ _ ⟨o1, o2⟩) ?_
            refine ⟨b, C, te.size, h1, ?_⟩
            rw [addr_add, Nat.add_mul, Nat.add_zero]
        · cases h
      · rename_i z e' es
        split at h
        · rename_i hee
          injection h with h
          subst h
          subst hee
          obtain ⟨o1, o2⟩ := hob
          simp only [AV.rel, Sc.rel, D.rel] at hx
          rcases hx with ⟨rfl, _, _⟩ | ⟨_, ad, cc, rfl, h4, h5, h6⟩
          · simp at o2; omega
          · have hne : es ≠ [] := by rintro rfl; simp at o2; omega
            obtain ⟨hsp, hrow⟩ := h6 hne
            have hk : n.toNat < es.length := by omega
            obtain ⟨ab, ao, asp⟩ := ad
            simp only at hsp
            subst hsp
            refine gives_val hc (hrun _ _ _ ⟨o1, o2⟩) ?_
            rw [addr_add]
            simp only [AV.rel, Sc.rel, D.rel]
            rw [getD_dflt hk]
            exact ⟨ab, _, rfl, relRows_at hrow h5 hk⟩
        · cases h
      · cases h
    · cases h
  · rename_i len e _ _ _ k n ht
    simp only [AV.rel, Sc.rel, D.rel] at hi
    subst hi
    have hu := (hT.at ht).desc (d := .array len e) (fun d' hd => kindOf_array hd)
    split at h
    · rename_i te hte
      have hrun : ∀ (ad : Addr), 0 ≤ n ∧ n < (len : Int) → (Instr.indexAt t (.pointer (some ad)) (.int k n)).run P W = .ok (.pointer (some (ad.add (n.toNat * te.size)))) W := by
        intro ad hb
        simp only [Instr.indexAt, Sem.run_bind, asIntOf, Sem.run_pure, Result.andThen, run_underlying hu, Instr.sureAddr, hb, and_self, if_true, run_sizeOf' (hT.at hte)]
      split at h <;> simp only [Option.some.injEq, reduceCtorEq] at h <;> subst h
      · obtain ⟨b, C, e', hb, rfl⟩ := hx
        refine gives_val hc (hrun _ hob) ?_
        refine ⟨b, C, e', hb, ?_⟩
        rw [addr_add]
      · simp only [AV.rel, Sc.rel, D.rel] at hx
        obtain ⟨b, o, rfl, hcs⟩ := hx
        refine gives_val hc (hrun _ hob) ?_
        rw [addr_add]
        simp only [AV.rel, Sc.rel, D.rel]
        exact ⟨b, _, rfl, relCells_drop hcs _⟩
    · cases h
  · cases h

theorem bget (s : List UInt8) {i : Nat} (h : i < s.length) : (ByteArray.mk s.toArray)[i]? = some (s.getD i 0) := by
  have hsz : i < (ByteArray.mk s.toArray).size := by simpa [ByteArray.size] using h
  rw [getElem?_pos (ByteArray.mk s.toArray) i hsz]
  simp [List.getD_eq_getElem?_getD, List.getElem?_eq_getElem h]
  rfl

def evIndex (T : Tab) (t : TypeId) (x ix : AV) : Option Res :=
  match lookN t T, x, ix with
  | some ⟨.str, _, _, _⟩, .s (.d (.str s)), .s (.d (.int k n)) => some (valRes (dv (.int .u8 ((s.getD n.toNat 0).toNat : Int))) (0 ≤ n ∧ n < (s.length : Int)))
  | some ⟨.array len e, _, _, _⟩, .agg xs, .s (.d (.int k n)) => (match lookN e T with
    | some te => if te.kind.agg then none else if te.size = 1 then some (valRes (.s (xs.getD n.toNat .junk)) (0 ≤ n ∧ n < (len : Int) ∧ n < (xs.length : Int))) else none
    | none => none)
  | _, _, _ => none

theorem evIndex_ok {T : Tab} (hT : TabOk P T) {t : TypeId} {x ix : AV} {r : Res} (h : evIndex T t x ix = some r) (hob : r.ob) (hc : RelC c φ m f a W) {X I : Value} (hx : x.rel φ m X) (hi : ix.rel φ m I) :
    Gives P (Instr.index t X I) c φ m f a W r := by
  unfold evIndex at h
  split at h
  · rename_i s k n ht
    simp only [AV.rel, Sc.rel, D.rel] at hi hx
    subst hi; subst hx
    injection h with h
    subst h
    obtain ⟨o1, o2⟩ := hob
    have hu := (hT.at ht).desc (d := .string) (fun d' hd => kindOf_str hd)
    have hl : n.toNat < s.length := by omega
    refine gives_val hc (V := .int .u8 ((s.getD n.toNat 0).toNat : Int)) ?_ (by simp [AV.rel, Sc.rel, D.rel])
    have hb := bget s hl
    simp only [Instr.index, Sem.run_bind, asIntOf, Sem.run_pure, Result.andThen, run_underlying hu, o1, if_true, hb]
  · rename_i len e _ _ _ xs k n ht
    simp only [AV.rel, Sc.rel, D.rel] at hi
    subst hi
    obtain ⟨vs, rfl, hvs⟩ := hx
    split at h
    · rename_i te hte
      split at h
      · cases h
      · rename_i hag
        split at h
        · rename_i hsz
          injection h with h
          subst h
          obtain ⟨o1, o2, o3⟩ := hob
          have hu := (hT.at ht).desc (d := .array len e) (fun d' hd => kindOf_array hd)
          have hl : n.toNat < xs.length := by omega
          obtain ⟨v, h1, h2⟩ := hvs.2 n.toNat xs[n.toNat] (List.getElem?_eq_getElem hl)
          refine gives_val hc (V := v) ?_ ?_
          · simp only [Instr.index, Sem.run_bind, asIntOf, Sem.run_pure, Result.andThen, run_underlying hu, o1, o2, and_self, if_true, run_sizeOf' (hT.at hte), hsz, part, run_isAgg' (hT.at hte), hag, Nat.mul_one]
            simp [h1]
          · simp only [AV.rel, List.getD_eq_getElem?_getD, List.getElem?_eq_getElem hl, Option.getD_some]
            exact h2
        · cases h
    · cases h
  · cases h

end
end Go.Proofs.Hg

/- Cuts, lengths, conversions. -/
set_option linter.unusedVariables false
set_option linter.unusedSimpArgs false
namespace Go.Proofs.Hg
open Go.RowKit

section
variable {P : Program} {c : Ctx} {φ : Names} {m : Mem} {f : StF} {a : Act} {W : World}

theorem addr_block (ad : Addr) (k : Nat) : (ad.add k).block = ad.block := by unfold Addr.add; split <;> rfl

/-! ### cuts -/
def cutL {α : Type} (s : List α) : Option Int → Option Int → List α
  | none, none => s
  | some l, none => s.drop l.toNat
  | none, some h => s.take h.toNat
  | some l, some h => (s.drop l.toNat).take (h.toNat - l.toNat)

theorem cutL_eq {α : Type} (s : List α) (lo hi : Option Int) : cutL s lo hi = (s.drop (lo.getD 0).toNat).take ((hi.getD s.length).toNat - (lo.getD 0).toNat) := by
  cases lo <;> cases hi <;> simp [cutL]
  · rw [List.take_of_length_le (by simp)]

def cutOb (lo hi mx : Option Int) (len cap : Nat) : Prop :=
  0 ≤ lo.getD 0 ∧ lo.getD 0 ≤ hi.getD len ∧ hi.getD len ≤ mx.getD cap ∧ mx.getD cap ≤ cap

def bndI : Option AV → Option (Option Int)
  | none => some none
  | some (.s (.d (.int _ n))) => some (some n)
  | _ => none

def BV : Option Int → Option Value → Prop
  | none, none => True
  | some n, some (.int _ k) => k = n
  | _, _ => False

def optRel (φ : Names) (m : Mem) : Option AV → Option Value → Prop
  | none, none => True
  | some x, some v => x.rel φ m v
  | _, _ => False

theorem bndI_ok {x : Option AV} {b : Option Int} (h : bndI x = some b) {v : Option Value} (hv : optRel φ m x v) : BV b v := by
  unfold bndI at h
  split at h <;> simp only [Option.some.injEq, reduceCtorEq] at h <;> subst h <;> cases v <;> simp_all [BV, optRel]
  rename_i V
  simp only [AV.rel, Sc.rel, D.rel] at hv
  subst hv
  rfl

theorem run_bound {k : IntKind} {n : Int} {y : Nat} {code : BoundsCode} (h0 : 0 ≤ n) (h1 : n ≤ (y : Int)) : (Instr.sliceBound (.int k n) y code).run P W = .ok n.toNat W := by
  simp [Instr.sliceBound, asIntOf, h0, h1]

theorem run_boundI {k : IntKind} {n y : Int} {code : BoundsCode} (h0 : 0 ≤ n) (h1 : n ≤ y) : (Instr.sliceBound (.int k n) y.toNat code).run P W = .ok n.toNat W :=
  run_bound h0 (by omega)

theorem run_bounds {isS : Bool} {len cap : Nat} {lo hi mx : Option Int} {lov hiv mxv : Option Value} (hlo : BV lo lov) (hhi : BV hi hiv) (hmx : BV mx mxv) (hb : cutOb lo hi mx len cap) (hm : mx.isSome = true → hi.isSome = true) :
    (Instr.sliceBounds isS len cap lov hiv mxv).run P W = .ok ((lo.getD 0).toNat, (hi.getD len).toNat, (mx.getD cap).toNat) W := by
  obtain ⟨b1, b2, b3, b4⟩ := hb
  unfold Instr.sliceBounds
  cases mx with
  | none =>
    cases mxv with
    | some _ => exact hmx.elim
    | none =>
      cases hi with
      | none =>
        cases hiv with
        | some _ => exact hhi.elim
        | none =>
          cases lo with
          | none => cases lov <;> first | exact hlo.elim | simp
          | some l =>
            cases lov with
            | none => exact hlo.elim
            | some lv =>
              cases lv <;> first | exact hlo.elim | skip
              simp only [BV] at hlo
              subst hlo
              simp at b1 b2 b3
              simp [run_bound b1 b2]
      | some hh =>
        cases hiv with
        | none => exact hhi.elim
        | some hv =>
          cases hv <;> first | exact hhi.elim | skip
          simp only [BV] at hhi
          subst hhi
          simp at b2 b3
          cases lo with
          | none =>
            cases lov <;> first | exact hlo.elim | skip
            simp at b1 b2
            simp [run_bound b2 b3]
          | some l =>
            cases lov with
            | none => exact hlo.elim
            | some lv =>
              cases lv <;> first | exact hlo.elim | skip
              simp only [BV] at hlo
              subst hlo
              simp at b1 b2
              have h0 : (0 : Int) ≤ _ := Int.le_trans b1 b2
              simp [run_bound h0 b3, run_boundI b1 b2]
  | some mm =>
    cases mxv with
    | none => exact hmx.elim
    | some mv =>
      cases mv <;> first | exact hmx.elim | skip
      simp only [BV] at hmx
      subst hmx
      cases hi with
      | none => simp at hm
      | some hh =>
        cases hiv with
        | none => exact hhi.elim
        | some hv =>
          cases hv <;> first | exact hhi.elim | skip
          simp only [BV] at hhi
          subst hhi
          simp at b2 b3 b4
          cases lo with
          | none =>
            cases lov <;> first | exact hlo.elim | skip
            simp at b1 b2
            have h0 : (0 : Int) ≤ _ := Int.le_trans b2 b3
            simp [run_bound h0 b4, run_boundI b2 b3]
          | some l =>
            cases lov with
            | none => exact hlo.elim
            | some lv =>
              cases lv <;> first | exact hlo.elim | skip
              simp only [BV] at hlo
              subst hlo
              simp at b1 b2
              have h0 : (0 : Int) ≤ _ := Int.le_trans b1 b2
              have h1 : (0 : Int) ≤ _ := Int.le_trans h0 b3
              simp [run_bound h1 b4, run_boundI h0 b3, run_boundI b1 b2]

def capOf (cap : Option Nat) (mx : Option Int) (l : Nat) : Option Nat :=
  match mx with
  | some k => some (k.toNat - l)
  | none => cap.map (· - l)

def loN : Option Int → Nat
  | none => 0
  | some l => l.toNat
def hiN (len : Nat) : Option Int → Nat
  | none => len
  | some h => h.toNat

def evSlice (T : Tab) (t : TypeId) (x : AV) (lo hi mx : Option AV) : Option Res :=
  match lookN t T, bndI lo, bndI hi, bndI mx with
  | some ⟨.str, _, _, _⟩, some lo, some hi, some none => (match x with
    | .s (.d (.str s)) => some (valRes (dv (.str (cutL s lo hi))) (cutOb lo hi none s.length s.length))
    | _ => none)
  | some ⟨.slice e, _, _, _⟩, some lo, some hi, some mx => if mx.isSome && !hi.isSome then none else (match lookN e T with
    | some te => (match x with
      | .s (.row i e' off len cap) => if e' = te.size then some (valRes (.s (.row i e' (off + loN lo) (hiN len hi - loN lo) (capOf cap mx (loN lo)))) (cutOb lo hi mx len len)) else none
      | .s (.d (.slice z e' es)) => if e' = te.size then some (valRes (dv (.slice z e' (cutL es lo hi))) (cutOb lo hi mx es.length es.length)) else none
      | _ => none)
    | none => none)
  | _, _, _, _ => none

theorem loN_eq (lo : Option Int) : loN lo = (lo.getD 0).toNat := by cases lo <;> rfl
theorem hiN_eq (len : Nat) (hi : Option Int) : hiN len hi = (hi.getD (len : Int)).toNat := by cases hi <;> simp [hiN]

theorem relRows_drop_take {es : List (List D)} {b o e : Nat} (h : D.relRows m es b o) (he : ∀ r ∈ es, r.length = e) (k n : Nat) : D.relRows m ((es.drop k).take n) b (o + k * e) := by
  rw [relRows_iff, relCells_iff]
  have hmem : ∀ r ∈ (es.drop k).take n, r.length = e := fun r hr => he r (List.mem_of_mem_drop (List.mem_of_mem_take hr))
  intro i d hi
  have hil := (List.getElem?_eq_some_iff.1 hi).1
  rw [flatten_len hmem] at hil
  rcases Nat.eq_zero_or_pos e with h0 | h0
  · subst h0; simp at hil
  rw [flatten_get h0 hmem hil] at hi
  have hq : i / e < ((es.drop k).take n).length := (Nat.div_lt_iff_lt_mul h0).2 hil
  have hq2 : k + i / e < es.length := by
    simp only [List.length_take, List.length_drop] at hq
    generalize i / e = q at hq ⊢
    omega
  have hcell := relRows_at h he hq2
  rw [relCells_iff] at hcell
  have heq : ((es.drop k).take n).getD (i / e) [] = es.getD (k + i / e) [] := by
    simp only [List.getD_eq_getElem?_getD, List.getElem?_take, List.getElem?_drop]
    rw [if_pos (by simp only [List.length_take, List.length_drop] at hq; generalize i / e = q at hq ⊢; omega)]
  rw [heq] at hi
  obtain ⟨v, h1, h2⟩ := hcell _ d hi
  refine ⟨v, ?_, h2⟩
  rw [← h1]
  congr 1
  have := Nat.div_add_mod i e
  rw [Nat.add_mul, Nat.mul_comm (i / e) e]
  generalize e * (i / e) = q at *
  generalize k * e = q2 at *
  omega

theorem evSlice_ok {T : Tab} (hT : TabOk P T) {t : TypeId} {x : AV} {lo hi mx : Option AV} {r : Res} (h : evSlice T t x lo hi mx = some r) (hob : r.ob) (hc : RelC c φ m f a W) {X : Value} {lov hiv mxv : Option Value}
    (hx : x.rel φ m X) (hlo : optRel φ m lo lov) (hhi : optRel φ m hi hiv)
    (hmx : optRel φ m mx mxv) : Gives P (Instr.sliceAt t X lov hiv mxv) c φ m f a W r := by
  unfold evSlice at h
  split at h
  · rename_i lo' hi' ht elo ehi emx
    have blo := bndI_ok elo hlo
    have bhi := bndI_ok ehi hhi
    have bmx := bndI_ok emx hmx
    have hmn : mxv = none := by cases mxv <;> simp_all [BV]
    subst hmn
    have hu := (hT.at ht).desc (d := .string) (fun d' hd => kindOf_str hd)
    split at h
    · rename_i s
      injection h with h
      subst h
      simp only [AV.rel, Sc.rel, D.rel] at hx
      subst hx
      have hsz : (ByteArray.mk s.toArray).size = s.length := by simp [ByteArray.size]
      have hbd := run_bounds (P := P) (W := W) (isS := false) (len := s.length) (cap := s.length) blo bhi (show BV none none from trivial) hob (by simp)
      refine gives_val hc (V := .string ((ByteArray.mk s.toArray).extract (lo'.getD 0).toNat (hi'.getD s.length).toNat)) ?_ ?_
      · simp only [Instr.sliceAt, Sem.run_bind, run_underlying hu, Result.andThen, Instr.slice, hsz]
        rw [if_neg (by simp)]
        simp only [Sem.run_bind, hbd, Result.andThen, Sem.run_pure]
      · simp only [AV.rel, Sc.rel, D.rel]
        congr 1
        apply ByteArray.ext
        rw [ByteArray.data_extract, cutL_eq]
        apply Array.ext'
        simp
    · cases h
  · rename_i e _ _ _ lo' hi' mx' ht elo ehi emx
    have blo := bndI_ok elo hlo
    have bhi := bndI_ok ehi hhi
    have bmx := bndI_ok emx hmx
    have hu := (hT.at ht).desc (d := .slice e) (fun d' hd => kindOf_slice hd)
    split at h
    · cases h
    · rename_i hmh
      have hmh' : mx'.isSome = true → hi'.isSome = true := by
        intro h1
        cases hi' <;> simp_all
      split at h
      · rename_i te hte
        have hrun : ∀ (ao : Option Addr) (len cap : Nat), cutOb lo' hi' mx' len cap → (Instr.sliceAt t (.slice ao len cap) lov hiv mxv).run P W =
            .ok (.slice (if (mx'.getD cap).toNat = (lo'.getD 0).toNat then ao else ao.map (·.add ((lo'.getD 0).toNat * te.size))) ((hi'.getD len).toNat - (lo'.getD 0).toNat) ((mx'.getD cap).toNat - (lo'.getD 0).toNat)) W := by
          intro ao len cap hb
          have hbd := run_bounds (P := P) (W := W) (isS := true) (len := len) (cap := cap) blo bhi bmx hb hmh'
          simp only [Instr.sliceAt, Sem.run_bind, run_underlying hu, Result.andThen, Instr.slice, hbd, run_sizeOf' (hT.at hte)]
          rfl
        split at h
        · rename_i i e' off len cap
          split at h
          · rename_i hee
            injection h with h
            subst h
            subst hee
            have hob' := hob
            obtain ⟨o1, o2, o3, o4⟩ := hob
            rcases hx with ⟨h1, rfl, rfl, h0, rfl⟩ | ⟨b, C, ad, cc, h1, rfl, h3, h4, h5, h6⟩
            · refine gives_val hc (hrun none 0 0 hob') ?_
              have e1 : loN lo' = 0 := by rw [loN_eq]; cases lo' <;> cases hi' <;> cases mx' <;> simp at o1 o2 o3 o4 ⊢ <;> omega
              have e2 : hiN 0 hi' = 0 := by rw [hiN_eq]; cases lo' <;> cases hi' <;> cases mx' <;> simp at o1 o2 o3 o4 ⊢ <;> omega
              have e3 : (mx'.getD ((0 : Nat) : Int)).toNat = 0 := by cases lo' <;> cases hi' <;> cases mx' <;> simp at o1 o2 o3 o4 ⊢ <;> omega
              refine .inl ⟨h1, by simp [e1], by simp [e1, e2], ?_, ?_⟩
              · unfold capOf
                cases mx' with
                | none => cases cap <;> simp_all
                | some k => simp at e3 ⊢; omega
              · rw [← loN_eq, ← hiN_eq 0 hi', e1, e2, e3]
                rfl
            · have hcc : cutOb lo' hi' mx' len cc := by
                refine ⟨o1, o2, ?_, ?_⟩
                · cases mx' with
                  | none => simp at o3 ⊢; omega
                  | some k => simpa using o3
                · cases mx' with
                  | none => simp
                  | some k => simp at o4 ⊢; omega
              refine gives_val hc (hrun _ _ _ hcc) ?_
              have hl1 : loN lo' ≤ hiN len hi' := by rw [loN_eq, hiN_eq]; omega
              have hl2 : hiN len hi' ≤ (mx'.getD (cc : Int)).toNat := by
                rw [hiN_eq]
                have := hcc.2.2.1
                omega
              have hl3 : (mx'.getD (cc : Int)).toNat ≤ cc := by have := hcc.2.2.2; omega
              refine .inr ⟨b, C, (if (mx'.getD (cc : Int)).toNat = (lo'.getD 0).toNat then ad else ad.add ((lo'.getD 0).toNat * te.size)), (mx'.getD (cc : Int)).toNat - loN lo', h1, ?_, ?_, ?_, ?_, ?_, ?_⟩
              · rw [← loN_eq, ← hiN_eq len hi']
                split <;> rfl
              · unfold capOf
                cases mx' with
                | none =>
                  cases cap with
                  | none => simp at h3 ⊢; omega
                  | some k => simp at h3 ⊢; omega
                | some k => simp
              · omega
              · omega
              · intro hne
                rw [if_neg (by rw [← loN_eq]; omega)]
                rw [h6.1 (by omega), addr_add, ← loN_eq, Nat.add_mul]
              · split
                · exact h6.2
                · rw [addr_block]; exact h6.2
          · cases h
        · rename_i z e' es
          split at h
          · rename_i hee
            injection h with h
            subst h
            subst hee
            have hob' := hob
            obtain ⟨o1, o2, o3, o4⟩ := hob
            simp only [AV.rel, Sc.rel, D.rel] at hx
            rcases hx with ⟨rfl, hz, rfl⟩ | ⟨hz, ad, cc, rfl, h4, h5, h6⟩
            · refine gives_val hc (hrun none 0 0 hob') ?_
              simp only [AV.rel, Sc.rel, D.rel]
              have e1 : loN lo' = 0 := by rw [loN_eq]; cases lo' <;> cases hi' <;> cases mx' <;> simp at o1 o2 o3 o4 ⊢ <;> omega
              have e2 : hiN 0 hi' = 0 := by rw [hiN_eq]; cases lo' <;> cases hi' <;> cases mx' <;> simp at o1 o2 o3 o4 ⊢ <;> omega
              have e3 : (mx'.getD ((0 : Nat) : Int)).toNat = 0 := by cases lo' <;> cases hi' <;> cases mx' <;> simp at o1 o2 o3 o4 ⊢ <;> omega
              refine .inl ⟨by rw [cutL_eq]; simp, hz, ?_⟩
              rw [← loN_eq, ← hiN_eq 0 hi', e1, e2, e3]
              rfl
            · have hcc : cutOb lo' hi' mx' es.length cc := by
                refine ⟨o1, o2, ?_, ?_⟩
                · cases mx' with
                  | none => simp at o3 ⊢; omega
                  | some k => simpa using o3
                · cases mx' with
                  | none => simp
                  | some k => simp at o4 ⊢; omega
              refine gives_val hc (hrun _ _ _ hcc) ?_
              simp only [AV.rel, Sc.rel, D.rel]
              have hl1 : loN lo' ≤ hiN es.length hi' := by rw [loN_eq, hiN_eq]; omega
              have hl2 : hiN es.length hi' ≤ (mx'.getD (cc : Int)).toNat := by
                rw [hiN_eq]
                have := hcc.2.2.1
                omega
              have hl4 : hiN es.length hi' ≤ es.length := by
                rw [hiN_eq]
                omega
              have hlen : (cutL es lo' hi').length = hiN es.length hi' - loN lo' := by
                rw [cutL_eq, ← loN_eq, ← hiN_eq es.length hi']
                simp
                omega
              refine .inr ⟨hz, (if (mx'.getD (cc : Int)).toNat = (lo'.getD 0).toNat then ad else ad.add ((lo'.getD 0).toNat * te.size)), (mx'.getD (cc : Int)).toNat - (lo'.getD 0).toNat, ?_, ?_, ?_, ?_⟩
              · rw [hlen, ← loN_eq, ← hiN_eq es.length hi']
                split <;> rfl
              · rw [hlen, ← loN_eq]; omega
              · intro r hr
                rw [cutL_eq] at hr
                exact h5 r (List.mem_of_mem_drop (List.mem_of_mem_take hr))
              · intro hne
                have hpos : 0 < (cutL es lo' hi').length := List.length_pos_iff.2 hne
                rw [hlen] at hpos
                have hes : es ≠ [] := by
                  intro h0
                  have : es.length = 0 := by rw [h0]; rfl
                  omega
                obtain ⟨hsp, hrow⟩ := h6 hes
                rw [if_neg (by rw [← loN_eq]; omega)]
                obtain ⟨ab, ao, asp⟩ := ad
                simp only at hsp
                subst hsp
                rw [addr_add]
                refine ⟨rfl, ?_⟩
                rw [cutL_eq]
                exact relRows_drop_take hrow h5 _ _
          · cases h
        · cases h
      · cases h
  · cases h

/-! ### lengths -/
def evLen (T : Tab) (t : TypeId) (x : AV) : Option Res :=
  match lookN t T with
  | some ⟨.str, _, _, _⟩ => (match x with
    | .s (.d (.str s)) => some (valRes (dv (.int .i64 (s.length : Int))) True)
    | _ => none)
  | some ⟨.slice e, _, _, _⟩ => (match x with
    | .s (.row _ _ _ len _) => some (valRes (dv (.int .i64 (len : Int))) True)
    | .s (.d (.slice _ _ es)) => some (valRes (dv (.int .i64 (es.length : Int))) True)
    | _ => none)
  | some ⟨.array n e, _, _, _⟩ => some (valRes (dv (.int .i64 (n : Int))) True)
  | _ => none

theorem evLen_ok {T : Tab} (hT : TabOk P T) {t ty : TypeId} {x : AV} {r : Res} (h : evLen T t x = some r) (hc : RelC c φ m f a W) {X : Value} (hx : x.rel φ m X) :
    Gives P (Builtin.len_ #[t] ty #[X]) c φ m f a W r := by
  unfold evLen at h
  split at h
  · rename_i ht
    have hu := (hT.at ht).desc (d := .string) (fun d' hd => kindOf_str hd)
    split at h
    · rename_i s
      injection h with h
      subst h
      simp only [AV.rel, Sc.rel, D.rel] at hx
      subst hx
      refine gives_val hc (V := .int .i64 (s.length : Int)) ?_ (by simp [AV.rel, Sc.rel, D.rel])
      have hsz : (ByteArray.mk s.toArray).size = s.length := by simp [ByteArray.size]
      simp [Builtin.len_, run_underlying hu, goInt, hsz]
    · cases h
  · rename_i e _ _ _ ht
    have hu := (hT.at ht).desc (d := .slice e) (fun d' hd => kindOf_slice hd)
    split at h
    · rename_i i e' off len cap
      injection h with h
      subst h
      refine gives_val hc (V := .int .i64 (len : Int)) ?_ (by simp [AV.rel, Sc.rel, D.rel])
      rcases hx with ⟨h1, rfl, rfl, h0, rfl⟩ | ⟨b, C, ad, cc, h1, rfl, _⟩ <;> simp [Builtin.len_, run_underlying hu, goInt]
    · rename_i z e' es
      injection h with h
      subst h
      refine gives_val hc (V := .int .i64 (es.length : Int)) ?_ (by simp [AV.rel, Sc.rel, D.rel])
      simp only [AV.rel, Sc.rel, D.rel] at hx
      rcases hx with ⟨rfl, hz, rfl⟩ | ⟨hz, ad, cc, rfl, _⟩ <;> simp [Builtin.len_, run_underlying hu, goInt]
    · cases h
  · rename_i n e _ _ _ ht
    have hu := (hT.at ht).desc (d := .array n e) (fun d' hd => kindOf_array hd)
    injection h with h
    subst h
    refine gives_val hc (V := .int .i64 (n : Int)) ?_ (by simp [AV.rel, Sc.rel, D.rel])
    simp [Builtin.len_, run_underlying hu, goInt]
  · cases h

end
end Go.Proofs.Hg

/- Conversions. -/
set_option linter.unusedVariables false
set_option linter.unusedSimpArgs false
namespace Go.Proofs.Hg
open Go.RowKit

section
variable {P : Program} {c : Ctx} {φ : Names} {m : Mem} {f : StF} {a : Act} {W : World}

def u8 (n : Int) : UInt8 := UInt8.ofNat (n % 256).toNat
theorem u8_wrap (n : Int) : ((u8 n).toNat : Int) = IntKind.u8.wrap n := by
  rw [IntKind.wrap_u8]
  unfold u8
  have h1 : 0 ≤ n % 256 := Int.emod_nonneg _ (by omega)
  have h2 : n % 256 < 256 := Int.emod_lt_of_pos _ (by omega)
  rw [UInt8.toNat_ofNat']
  omega

def cvt : IntKind → Int → Int
  | .u8, n => ((u8 n).toNat : Int)
  | k, n => k.wrap n
theorem cvt_wrap (k : IntKind) (n : Int) : cvt k n = k.wrap n := by
  cases k <;> first | rfl | exact u8_wrap n

def brow (s : List UInt8) : List (List D) := s.map fun b => [D.int .u8 (b.toNat : Int)]
def unb1 : List D → UInt8
  | [.int _ n] => UInt8.ofNat n.toNat
  | _ => 0
def unb (es : List (List D)) : List UInt8 := es.map unb1

@[simp] theorem unb_brow (s : List UInt8) : unb (brow s) = s := by
  simp only [unb, brow, List.map_map]
  conv => rhs; rw [← List.map_id s]
  apply List.map_congr_left
  intro b _
  simp [unb1]
@[simp] theorem brow_length (s : List UInt8) : (brow s).length = s.length := by simp [brow]
theorem brow_row (s : List UInt8) : ∀ r ∈ brow s, r.length = 1 := by
  intro r hr
  simp only [brow, List.mem_map] at hr
  obtain ⟨b, _, rfl⟩ := hr
  rfl
theorem brow_append (s t : List UInt8) : brow s ++ brow t = brow (s ++ t) := by simp [brow]
theorem brow_flat (s : List UInt8) : (brow s).flatten = s.map fun b => D.int .u8 (b.toNat : Int) := by
  induction s with
  | nil => rfl
  | cons b s ih => simp only [brow, List.map_cons, List.flatten_cons] at ih ⊢; rw [ih]; rfl

/-- The elements that a slice value shows. -/
def viewOf (H : Heap) : AV → Option (List (List D) × Prop × List (Nat × AObj))
  | .s (.row i _ off len _) => (match H i with
    | some (.row es ty) => some ((es.drop off).take len, off + len ≤ es.length, [(i, .row es ty)])
    | _ => none)
  | .s (.d (.slice _ _ es)) => some (es, True, [])
  | _ => none

/-- What is shown is there, in this world and in those that keep it. -/
structure Shown (W : World) (e : Nat) (V : Value) (es : List (List D)) (m : Mem) : Prop where
  rows : ∀ r ∈ es, r.length = e
  form : (V = .slice none 0 0 ∧ es = []) ∨ ∃ ad k, V = .slice (some ad) es.length k ∧ (es ≠ [] → ad.spot = none ∧ ∀ (j : Nat) (d : D), es.flatten[j]? = some d → ∃ v, W.cell? ⟨ad.block, ad.off + j, none⟩ = some v ∧ d.rel m v)

def elemSz : AV → Option Nat
  | .s (.row _ e _ _ _) => some e
  | .s (.d (.slice _ e _)) => some e
  | _ => none

theorem take_drop_flat {e : Nat} {es : List (List D)} (he : ∀ r ∈ es, r.length = e) {off len : Nat} (hl : off + len ≤ es.length) {j : Nat} {d : D} (h : ((es.drop off).take len).flatten[j]? = some d) :
    es.flatten[off * e + j]? = some d := by
  have hmem : ∀ r ∈ (es.drop off).take len, r.length = e := fun r hr => he r (List.mem_of_mem_drop (List.mem_of_mem_take hr))
  have hjl := (List.getElem?_eq_some_iff.1 h).1
  rw [flatten_len hmem] at hjl
  rcases Nat.eq_zero_or_pos e with h0 | h0
  · subst h0; simp at hjl
  rw [flatten_get h0 hmem hjl] at h
  have hlen : ((es.drop off).take len).length = len := by simp; omega
  rw [hlen] at hjl
  have hq : j / e < len := (Nat.div_lt_iff_lt_mul h0).2 hjl
  have hm := Nat.mod_lt j h0
  have heq : ((es.drop off).take len).getD (j / e) [] = es.getD (off + j / e) [] := by
    simp only [List.getD_eq_getElem?_getD, List.getElem?_take, List.getElem?_drop]
    rw [if_pos hq]
  rw [heq] at h
  have := flatten_at es (off + j / e) (j % e) he (by omega) hm
  rw [← h, ← this]
  congr 1
  have hd := Nat.div_add_mod j e
  rw [Nat.add_mul, Nat.mul_comm (j / e) e]
  generalize e * (j / e) = q at *
  generalize off * e = q2 at *
  omega

theorem viewOf_ok {H : Heap} {x : AV} {es : List (List D)} {ob : Prop} {rd : List (Nat × AObj)} {e : Nat} (h : viewOf H x = some (es, ob, rd)) (hob : ob) (he : elemSz x = some e) (hrd : ∀ p ∈ rd, f (.h p.1) = .o p.2) (hc : RelC c φ m f a W) {V : Value}
    (hx : x.rel φ m V) : Shown W e V es m := by
  unfold viewOf at h
  split at h
  · rename_i i e' off len cap
    simp only [elemSz, Option.some.injEq] at he
    subst he
    split at h
    · rename_i es0 ty hH
      simp only [Option.some.injEq, Prod.mk.injEq] at h
      obtain ⟨rfl, rfl, rfl⟩ := h
      have hi := hrd _ (List.mem_cons_self ..)
      rcases hx with ⟨h1, rfl, rfl, _, rfl⟩ | ⟨b, C, ad, k, h1, rfl, h3, h4, h5, h6⟩
      · refine ⟨fun r hr => by simp at hr, .inl ⟨rfl, by simp⟩⟩
      · obtain ⟨cs, fr, g2, g3, g4, g5, g6, g7, g8, _⟩ := row_cell hc hi h1
        have hlen : ((es0.drop off).take len).length = len := by simp; omega
        refine ⟨fun r hr => g7 r (List.mem_of_mem_drop (List.mem_of_mem_take hr)), .inr ⟨ad, k, by rw [hlen], fun hne => ?_⟩⟩
        have hk : k ≠ 0 := by
          have : 0 < ((es0.drop off).take len).length := List.length_pos_iff.2 hne
          omega
        rw [h6.1 hk]
        refine ⟨rfl, fun j d hj => ?_⟩
        obtain ⟨v, q1, q2⟩ := g8 _ d (take_drop_flat g7 hob hj)
        exact ⟨v, by rw [cell_heap g2]; exact q1, q2⟩
    · cases h
  · rename_i z e' es0
    simp only [elemSz, Option.some.injEq] at he
    subst he
    simp only [Option.some.injEq, Prod.mk.injEq] at h
    obtain ⟨rfl, rfl, rfl⟩ := h
    simp only [AV.rel, Sc.rel, D.rel] at hx
    rcases hx with ⟨rfl, _, rfl⟩ | ⟨_, ad, k, rfl, h4, h5, h6⟩
    · exact ⟨fun r hr => by simp at hr, .inl ⟨rfl, rfl⟩⟩
    · refine ⟨h5, .inr ⟨ad, k, rfl, fun hne => ?_⟩⟩
      obtain ⟨hs, hrow⟩ := h6 hne
      refine ⟨hs, fun j d hj => ?_⟩
      rw [relRows_iff, relCells_iff] at hrow
      obtain ⟨v, q1, q2⟩ := hrow j d hj
      exact ⟨v, mem_cell hc q1, q2⟩
  · cases h

def fintV (s : FloatKind) (b : Nat) : Int := ((s.decode b).toInt .zero).getD 0

def evToStr (T : Tab) (H : Heap) (e : TypeId) (x : AV) : Option Res :=
  match lookN e T, elemSz x with
  | some ⟨.int .u8, _, _, _⟩, some 1 => (viewOf H x).map fun q => ⟨.one (dv (.str (unb q.1))), q.2.2, false, [], q.2.1 ∧ q.1 = brow (unb q.1)⟩
  | _, _ => none

def evUns (T : Tab) (H : Heap) (e : TypeId) (x : AV) : Option Res :=
  match x with
  | .s (.ptr i off) => (match H i, lookN e T with
    | some (.cells vs ty), some te => if te.size = 0 then none else some ⟨.one x, [(i, .cells vs ty)], false, [], off < vs.length⟩
    | _, _ => none)
  | _ => none

def evUnsBack (T : Tab) (H : Heap) (e : TypeId) (x : AV) : Option Res :=
  match x with
  | .s (.ptr i off) => (match H i, lookN e T with
    | some (.cells vs ty), some ⟨.struct fs, sz, _, _⟩ => if ty = e ∧ off = 0 then some ⟨.one x, [(i, .cells vs ty)], false, [], vs.length = sz⟩ else none
    | _, _ => none)
  | _ => none

def evConvert (T : Tab) (fresh : Nat) (H : Heap) (src dst : TypeId) (x : AV) : Option Res :=
  match lookN src T, lookN dst T, x with
  | some _, some ⟨.int k, _, _, _⟩, .s (.d (.int _ n)) => some (valRes (dv (.int k (cvt k n))) True)
  | some _, some ⟨.int k, _, _, _⟩, .s (.d (.float s b)) => some (valRes (dv (.int k (fintV s b))) (((s.decode b).toInt .zero).isSome = true ∧ k.min ≤ fintV s b ∧ fintV s b ≤ k.max))
  | some _, some ⟨.float k, _, _, _⟩, .s (.d (.int _ n)) => some (valRes (dv (.float k (k.nearest n))) True)
  | some ⟨.str, _, _, _⟩, some ⟨.str, _, _, _⟩, .s (.d (.str s)) => some (valRes (dv (.str s)) True)
  | some ⟨.str, _, _, _⟩, some ⟨.slice e, _, _, _⟩, .s (.d (.str s)) => (match lookN e T with
    | some ⟨.int .u8, 1, 1, _⟩ => some ⟨.one (.s (.row fresh 1 0 s.length none)), [], true, [(fresh, .o (.row (brow s) e))], s.length ≤ 140737488355328⟩
    | _ => none)
  | some ⟨.slice e, _, _, _⟩, some ⟨.str, _, _, _⟩, x => evToStr T H e x
  | some ⟨.ptr e, _, _, _⟩, some ⟨.uptr, _, _, _⟩, x => evUns T H e x
  | some ⟨.uptr, _, _, _⟩, some ⟨.ptr e, _, _, _⟩, x => evUnsBack T H e x
  | _, _, _ => none

theorem grownCap_bounds {w : World} {need old : Nat} {e : TypeId} (h : need < 9223372036854775808) : need ≤ grownCap w need old e ∧ grownCap w need old e ≤ 9223372036854775807 := by
  unfold grownCap Question.cut
  have h2 := Nat.mod_lt (w.tape w.drawn (.appendCap need old e)) (show 2 ^ 63 - need > 0 by omega)
  constructor
  · simp
  · simp only
    omega

theorem RelC.drew (h : RelC c φ m f a W) : RelC c φ m f a W.drew := h.drawn _

theorem brow_rel (m : Mem) (s : List UInt8) (rest : Array Value) : relRow m (brow s) ((s.map fun b => Value.int .u8 (b.toNat : Int)).toArray ++ rest) := by
  intro j d hj
  rw [brow_flat, List.getElem?_map] at hj
  cases hs : s[j]? with
  | none => simp [hs] at hj
  | some b =>
    simp [hs] at hj
    subst hj
    refine ⟨.int .u8 (b.toNat : Int), ?_, by simp [D.rel]⟩
    have hl := (List.getElem?_eq_some_iff.1 hs).1
    rw [Array.getElem?_append_left (by simpa using hl)]
    simp [hs]

theorem evToStr_ok {T : Tab} (hT : TabOk P T) {fresh : Nat} {H : Heap} {src dst e : TypeId} (hsu : P.underlying src = some (.slice e)) (hdu : P.underlying dst = some .string) {x : AV} {r : Res}
    (h : evToStr T H e x = some r) (hob : r.ob) (hrd : r.Reads fresh f) (hc : RelC c φ m f a W) {X : Value} (hx : x.rel φ m X) : Gives P (convert src dst X) c φ m f a W r := by
  unfold evToStr at h
  split at h
  · rename_i _ _ _ he hel
    cases hv : viewOf H x with
    | none => simp [hv] at h
    | some q =>
      obtain ⟨es, ob, rd⟩ := q
      simp [hv] at h
      subst h
      obtain ⟨o1, o2⟩ := hob
      have heu := (hT.at he).desc (d := .int .u8) (fun d' hd => kindOf_int hd)
      have hsh := viewOf_ok hv o1 hel (fun p hp => hrd.1 p hp) hc hx
      have hlen : es.length = (unb es).length := by simp [unb]
      rcases hsh.form with ⟨rfl, rfl⟩ | ⟨ad, k, rfl, hcell⟩
      · refine ⟨φ, m, W, .string .empty, hc, NamesLe.refl φ, MemLe.refl m, run_convert_bytes_nil W src e hsu heu 0 0 dst hdu, ?_⟩
        simp [AVal.rel, AV.rel, Sc.rel, D.rel, unb]
        rfl
      · refine ⟨φ, m, W, .string ⟨(unb es).toArray⟩, hc, NamesLe.refl φ, MemLe.refl m, ?_, ?_⟩
        · rw [hlen]
          refine run_convert_bytes_back W src dst e ad k (unb es) hsu heu hdu fun j hj => ?_
          have hne : es ≠ [] := by
            intro h0
            have : es.length = 0 := by rw [h0]; rfl
            omega
          obtain ⟨hsp, hcell⟩ := hcell hne
          obtain ⟨ab, ao, asp⟩ := ad
          simp only at hsp
          subst hsp
          rw [addr_add]
          have hfl : es.flatten = (unb es).map fun b => D.int .u8 (b.toNat : Int) := by
            conv => lhs; rw [o2]
            exact brow_flat _
          obtain ⟨v, q1, q2⟩ := hcell j (.int .u8 ((unb es)[j].toNat : Int)) (by rw [hfl, List.getElem?_map, List.getElem?_eq_getElem hj]; rfl)
          simp only [D.rel] at q2
          rw [q1, q2]
        · simp [AVal.rel, AV.rel, Sc.rel, D.rel]
  · cases h

theorem evUns_ok {T : Tab} (hT : TabOk P T) {fresh : Nat} {H : Heap} {src dst e : TypeId} (hsu : P.underlying src = some (.pointer e)) (hdu : P.underlying dst = some .unsafePointer) {x : AV} {r : Res}
    (h : evUns T H e x = some r) (hob : r.ob) (hrd : r.Reads fresh f) (hc : RelC c φ m f a W) {X : Value} (hx : x.rel φ m X) : Gives P (convert src dst X) c φ m f a W r := by
  unfold evUns at h
  split at h
  · rename_i i off
    split at h
    · rename_i vs ty te hH hte
      split at h
      · cases h
      · rename_i hsz
        injection h with h
        subst h
        obtain ⟨b, C, e', hb, rfl⟩ := hx
        obtain ⟨b', C', e'', cs, fr, h1, h2, h3, h4⟩ := hc.obj i _ (hrd.1 _ (List.mem_cons_self ..))
        rw [hb] at h1
        injection h1 with h1
        injection h1 with q _ _
        subst q
        obtain ⟨j, j1, j2, _⟩ := (hT.at hte).info'
        have hcs : cs.size = vs.length := by have := h4.1; simpa using this
        refine ⟨φ, m, W, _, hc, NamesLe.refl φ, MemLe.refl m, Lib.run_to_unsafe (P := P) W ⟨b, off, none⟩ hsu hdu j1 (by rw [j2]; exact hsz) (e := ty) (cells := cs.size) (by simp [World.shape?, h2]) (by rw [hcs]; exact hob), ⟨b, C, e', hb, rfl⟩⟩
    · cases h
  · cases h

theorem evUnsBack_ok {T : Tab} (hT : TabOk P T) {fresh : Nat} {H : Heap} {src dst e : TypeId} (hsu : P.underlying src = some .unsafePointer) (hdu : P.underlying dst = some (.pointer e)) {x : AV} {r : Res}
    (h : evUnsBack T H e x = some r) (hob : r.ob) (hrd : r.Reads fresh f) (hc : RelC c φ m f a W) {X : Value} (hx : x.rel φ m X) : Gives P (convert src dst X) c φ m f a W r := by
  unfold evUnsBack at h
  split at h
  · rename_i i off
    split at h
    · rename_i vs ty fs sz by_ zz hH hte
      split at h
      · rename_i hcond
        injection h with h
        subst h
        obtain ⟨rfl, rfl⟩ := hcond
        obtain ⟨b, C, e', hb, rfl⟩ := hx
        obtain ⟨b', C', e'', cs, fr, h1, h2, h3, h4⟩ := hc.obj i _ (hrd.1 _ (List.mem_cons_self ..))
        rw [hb] at h1
        injection h1 with h1
        injection h1 with q _ _
        subst q
        obtain ⟨j, j1, j2, _⟩ := (hT.at hte).info'
        have hcs : cs.size = vs.length := by have := h4.1; simpa using this
        have hext := (hT.at hte).ext
        simp only [extraOk, Bool.and_eq_true] at hext
        have hob' : vs.length = sz := hob
        refine ⟨φ, m, W, _, hc, NamesLe.refl φ, MemLe.refl m, Lib.run_from_unsafe (P := P) W ⟨b, 0, none⟩ hsu hdu j1 (e := ty) (cells := cs.size) (by simp [World.shape?, h2]) (by rw [hcs, hob']; exact hext.2.2), ⟨b, C, e', hb, rfl⟩⟩
      · cases h
    · cases h
  · cases h

theorem kindOf_uptr {d : TypeDesc} (h : kindOf d = .uptr) : d = .unsafePointer := by cases d <;> simp_all [kindOf]

theorem evConvert_ok {T : Tab} (hT : TabOk P T) {fresh : Nat} {H : Heap} {src dst : TypeId} {x : AV} {r : Res} (h : evConvert T fresh H src dst x = some r) (hob : r.ob) (hrd : r.Reads fresh f)
    (hc : RelC c φ m f a W) {X : Value} (hx : x.rel φ m X) : Gives P (convert src dst X) c φ m f a W r := by
  unfold evConvert at h
  split at h
  · rename_i ti k _ _ _ _ n hs hd
    injection h with h
    subst h
    simp only [AV.rel, Sc.rel, D.rel] at hx
    subst hx
    obtain ⟨d, hsu, _⟩ := (hT.at hs).und'
    have hdu := (hT.at hd).desc (d := .int k) (fun d' hd => kindOf_int hd)
    refine gives_val hc (V := .int k (k.wrap n)) ?_ (by simp [AV.rel, Sc.rel, D.rel, cvt_wrap])
    simp only [convert, Sem.run_bind, run_underlying hsu, run_underlying hdu, Result.andThen]
    rfl
  · rename_i ti k _ _ _ s b hs hd
    injection h with h
    subst h
    simp only [AV.rel, Sc.rel, D.rel] at hx
    subst hx
    obtain ⟨d, hsu, _⟩ := (hT.at hs).und'
    have hdu := (hT.at hd).desc (d := .int k) (fun d' hd => kindOf_int hd)
    obtain ⟨o1, o2, o3⟩ := hob
    refine gives_val hc (V := .int k (fintV s b)) ?_ (by simp [AV.rel, Sc.rel, D.rel])
    simp only [convert, Sem.run_bind, run_underlying hsu, run_underlying hdu, Result.andThen, Conv.floatToInt]
    cases hn : (s.decode b).toInt .zero with
    | none => simp [hn] at o1
    | some n =>
      have : fintV s b = n := by simp [fintV, hn]
      rw [this] at o2 o3 ⊢
      simp [o2, o3]
  · rename_i ti k _ _ _ _ n hs hd
    injection h with h
    subst h
    simp only [AV.rel, Sc.rel, D.rel] at hx
    subst hx
    obtain ⟨d, hsu, _⟩ := (hT.at hs).und'
    have hdu := (hT.at hd).desc (d := .float k) (fun d' hd => kindOf_float hd)
    refine gives_val hc (V := .float k (k.nearest n)) ?_ (by simp [AV.rel, Sc.rel, D.rel])
    simp only [convert, Sem.run_bind, run_underlying hsu, run_underlying hdu, Result.andThen]
    rfl
  · rename_i s hs hd
    injection h with h
    subst h
    simp only [AV.rel, Sc.rel, D.rel] at hx
    subst hx
    have hsu := (hT.at hs).desc (d := .string) (fun d' hd => kindOf_str hd)
    have hdu := (hT.at hd).desc (d := .string) (fun d' hd => kindOf_str hd)
    refine gives_val hc (V := .string ⟨s.toArray⟩) ?_ (by simp [AV.rel, Sc.rel, D.rel])
    simp only [convert, Sem.run_bind, run_underlying hsu, run_underlying hdu, Result.andThen]
    rfl
  · rename_i e _ _ _ s hs hd
    split at h
    · rename_i z he
      injection h with h
      subst h
      simp only [AV.rel, Sc.rel, D.rel] at hx
      subst hx
      have hsu := (hT.at hs).desc (d := .string) (fun d' hd => kindOf_str hd)
      have hdu := (hT.at hd).desc (d := .slice e) (fun d' hd => kindOf_slice hd)
      have heu := (hT.at he).desc (d := .int .u8) (fun d' hd => kindOf_int hd)
      have hsz : (ByteArray.mk s.toArray).size = s.length := by simp [ByteArray.size]
      have hlen : s.length ≤ 140737488355328 := hob
      have hrun := run_bytes_of_string (P := P) W src dst e ⟨s.toArray⟩ hsu hdu heu
      rw [hsz] at hrun
      obtain ⟨g1, g2⟩ := grownCap_bounds (w := W) (need := s.length) (old := 0) (e := e) (by omega)
      generalize grownCap W s.length 0 e = cap at *
      have hrow : bytesRow ⟨s.toArray⟩ cap = (s.map fun b => Value.int .u8 (b.toNat : Int)).toArray ++ Array.replicate (cap - s.length) (.int .u8 0) := by
        unfold bytesRow
        rw [hsz]
        congr 1
        apply Array.ext'
        simp
      have hsize : (bytesRow ⟨s.toArray⟩ cap).size = cap := by rw [hrow]; simp; omega
      have hfree := hrd.2 rfl
      have hn := hc.free _ hfree
      have hp : NamesLe φ (updN φ fresh (.blk W.heap.size cap 1)) := updN_le _ hn
      refine ⟨updN φ fresh (.blk W.heap.size cap 1), m, _, .slice (some ⟨W.heap.size, 0, none⟩) s.length cap, ?_, hp, MemLe.refl m, hrun, ?_⟩
      · rw [wrApp_cons, wrApp_nil]
        refine hc.drew.alloc hfree (.inr ⟨W.heap.size, cap, 1, _, _, updN_self _ _ _, heap_new _ _, ?_, by rw [hsize]; simp, by simpa using g1, g2, brow_row s, ?_⟩)
        · intro o ho hx
          rw [hsize] at ho hx
          omega
        · rw [hrow]; exact brow_rel m s _
      · refine .inr ⟨W.heap.size, cap, ⟨W.heap.size, 0, none⟩, cap, updN_self _ _ _, rfl, by simp, by omega, g1, fun _ => by simp, rfl⟩
    · cases h
  · rename_i e _ _ _ _ _ _ hs hd
    exact evToStr_ok hT ((hT.at hs).desc (d := .slice e) (fun d' hd => kindOf_slice hd)) ((hT.at hd).desc (d := .string) (fun d' hd => kindOf_str hd)) h hob hrd hc hx
  · rename_i e _ _ _ _ _ _ hs hd
    exact evUns_ok hT ((hT.at hs).desc (d := .pointer e) (fun d' hd => kindOf_ptr hd)) ((hT.at hd).desc (d := .unsafePointer) (fun d' hd => kindOf_uptr hd)) h hob hrd hc hx
  · rename_i _ _ _ e _ _ _ hs hd
    exact evUnsBack_ok hT ((hT.at hs).desc (d := .unsafePointer) (fun d' hd => kindOf_uptr hd)) ((hT.at hd).desc (d := .pointer e) (fun d' hd => kindOf_ptr hd)) h hob hrd hc hx
  · cases h

end
end Go.Proofs.Hg
