/- States of the abstract machine, steps of operations as local changes, and regions whose operations come in any order. -/
import Derived.Test.YtcicjmhealkigaaA0
set_option linter.unusedVariables false
set_option linter.unusedSimpArgs false
namespace Go.Proofs.Hg
open Go.RowKit

inductive AObj where
  | cells (vs : List Sc) (ty : TypeId)
  | row (es : List (List D)) (ty : TypeId)
  | other (o : Obj)

inductive Ent where
  | none
  | free
  | v (x : AVal)
  | o (x : AObj)

inductive Key where
  | t (n : Nat)
  | h (n : Nat)
  deriving DecidableEq

abbrev StF := Key → Ent

/-- What a call starts from: the world, the memory that stays, the blocks that it may write. -/
structure Ctx where
  w0 : World
  m0 : Mem
  φ0 : Names
  X : Nat → Prop
  nt : Nat

def relRow (m : Mem) (es : List (List D)) (cs : Array Value) : Prop := ∀ (j : Nat) (d : D), es.flatten[j]? = some d → ∃ v : Value, cs[j]? = some v ∧ d.rel m v

def FrOk (n : Nat) (fr : Nat × Nat) : Prop := ∀ o, o < n → ¬ (fr.1 ≤ o ∧ o < fr.2)
theorem FrOk.zero (n : Nat) : FrOk n (0, 0) := fun o _ h => by omega

/-- Blocks of the machine's own: a loop's record, a block for deferred calls. -/
def auxO : Obj → Bool
  | .loop _ => true
  | .deferred _ => true
  | _ => false

def AObj.rel (φ : Names) (m : Mem) (W : World) (i : Nat) : AObj → Prop
  | .cells vs ty => ∃ b C e cs fr, φ i = some (.blk b C e) ∧ W.heap[b]? = some (.cells cs ty fr) ∧ FrOk cs.size fr ∧ relAll φ m vs cs.toList
  | .row es ty => (φ i = some .nil ∧ es = []) ∨ ∃ b C e cs fr, φ i = some (.blk b C e) ∧ W.heap[b]? = some (.cells cs ty fr) ∧ FrOk cs.size fr ∧ cs.size = C * e ∧ es.length ≤ C ∧ C ≤ 9223372036854775807 ∧
      (∀ r ∈ es, r.length = e) ∧ relRow m es cs
  | .other o => ∃ b C e, φ i = some (.blk b C e) ∧ W.heap[b]? = some o ∧ auxO o = false

structure RelC (c : Ctx) (φ : Names) (m : Mem) (f : StF) (a : Act) (W : World) : Prop where
  os : W.os = c.w0.os
  out : W.output = c.w0.output
  tape : W.tape = c.w0.tape
  size : c.w0.heap.size ≤ W.heap.size
  frame : ∀ b, b < c.w0.heap.size → ¬ c.X b → W.heap[b]? = c.w0.heap[b]?
  mem : ∀ b o, m b = some o → W.heap[b]? = some o
  m0 : MemLe c.m0 m
  mnew : ∀ b o, m b = some o → c.m0 b = some o ∨ c.w0.heap.size ≤ b ∨ c.X b
  ext : NamesLe c.φ0 φ
  obj : ∀ i o, f (.h i) = .o o → o.rel φ m W i
  own : ∀ i o b C e, f (.h i) = .o o → φ i = some (.blk b C e) → (c.w0.heap.size ≤ b ∨ c.X b) ∧ m b = Option.none ∧ b < W.heap.size
  inj : ∀ i j o o' b C e C' e', f (.h i) = .o o → f (.h j) = .o o' → φ i = some (.blk b C e) → φ j = some (.blk b C' e') → i = j
  free : ∀ i, f (.h i) = .free → φ i = Option.none
  env : ∀ t v, f (.t t) = .v v → ∃ V, a.tmps[t]? = some V ∧ v.rel φ m V
  nt : a.tmps.size = c.nt

/-- Less is known. -/
def StLe (g f : StF) : Prop := ∀ k, g k = .none ∨ g k = f k

theorem RelC.weaken {c : Ctx} {φ : Names} {m : Mem} {f g : StF} {a : Act} {W : World} (h : RelC c φ m f a W) (hg : StLe g f) : RelC c φ m g a W :=
  { os := h.os, out := h.out, tape := h.tape, size := h.size, frame := h.frame, mem := h.mem, m0 := h.m0, mnew := h.mnew, ext := h.ext
    obj := fun i o hi => h.obj i o (by rcases hg (.h i) with e | e <;> simp_all)
    own := fun i o b C e hi => h.own i o b C e (by rcases hg (.h i) with e | e <;> simp_all)
    inj := fun i j o o' b C e C' e' hi hj => h.inj i j o o' b C e C' e' (by rcases hg (.h i) with e | e <;> simp_all) (by rcases hg (.h j) with e | e <;> simp_all)
    free := fun i hi => h.free i (by rcases hg (.h i) with e | e <;> simp_all)
    env := fun t v hv => h.env t v (by rcases hg (.t t) with e | e <;> simp_all)
    nt := h.nt }

theorem RelC.drawn {c : Ctx} {φ : Names} {m : Mem} {f : StF} {a : Act} {W : World} (h : RelC c φ m f a W) (n : Nat) : RelC c φ m f a { W with drawn := n } :=
  { os := h.os, out := h.out, tape := h.tape, size := h.size, frame := h.frame, mem := h.mem, m0 := h.m0, mnew := h.mnew, ext := h.ext
    obj := fun i o hi => by have := h.obj i o hi; cases o <;> exact this
    own := h.own, inj := h.inj, free := h.free, env := h.env, nt := h.nt }

/-- What one operation reads and what it writes. -/
structure LT where
  pre : List (Key × Ent)
  post : List (Key × Ent)

def LT.fits (t : LT) (f : StF) : Prop := ∀ p ∈ t.pre, f p.1 = p.2
def LT.app (t : LT) (f : StF) : StF := fun k => match t.post.find? (fun p => p.1 == k) with
  | some p => p.2
  | Option.none => f k

def RunL : List LT → StF → StF → Prop
  | [], f, g => f = g
  | t :: ts, f, g => t.fits f ∧ RunL ts (t.app f) g

/-- Two steps that do not touch what the other writes. -/
def LT.apart (s t : LT) : Bool :=
  s.post.all (fun p => !(t.pre.any fun q => q.1 == p.1) && !(t.post.any fun q => q.1 == p.1)) && t.post.all (fun p => !(s.pre.any fun q => q.1 == p.1))

theorem find_none {l : List (Key × Ent)} {k : Key} (h : l.any (fun q => q.1 == k) = false) : l.find? (fun p => p.1 == k) = Option.none := by
  rw [List.find?_eq_none]
  intro x hx hk
  have : l.any (fun q => q.1 == k) = true := List.any_eq_true.2 ⟨x, hx, hk⟩
  rw [h] at this
  cases this

theorem app_same {t : LT} {f : StF} {k : Key} (h : t.post.any (fun q => q.1 == k) = false) : t.app f k = f k := by
  unfold LT.app; rw [find_none h]

theorem apart_spec {s t : LT} (h : s.apart t = true) :
    (∀ p ∈ s.post, t.pre.any (fun q => q.1 == p.1) = false ∧ t.post.any (fun q => q.1 == p.1) = false) ∧ (∀ p ∈ t.post, s.pre.any (fun q => q.1 == p.1) = false) := by
  simp only [LT.apart, Bool.and_eq_true, List.all_eq_true, Bool.not_eq_true'] at h
  exact ⟨fun p hp => h.1 p hp, fun p hp => h.2 p hp⟩

theorem not_any_of {l : List (Key × Ent)} {l' : List (Key × Ent)} (h : ∀ p ∈ l, l'.any (fun q => q.1 == p.1) = false) {q : Key × Ent} (hq : q ∈ l') : l.any (fun p => p.1 == q.1) = false := by
  rw [List.any_eq_false]
  intro p hp hk
  have h1 := h p hp
  rw [List.any_eq_false] at h1
  refine h1 q hq ?_
  have : p.1 = q.1 := by simpa using hk
  simp [this]

theorem apart_comm {s t : LT} (h : s.apart t = true) (f : StF) : t.app (s.app f) = s.app (t.app f) := by
  obtain ⟨h1, _⟩ := apart_spec h
  funext k
  by_cases hs : s.post.any (fun q => q.1 == k) = true
  · obtain ⟨p, hp, hk⟩ := List.any_eq_true.1 hs
    have hk' : p.1 = k := by simpa using hk
    have ht : t.post.any (fun q => q.1 == k) = false := hk' ▸ (h1 p hp).2
    rw [app_same ht]
    unfold LT.app
    rw [find_none ht]
  · have hs' : s.post.any (fun q => q.1 == k) = false := by cases h : (s.post.any (fun q => q.1 == k)) <;> simp_all
    rw [app_same (t := s) hs']
    unfold LT.app
    split
    · rfl
    · rw [find_none hs']

theorem fits_app {s t : LT} (h : ∀ p ∈ s.post, t.pre.any (fun q => q.1 == p.1) = false) {f : StF} : t.fits (s.app f) ↔ t.fits f := by
  constructor
  · intro hf q hq
    rw [← hf q hq, app_same (not_any_of h hq)]
  · intro hf q hq
    rw [← hf q hq, app_same (not_any_of h hq)]

theorem runL_front {t1 : List LT} {t : LT} {t2 : List LT} : ∀ {f g : StF}, RunL (t1 ++ t :: t2) f g → (∀ s ∈ t1, s.apart t = true) → t.fits f ∧ RunL (t1 ++ t2) (t.app f) g := by
  induction t1 with
  | nil => intro f g h _; exact h
  | cons s r ih =>
    intro f g h ha
    obtain ⟨hs, hr⟩ := h
    obtain ⟨h1, h2⟩ := ih hr (fun x hx => ha x (List.mem_cons_of_mem _ hx))
    have hst := ha s (List.mem_cons_self ..)
    obtain ⟨a1, a2⟩ := apart_spec hst
    refine ⟨(fits_app (fun p hp => (a1 p hp).1)).1 h1, (fits_app a2).2 hs, ?_⟩
    rw [← apart_comm hst]
    exact h2

/-- The fence of everything, within a round or not. -/
def wideR (ro : Option Nat) : Fence := { Fence.wide with round := ro }

/-- The i-th operation of a region does what its step says, whenever what it reads is there. -/
def SoundAt (P : Program) (N : Nat) (ops : Array Oper) (i : Nat) (t : LT) : Prop :=
  ∀ (ro : Option Nat) (n : Nat) (c : Ctx) (φ : Names) (m : Mem) (f : StF) (a : Act) (W : World) (Q : Exit → Act → World → Prop) (K : Act → World → Prop),
    c.nt = N → RelC c φ m f a W → t.fits f → (∀ φ' m' a' W', RelC c φ' m' (t.app f) a' W' → a'.defers = a.defers → K a' W') → wpOpIn (wideR ro) n P ops Q i K a W

/-- Text order. -/
theorem runL_text {P : Program} {N : Nat} {ops : Array Oper} {ro : Option Nat} {n : Nat} {c : Ctx} (hN : c.nt = N) {Q : Exit → Act → World → Prop} :
    ∀ (ts : List (Nat × LT)) (f g : StF) (φ : Names) (m : Mem) (a : Act) (W : World), (∀ p ∈ ts, SoundAt P N ops p.1 p.2) → RunL (ts.map (·.2)) f g → RelC c φ m f a W →
      (∀ φ' m' a' W', RelC c φ' m' g a' W' → a'.defers = a.defers → Q .normal a' W') → wpOpsIn (wideR ro) n P ops Q (ts.map (·.1)) a W := by
  intro ts
  induction ts with
  | nil => intro f g φ m a W _ hr hc hq; simp only [List.map_nil, RunL] at hr; subst hr; exact hq φ m a W hc rfl
  | cons p ts ih =>
    intro f g φ m a W hs hr hc hq
    obtain ⟨hf, hr⟩ := hr
    rw [List.map_cons, wpOpsIn_cons]
    refine hs p (List.mem_cons_self ..) ro n c φ m f a W Q _ hN hc hf fun φ' m' a' W' hc' hd => ?_
    exact ih _ g φ' m' a' W' (fun q hq => hs q (List.mem_cons_of_mem _ hq)) hr hc' (fun φ2 m2 a2 W2 h hd2 => hq φ2 m2 a2 W2 h (hd2.trans hd))

/-- Which operations must have come ahead of one, by the edges that bind. -/
def ancOk (ops : Array Oper) (anc : Nat → List Nat) : Prop :=
  ∀ i o, ops[i]? = some o → ∀ j ∈ anc i, ∃ e ∈ o.after.toList, Region.binds .any e = true ∧ (e.on = j ∨ j ∈ anc e.on)

theorem mem_ready {ops : Array Oper} {listed : Array Bool} {i : Nat} (h : i ∈ Region.ready .any ops listed) :
    i < ops.size ∧ listed.getD i true = false ∧ ∃ o, ops[i]? = some o ∧ ∀ e ∈ o.after.toList, Region.binds .any e = true → listed.getD e.on false = true := by
  simp only [Region.ready, List.mem_filter, List.mem_range, Bool.and_eq_true, Bool.not_eq_true'] at h
  obtain ⟨h1, h2, h3⟩ := h
  refine ⟨h1, h2, ?_⟩
  cases ho : ops[i]? with
  | none => simp [ho] at h3
  | some o =>
    refine ⟨o, rfl, fun e he hb => ?_⟩
    simp only [ho, Option.map_some, Option.getD_some] at h3
    rw [← Array.all_toList, List.all_eq_true] at h3
    have := h3 e he
    simpa [hb] using this

theorem getD_set {l : Array Bool} {i j : Nat} {d : Bool} (hi : i < l.size) : (l.setIfInBounds i true).getD j d = if i = j then true else l.getD j d := by
  simp only [Array.getD_eq_getD_getElem?, Array.getElem?_setIfInBounds]
  split
  · simp [hi]
  · rfl

theorem runL_any {P : Program} {N : Nat} {ops : Array Oper} {ro : Option Nat} {n : Nat} {c : Ctx} (hN : c.nt = N) {Q : Exit → Act → World → Prop} {anc : Nat → List Nat} (hanc : ancOk ops anc)
    (hlt : ∀ (i : Nat) (o : Oper), ops[i]? = some o → ∀ e ∈ o.after.toList, Region.binds .any e = true → e.on < i) :
    ∀ (k : Nat) (ts : List (Nat × LT)) (f g : StF) (φ : Names) (m : Mem) (a : Act) (W : World) (listed : Array Bool), ts.length = k →
      listed.size = ops.size → (ts.map (·.1)).Pairwise (· < ·) → (∀ i, i < ops.size → (listed.getD i true = false ↔ i ∈ ts.map (·.1))) → (∀ i ∈ ts.map (·.1), i < ops.size) →
      (∀ i, listed.getD i false = true → ∀ j ∈ anc i, listed.getD j false = true) →
      (ts.Pairwise fun p q => p.2.apart q.2 = true ∨ p.1 ∈ anc q.1) →
      (∀ p ∈ ts, SoundAt P N ops p.1 p.2) → RunL (ts.map (·.2)) f g → RelC c φ m f a W →
      (∀ φ' m' a' W', RelC c φ' m' g a' W' → a'.defers = a.defers → Q .normal a' W') → wpAnyIn (wideR ro) n P .any ops Q k listed a W := by
  intro k
  induction k with
  | zero =>
    intro ts f g φ m a W listed hk hsz hsort hl hsm hcl hap hs hr hc hq
    have hts : ts = [] := List.eq_nil_of_length_eq_zero hk
    subst hts
    simp only [List.map_nil, RunL] at hr
    subst hr
    refine ⟨?_, hq φ m a W hc rfl⟩
    rw [List.eq_nil_iff_forall_not_mem]
    intro i hi
    obtain ⟨h1, h2, _⟩ := mem_ready hi
    have := (hl i h1).1 h2
    simp at this
  | succ k ih =>
    intro ts f g φ m a W listed hk hsz hsort hl hsm hcl hap hs hr hc hq
    refine ⟨fun hnil => ?_, fun i hi => ?_⟩
    · -- the first one left is ready
      exfalso
      cases ts with
      | nil => simp at hk
      | cons p ts =>
        have hp := hsm p.1 (by simp)
        have hmem : p.1 ∈ Region.ready .any ops listed := by
          simp only [Region.ready, List.mem_filter, List.mem_range, Bool.and_eq_true, Bool.not_eq_true']
          refine ⟨hp, (hl p.1 hp).2 (by simp), ?_⟩
          rw [Array.getElem?_eq_getElem hp]
          simp only [Option.map_some, Option.getD_some]
          rw [← Array.all_toList, List.all_eq_true]
          intro e he
          by_cases hb : Region.binds .any e = true
          · have h1 := hlt p.1 _ (Array.getElem?_eq_getElem hp) e he hb
            have h2 : ¬ (listed.getD e.on true = false) := by
              intro hf
              have h3 := (hl e.on (by omega)).1 hf
              rw [List.map_cons, List.mem_cons] at h3
              rw [List.map_cons, List.pairwise_cons] at hsort
              rcases h3 with h3 | h3
              · omega
              · have := hsort.1 _ h3; omega
            have h4 : e.on < listed.size := by omega
            simp only [Array.getD_eq_getD_getElem?, Array.getElem?_eq_getElem h4, Option.getD_some] at h2 ⊢
            simp [h2]
          · simp [hb]
        rw [hnil] at hmem
        cases hmem
    · obtain ⟨h1, h2, o, ho, hpre⟩ := mem_ready hi
      have hmem := (hl i h1).1 h2
      obtain ⟨p, hp, hpi⟩ := List.mem_map.1 hmem
      obtain ⟨t1, t2, hts⟩ := List.append_of_mem hp
      subst hts
      have hlisted : ∀ j ∈ anc i, listed.getD j false = true := by
        intro j hj
        obtain ⟨e, he, hb, hj⟩ := hanc i o ho j hj
        rcases hj with hj | hj
        · exact hj ▸ hpre e he hb
        · exact hcl e.on (hpre e he hb) j hj
      have hfront : ∀ s ∈ t1.map (·.2), s.apart p.2 = true := by
        intro s hs'
        obtain ⟨q, hq', hqs⟩ := List.mem_map.1 hs'
        rw [List.pairwise_append] at hap
        rcases hap.2.2 q hq' p (List.mem_cons_self ..) with h | h
        · exact hqs ▸ h
        · exfalso
          have h3 := hlisted q.1 (hpi ▸ h)
          have hq1 : q.1 < ops.size := hsm q.1 (List.mem_map.2 ⟨q, List.mem_append_left _ hq', rfl⟩)
          have h4 := (hl q.1 hq1).2 (List.mem_map.2 ⟨q, List.mem_append_left _ hq', rfl⟩)
          have h5 : q.1 < listed.size := by omega
          simp only [Array.getD_eq_getD_getElem?, Array.getElem?_eq_getElem h5, Option.getD_some] at h3 h4
          rw [h3] at h4
          cases h4
      rw [List.map_append, List.map_cons] at hr
      obtain ⟨hfit, hrun⟩ := runL_front hr hfront
      have hsp := hs p hp
      rw [hpi] at hsp
      refine hsp ro n c φ m f a W Q _ hN hc hfit fun φ' m' a' W' hc' hd => ?_
      rw [← List.map_append] at hrun
      have hnd : (List.map (·.1) (t1 ++ p :: t2)).Pairwise (· < ·) := hsort
      have hi1 : i < listed.size := by omega
      refine ih (t1 ++ t2) _ g φ' m' a' W' _ (by simp at hk ⊢; omega) (by simp [hsz]) ?_ ?_ ?_ ?_ ?_ (fun q hq' => hs q (by
        rcases List.mem_append.1 hq' with h | h
        · exact List.mem_append_left _ h
        · exact List.mem_append_right _ (List.mem_cons_of_mem _ h))) hrun hc' (fun φ2 m2 a2 W2 h hd2 => hq φ2 m2 a2 W2 h (hd2.trans hd))
      · refine List.Pairwise.sublist ?_ hsort
        exact (List.Sublist.append_left (List.sublist_cons_self p t2) t1).map _
      · intro j hj
        rw [getD_set hi1]
        have hkey := hl j hj
        by_cases e : i = j
        · subst e
          simp only [if_true, Bool.true_eq_false, false_iff]
          intro hin
          rw [List.map_append, List.map_cons, List.pairwise_append, List.pairwise_cons] at hsort
          rw [List.map_append, List.mem_append] at hin
          rcases hin with hin | hin
          · have := hsort.2.2 i hin p.1 (List.mem_cons_self ..); omega
          · have := hsort.2.1.1 i hin; omega
        · simp only [if_neg e]
          rw [hkey]
          simp only [List.map_append, List.map_cons, List.mem_append, List.mem_cons]
          constructor
          · rintro (h | h | h)
            · exact .inl h
            · exact absurd (h.trans hpi).symm e
            · exact .inr h
          · rintro (h | h)
            · exact .inl h
            · exact .inr (.inr h)
      · intro j hj
        refine hsm j ?_
        simp only [List.map_append, List.map_cons, List.mem_append, List.mem_cons] at hj ⊢
        rcases hj with h | h
        · exact .inl h
        · exact .inr (.inr h)
      · intro j hj x hx
        rw [getD_set hi1] at hj ⊢
        by_cases ex : i = x
        · simp [ex]
        · rw [if_neg ex]
          by_cases ej : i = j
          · exact hlisted x (ej ▸ hx)
          · rw [if_neg ej] at hj; exact hcl j hj x hx
      · exact hap.sublist (List.Sublist.append_left (List.sublist_cons_self p t2) t1)

/-! ### The rule for a region -/
/-- The ancestors of each operation, reckoned. -/
def ancs : List Oper → List (List Nat) → List (List Nat)
  | [], acc => acc
  | o :: os, acc => ancs os (acc ++ [o.after.toList.flatMap fun e => if Region.binds .any e then e.on :: acc.getD e.on [] else []])

def ancOf (ops : Array Oper) (i : Nat) : List Nat := (ancs ops.toList []).getD i []

def edgesOk (ops : Array Oper) : Bool := ops.toList.zipIdx.all fun p => p.1.after.toList.all fun e => !Region.binds .any e || decide (e.on < p.2)

def orderOk (ops : Array Oper) (ts : List LT) : Bool :=
  (List.range ts.length).all fun i => (List.range i).all fun j => ((ts.getD j ⟨[], []⟩).apart (ts.getD i ⟨[], []⟩)) || (ancOf ops i).contains j

theorem ancs_len : ∀ (os : List Oper) (acc : List (List Nat)), (ancs os acc).length = acc.length + os.length
  | [], acc => by simp [ancs]
  | o :: os, acc => by rw [ancs, ancs_len os]; simp; omega

theorem ancs_keeps : ∀ (os : List Oper) (acc : List (List Nat)) (i : Nat), i < acc.length → (ancs os acc).getD i [] = acc.getD i []
  | [], acc, i, _ => rfl
  | o :: os, acc, i, h => by
    rw [ancs, ancs_keeps os _ i (by simp; omega)]
    simp [List.getD_eq_getElem?_getD, List.getElem?_append_left h]

theorem ancs_at : ∀ (os : List Oper) (acc : List (List Nat)) (k : Nat) (o : Oper), os[k]? = some o → (∀ e ∈ o.after.toList, Region.binds .any e = true → e.on < acc.length + k) →
    (ancs os acc).getD (acc.length + k) [] = o.after.toList.flatMap fun e => if Region.binds .any e then e.on :: (ancs os acc).getD e.on [] else []
  | [], acc, k, o, h, _ => by simp at h
  | x :: os, acc, 0, o, h, he => by
    simp at h
    subst h
    rw [ancs]
    rw [ancs_keeps os _ _ (by simp)]
    simp only [Nat.add_zero, List.getD_eq_getElem?_getD, List.getElem?_append_right (Nat.le_refl _), Nat.sub_self, List.getElem?_cons_zero, Option.getD_some]
    apply congrArg List.flatten
    apply List.map_congr_left
    intro e hm
    by_cases hb : Region.binds .any e = true
    · rw [if_pos hb, if_pos hb]
      have h1 := he e hm hb
      have h2 := ancs_keeps os (acc ++ [x.after.toList.flatMap fun e => if Region.binds .any e then e.on :: acc.getD e.on [] else []]) e.on (by simp; omega)
      simp only [List.getD_eq_getElem?_getD, List.getElem?_append_left (show e.on < acc.length by omega)] at h2
      rw [h2]
    · rw [if_neg hb, if_neg hb]
  | x :: os, acc, k + 1, o, h, he => by
    have := ancs_at os (acc ++ [x.after.toList.flatMap fun e => if Region.binds .any e then e.on :: acc.getD e.on [] else []]) k o (by simpa using h) (fun e hm hb => by have := he e hm hb; simp; omega)
    simp only [List.length_append, List.length_cons, List.length_nil] at this
    rw [show acc.length + (0 + 1) + k = acc.length + (k + 1) by omega] at this
    rw [ancs]
    exact this

theorem edges_lt {ops : Array Oper} (h : edgesOk ops = true) : ∀ (i : Nat) (o : Oper), ops[i]? = some o → ∀ e ∈ o.after.toList, Region.binds .any e = true → e.on < i := by
  intro i o ho e he hb
  simp only [edgesOk, List.all_eq_true] at h
  have h1 := h (o, i) (by
    rw [List.mem_zipIdx_iff_getElem?]
    simpa using ho) e he
  simpa [hb] using h1

theorem ancOf_ok {ops : Array Oper} (h : edgesOk ops = true) : ancOk ops (ancOf ops) := by
  intro i o ho j hj
  have hl : ops.toList[i]? = some o := by simpa using ho
  have h1 := ancs_at ops.toList [] i o hl (fun e he hb => by have := edges_lt h i o ho e he hb; simpa using this)
  simp only [List.length_nil, Nat.zero_add] at h1
  unfold ancOf at hj ⊢
  rw [h1, List.mem_flatMap] at hj
  obtain ⟨e, he, hje⟩ := hj
  by_cases hb : Region.binds .any e = true
  · rw [if_pos hb, List.mem_cons] at hje
    exact ⟨e, he, hb, hje.imp Eq.symm id⟩
  · rw [if_neg hb] at hje; cases hje

/-- **A REGION, WHATEVER ORDER IS DRAWN.** -/
theorem wp_region {P : Program} {N : Nat} (hm : P.follows .mixedOrders = true) {ro : Option Nat} {n id : Nat} {ops : Array Oper} {draw : Bool} {c : Ctx} {φ : Names} {m : Mem} {f g : StF} {a : Act} {W : World} {Q : Exit → Act → World → Prop}
    (ts : List LT) (hN : c.nt = N) (hn : ts.length = ops.size) (hs : ∀ (i : Nat) (t : LT), ts[i]? = some t → SoundAt P N ops i t) (hr : RunL ts f g) (ho : draw = true → (edgesOk ops && orderOk ops ts) = true)
    (hc : RelC c φ m f a W) (hq : ∀ φ' m' a' W', RelC c φ' m' g a' W' → a'.defers = a.defers → Q .normal a' W') : (Code.region id ops draw).wpIn (wideR ro) n P Q a W := by
  have hz1 : (ts.zipIdx.map (fun p => (p.2, p.1))).map (·.1) = List.range ops.size := by
    rw [List.map_map, ← hn]
    apply List.ext_getElem <;> simp
  have hz2 : (ts.zipIdx.map (fun p => (p.2, p.1))).map (·.2) = ts := by
    rw [List.map_map]
    apply List.ext_getElem <;> simp
  have hsnd : ∀ p ∈ ts.zipIdx.map (fun p => (p.2, p.1)), SoundAt P N ops p.1 p.2 := by
    intro p hp
    obtain ⟨q, hq, rfl⟩ := List.mem_map.1 hp
    rw [List.mem_zipIdx_iff_getElem?] at hq
    exact hs _ _ hq
  cases draw with
  | false =>
    refine wpIn_region ?_
    have := runL_text (P := P) (N := N) (ops := ops) (ro := ro) (n := n) (c := c) hN (Q := Q) (ts.zipIdx.map (fun p => (p.2, p.1))) f g φ m a W hsnd (by rw [hz2]; exact hr) hc hq
    rwa [hz1] at this
  | true =>
    have ho := ho rfl
    rw [Bool.and_eq_true] at ho
    refine wpIn_region_any hm ?_
    refine runL_any (N := N) hN (ancOf_ok ho.1) (edges_lt ho.1) ops.size (ts.zipIdx.map (fun p => (p.2, p.1))) f g φ m a _ _ (by simp [hn]) (by simp) (by rw [hz1]; exact List.pairwise_lt_range) ?_ ?_ ?_ ?_ hsnd (by rw [hz2]; exact hr) (hc.drawn _) hq
    · intro i hi
      rw [hz1]
      simp [Array.getD_eq_getD_getElem?, hi]
    · intro i hi
      rw [hz1] at hi
      simpa using hi
    · intro i hi
      simp only [Array.getD_eq_getD_getElem?, Array.getElem?_replicate] at hi
      split at hi <;> simp at hi
    · rw [List.pairwise_iff_getElem]
      intro i j hi hj hij
      simp only [List.length_map, List.length_zipIdx] at hi hj
      simp only [List.getElem_map, List.getElem_zipIdx, Nat.zero_add]
      have h1 := ho.2
      simp only [orderOk, List.all_eq_true, List.mem_range, Bool.or_eq_true] at h1
      have h2 := h1 j hj i hij
      simp only [List.getD_eq_getElem?_getD, List.getElem?_eq_getElem hi, List.getElem?_eq_getElem hj, Option.getD_some] at h2
      rcases h2 with h2 | h2
      · exact .inl h2
      · exact .inr (by simpa using h2)

end Go.Proofs.Hg
