/- How a state goes on when the world takes a step. -/
import Derived.Test.YtcicjmhealkigaaA1
set_option linter.unusedVariables false
set_option linter.unusedSimpArgs false
namespace Go.Proofs.Hg
open Go.RowKit

def upd (f : StF) (k : Key) (e : Ent) : StF := fun k' => if k' = k then e else f k'
@[simp] theorem upd_self (f : StF) (k : Key) (e : Ent) : upd f k e k = e := by simp [upd]
theorem upd_other {f : StF} {k k' : Key} {e : Ent} (h : k' ≠ k) : upd f k e k' = f k' := by simp [upd, h]

theorem app_nil (pre : List (Key × Ent)) (f : StF) : LT.app ⟨pre, []⟩ f = f := rfl
theorem app_cons (pre : List (Key × Ent)) (k : Key) (e : Ent) (ps : List (Key × Ent)) (f : StF) : LT.app ⟨pre, (k, e) :: ps⟩ f = upd (LT.app ⟨pre, ps⟩ f) k e := by
  funext k'
  unfold LT.app upd
  simp only [List.find?_cons]
  by_cases h : k' = k
  · subst h; simp
  · have : (k == k') = false := by simpa using fun e => h e.symm
    simp [this, h]

def updN (φ : Names) (i : Nat) (s : Slot) : Names := fun j => if j = i then some s else φ j
@[simp] theorem updN_self (φ : Names) (i : Nat) (s : Slot) : updN φ i s i = some s := by simp [updN]
theorem updN_other {φ : Names} {i j : Nat} {s : Slot} (h : j ≠ i) : updN φ i s j = φ j := by simp [updN, h]
theorem updN_le {φ : Names} {i : Nat} (s : Slot) (h : φ i = none) : NamesLe φ (updN φ i s) := by
  intro j t hj
  by_cases e : j = i
  · subst e; rw [h] at hj; cases hj
  · rw [updN_other e]; exact hj

theorem relRow_le {m m' : Mem} (hm : MemLe m m') {es : List (List D)} {cs : Array Value} (h : relRow m es cs) : relRow m' es cs :=
  fun j d hj => let ⟨v, h1, h2⟩ := h j d hj; ⟨v, h1, D.rel_le hm d v h2⟩

theorem AObj.rel_keep {φ φ' : Names} {m m' : Mem} {W W' : World} {i : Nat} (hp : NamesLe φ φ') (hm : MemLe m m') {o : AObj} (h : o.rel φ m W i)
    (hb : ∀ b C e, φ i = some (.blk b C e) → W'.heap[b]? = W.heap[b]?) : o.rel φ' m' W' i := by
  cases o with
  | cells vs ty =>
    obtain ⟨b, C, e, cs, fr, h1, h2, h0, h3⟩ := h
    exact ⟨b, C, e, cs, fr, hp _ _ h1, (hb b C e h1).trans h2, h0, relAll_le hp hm h3⟩
  | row es ty =>
    rcases h with ⟨h1, h2⟩ | ⟨b, C, e, cs, fr, h1, h2, h0, h3, h4, h5, h6, h7⟩
    · exact .inl ⟨hp _ _ h1, h2⟩
    · exact .inr ⟨b, C, e, cs, fr, hp _ _ h1, (hb b C e h1).trans h2, h0, h3, h4, h5, h6, relRow_le hm h7⟩
  | other o =>
    obtain ⟨b, C, e, h1, h2, h3⟩ := h
    exact ⟨b, C, e, hp _ _ h1, (hb b C e h1).trans h2, h3⟩

theorem AObj.rel_name {φ : Names} {m : Mem} {W : World} {i : Nat} {o : AObj} (h : o.rel φ m W i) : ∃ s, φ i = some s := by
  cases o with
  | cells vs ty => obtain ⟨b, C, e, cs, fr, h1, _⟩ := h; exact ⟨_, h1⟩
  | row es ty =>
    rcases h with ⟨h1, _⟩ | ⟨b, C, e, cs, fr, h1, _⟩
    · exact ⟨_, h1⟩
    · exact ⟨_, h1⟩
  | other o => obtain ⟨b, C, e, h1, _⟩ := h; exact ⟨_, h1⟩

section
variable {c : Ctx} {φ : Names} {m : Mem} {f : StF} {a : Act} {W : World}

theorem RelC.put (h : RelC c φ m f a W) {d : Tmp} (hd : d < c.nt) {val : AVal} {V : Value} (hv : val.rel φ m V) : RelC c φ m (upd f (.t d) (.v val)) (a.put (some d) V) W :=
  { os := h.os, out := h.out, tape := h.tape, size := h.size, frame := h.frame, mem := h.mem, m0 := h.m0, mnew := h.mnew, ext := h.ext
    obj := fun i o hi => h.obj i o (by rwa [upd_other (by simp)] at hi)
    own := fun i o b C e hi => h.own i o b C e (by rwa [upd_other (by simp)] at hi)
    inj := fun i j o o' b C e C' e' hi hj => h.inj i j o o' b C e C' e' (by rwa [upd_other (by simp)] at hi) (by rwa [upd_other (by simp)] at hj)
    free := fun i hi => h.free i (by rwa [upd_other (by simp)] at hi)
    env := fun t v ht => by
      have hsz : a.tmps.size = c.nt := h.nt
      by_cases e : t = d
      · subst e
        rw [upd_self] at ht
        injection ht with ht
        subst ht
        refine ⟨V, ?_, hv⟩
        simp [Act.put, Array.getElem?_setIfInBounds, hsz, hd]
      · rw [upd_other (by simpa using e)] at ht
        obtain ⟨V', h1, h2⟩ := h.env t v ht
        refine ⟨V', ?_, h2⟩
        simp only [Act.put]
        rw [Array.getElem?_setIfInBounds_ne (fun x => e x.symm)]
        exact h1
    nt := by have := h.nt; simpa [Act.put] using this }

theorem RelC.step (h : RelC c φ m f a W) {φ' : Names} {m' : Mem} {f' : StF} {W' : World} (tb : Nat → Prop)
    (hos : W'.os = W.os) (hout : W'.output = W.output) (htape : W'.tape = W.tape) (hsize : W.heap.size ≤ W'.heap.size) (hp : NamesLe φ φ') (hm : MemLe m m')
    (hsame : ∀ b, b < W.heap.size → ¬ tb b → W'.heap[b]? = W.heap[b]?)
    (htb : ∀ b, b < W.heap.size → tb b → (c.w0.heap.size ≤ b ∨ c.X b) ∧ m b = none)
    (hmem : ∀ b o, m' b = some o → m b = some o ∨ (W'.heap[b]? = some o ∧ (c.w0.heap.size ≤ b ∨ c.X b)))
    (hobj : ∀ i o, f' (.h i) = .o o → (f (.h i) = .o o ∧ ∀ b C e, φ i = some (.blk b C e) → ¬ tb b ∧ m' b = none) ∨
      (o.rel φ' m' W' i ∧ ∀ b C e, φ' i = some (.blk b C e) → (c.w0.heap.size ≤ b ∨ c.X b) ∧ m' b = none ∧ b < W'.heap.size))
    (hinj : ∀ i j o o' b C e C' e', f' (.h i) = .o o → f' (.h j) = .o o' → φ' i = some (.blk b C e) → φ' j = some (.blk b C' e') → i = j)
    (hfree : ∀ i, f' (.h i) = .free → φ' i = none)
    (henv : ∀ t v, f' (.t t) = .v v → f (.t t) = .v v) : RelC c φ' m' f' a W' :=
  { os := hos.trans h.os, out := hout.trans h.out, tape := htape.trans h.tape, size := Nat.le_trans h.size hsize
    frame := fun b hb hx => by
      have hb' : b < W.heap.size := Nat.lt_of_lt_of_le hb h.size
      rw [hsame b hb' (fun ht => by rcases (htb b hb' ht).1 with h1 | h1; omega; exact hx h1)]
      exact h.frame b hb hx
    mem := fun b o hb => by
      rcases hmem b o hb with h1 | h1
      · have h2 := h.mem b o h1
        have hlt : b < W.heap.size := (Array.getElem?_eq_some_iff.1 h2).1
        rw [hsame b hlt (fun ht => by have := (htb b hlt ht).2; rw [h1] at this; cases this)]
        exact h2
      · exact h1.1
    m0 := h.m0.trans hm
    mnew := fun b o hb => by
      rcases hmem b o hb with h1 | h1
      · exact h.mnew b o h1
      · exact .inr h1.2
    ext := h.ext.trans hp
    obj := fun i o hi => by
      rcases hobj i o hi with ⟨h1, h2⟩ | h1
      · exact AObj.rel_keep hp hm (h.obj i o h1) fun b C e hb => hsame b (h.own i o b C e h1 hb).2.2 (h2 b C e hb).1
      · exact h1.1
    own := fun i o b C e hi hb => by
      rcases hobj i o hi with ⟨h1, h2⟩ | h1
      · obtain ⟨s, hs⟩ := AObj.rel_name (h.obj i o h1)
        have hs' := hp i s hs
        rw [hb] at hs'
        injection hs' with hs'
        subst hs'
        obtain ⟨x1, x2, x3⟩ := h.own i o b C e h1 hs
        exact ⟨x1, (h2 b C e hs).2, Nat.lt_of_lt_of_le x3 hsize⟩
      · exact h1.2 b C e hb
    inj := hinj, free := hfree
    env := fun t v ht => let ⟨V, h1, h2⟩ := h.env t v (henv t v ht); ⟨V, h1, AVal.rel_le hp hm v V h2⟩
    nt := h.nt }

/-- A new object. -/
theorem RelC.alloc (h : RelC c φ m f a W) {i : Nat} (hi : f (.h i) = .free) {O : Obj} {o : AObj} {C e : Nat}
    (ho : o.rel (updN φ i (.blk W.heap.size C e)) m (W.alloc O) i) : RelC c (updN φ i (.blk W.heap.size C e)) m (upd f (.h i) (.o o)) a (W.alloc O) := by
  have hn := h.free i hi
  have hp : NamesLe φ (updN φ i (.blk W.heap.size C e)) := updN_le _ hn
  refine h.step (fun _ => False) rfl rfl rfl (by simp) hp (MemLe.refl m) (fun b hb _ => Below.heap_alloc W O b hb) (fun _ _ x => x.elim) (fun _ _ hb => .inl hb) ?_ ?_ ?_ ?_
  · intro j o' hj
    by_cases e1 : j = i
    · subst e1
      rw [upd_self] at hj
      injection hj with hj
      subst hj
      refine .inr ⟨ho, fun b C' e' hb => ?_⟩
      rw [updN_self] at hb
      injection hb with hb
      injection hb with hb _ _
      subst hb
      refine ⟨.inl h.size, ?_, by simp⟩
      cases hm : m W.heap.size with
      | none => rfl
      | some o2 =>
        have := h.mem _ _ hm
        simp at this
    · rw [upd_other (by simpa using e1)] at hj
      exact .inl ⟨hj, fun b C' e' hb => ⟨id, (h.own j o' b C' e' hj hb).2.1⟩⟩
  · intro j k o1 o2 b C1 e1 C2 e2 hj hk bj bk
    by_cases ej : j = i
    · by_cases ek : k = i
      · rw [ej, ek]
      · exfalso
        subst ej
        rw [updN_self] at bj
        injection bj with bj
        injection bj with bj _ _
        rw [upd_other (by simpa using ek)] at hk
        rw [updN_other ek] at bk
        have := (h.own k o2 b C2 e2 hk bk).2.2
        omega
    · by_cases ek : k = i
      · exfalso
        subst ek
        rw [updN_self] at bk
        injection bk with bk
        injection bk with bk _ _
        rw [upd_other (by simpa using ej)] at hj
        rw [updN_other ej] at bj
        have := (h.own j o1 b C1 e1 hj bj).2.2
        omega
      · rw [upd_other (by simpa using ej)] at hj
        rw [upd_other (by simpa using ek)] at hk
        rw [updN_other ej] at bj
        rw [updN_other ek] at bk
        exact h.inj j k o1 o2 b C1 e1 C2 e2 hj hk bj bk
  · intro j hj
    by_cases ej : j = i
    · subst ej; rw [upd_self] at hj; cases hj
    · rw [upd_other (by simpa using ej)] at hj
      rw [updN_other ej]
      exact h.free j hj
  · intro t v ht
    rwa [upd_other (by simp)] at ht

/-- An object that has no block (a nil row). -/
theorem RelC.allocNil (h : RelC c φ m f a W) {i : Nat} (hi : f (.h i) = .free) {ty : TypeId} : RelC c (updN φ i .nil) m (upd f (.h i) (.o (.row [] ty))) a W := by
  have hn := h.free i hi
  have hp : NamesLe φ (updN φ i .nil) := updN_le _ hn
  refine h.step (fun _ => False) rfl rfl rfl (Nat.le_refl _) hp (MemLe.refl m) (fun b hb _ => rfl) (fun _ _ x => x.elim) (fun _ _ hb => .inl hb) ?_ ?_ ?_ ?_
  · intro j o' hj
    by_cases e1 : j = i
    · subst e1
      rw [upd_self] at hj
      injection hj with hj
      subst hj
      refine .inr ⟨.inl ⟨updN_self _ _ _, rfl⟩, fun b C' e' hb => ?_⟩
      rw [updN_self] at hb
      injection hb with hb
      cases hb
    · rw [upd_other (by simpa using e1)] at hj
      exact .inl ⟨hj, fun b C' e' hb => ⟨id, (h.own j o' b C' e' hj hb).2.1⟩⟩
  · intro j k o1 o2 b C1 e1 C2 e2 hj hk bj bk
    by_cases ej : j = i
    · subst ej; rw [updN_self] at bj; injection bj with bj; cases bj
    · by_cases ek : k = i
      · subst ek; rw [updN_self] at bk; injection bk with bk; cases bk
      · rw [upd_other (by simpa using ej)] at hj
        rw [upd_other (by simpa using ek)] at hk
        rw [updN_other ej] at bj
        rw [updN_other ek] at bk
        exact h.inj j k o1 o2 b C1 e1 C2 e2 hj hk bj bk
  · intro j hj
    by_cases ej : j = i
    · subst ej; rw [upd_self] at hj; cases hj
    · rw [upd_other (by simpa using ej)] at hj
      rw [updN_other ej]
      exact h.free j hj
  · intro t v ht
    rwa [upd_other (by simp)] at ht

/-- An object is written in place. -/
theorem RelC.setObj (h : RelC c φ m f a W) {i : Nat} {o : AObj} (hi : f (.h i) = .o o) {b C e : Nat} (hb : φ i = some (.blk b C e)) {W' : World} {o' : AObj}
    (hos : W'.os = W.os) (hout : W'.output = W.output) (htape : W'.tape = W.tape) (hsz : W'.heap.size = W.heap.size) (hsame : ∀ k, k ≠ b → W'.heap[k]? = W.heap[k]?)
    (ho : o'.rel φ m W' i) : RelC c φ m (upd f (.h i) (.o o')) a W' := by
  refine h.step (fun k => k = b) hos hout htape (by omega) (NamesLe.refl φ) (MemLe.refl m) (fun k _ hk => hsame k hk) ?_ (fun _ _ hb => .inl hb) ?_ ?_ ?_ ?_
  · rintro k hk rfl
    have := h.own i o k C e hi hb
    exact ⟨this.1, this.2.1⟩
  · intro j o1 hj
    by_cases ej : j = i
    · subst ej
      rw [upd_self] at hj
      injection hj with hj
      subst hj
      refine .inr ⟨ho, fun b1 C1 e1 h1 => ?_⟩
      have := h.own j o b1 C1 e1 hi h1
      exact ⟨this.1, this.2.1, by omega⟩
    · rw [upd_other (by simpa using ej)] at hj
      refine .inl ⟨hj, fun b1 C1 e1 h1 => ⟨?_, (h.own j o1 b1 C1 e1 hj h1).2.1⟩⟩
      rintro rfl
      exact ej (h.inj j i o1 o b1 C1 e1 C e hj hi h1 hb)
  · intro j k o1 o2 b1 C1 e1 C2 e2 hj hk bj bk
    have key : ∀ j o1, upd f (.h i) (.o o') (.h j) = .o o1 → ∃ o2, f (.h j) = .o o2 := by
      intro j o1 hj
      by_cases ej : j = i
      · exact ⟨o, ej ▸ hi⟩
      · rw [upd_other (by simpa using ej)] at hj; exact ⟨o1, hj⟩
    obtain ⟨p1, hp1⟩ := key j o1 hj
    obtain ⟨p2, hp2⟩ := key k o2 hk
    exact h.inj j k p1 p2 b1 C1 e1 C2 e2 hp1 hp2 bj bk
  · intro j hj
    by_cases ej : j = i
    · subst ej; rw [upd_self] at hj; cases hj
    · rw [upd_other (by simpa using ej)] at hj
      exact h.free j hj
  · intro t v ht
    rwa [upd_other (by simp)] at ht

/-- An object goes on under a new name, in the block that it has (written or not). -/
theorem RelC.rename (h : RelC c φ m f a W) {i j : Nat} {o : AObj} (hi : f (.h i) = .o o) (hj : f (.h j) = .free) {b C e : Nat} (hb : φ i = some (.blk b C e)) {W' : World} {o' : AObj}
    (hos : W'.os = W.os) (hout : W'.output = W.output) (htape : W'.tape = W.tape) (hsz : W'.heap.size = W.heap.size) (hsame : ∀ k, k ≠ b → W'.heap[k]? = W.heap[k]?)
    (ho : o'.rel (updN φ j (.blk b C e)) m W' j) : RelC c (updN φ j (.blk b C e)) m (upd (upd f (.h i) .none) (.h j) (.o o')) a W' := by
  have hn := h.free j hj
  have hp : NamesLe φ (updN φ j (.blk b C e)) := updN_le _ hn
  have hij : i ≠ j := by rintro rfl; rw [hi] at hj; cases hj
  have key : ∀ k o1, k ≠ j → upd (upd f (.h i) .none) (.h j) (.o o') (.h k) = .o o1 → k ≠ i ∧ f (.h k) = .o o1 := by
    intro k o1 ek hk
    rw [upd_other (by simpa using ek)] at hk
    by_cases ei : k = i
    · subst ei; rw [upd_self] at hk; cases hk
    · rw [upd_other (by simpa using ei)] at hk; exact ⟨ei, hk⟩
  refine h.step (fun k => k = b) hos hout htape (by omega) hp (MemLe.refl m) (fun k _ hk => hsame k hk) ?_ (fun _ _ hb => .inl hb) ?_ ?_ ?_ ?_
  · rintro k hk rfl
    have := h.own i o k C e hi hb
    exact ⟨this.1, this.2.1⟩
  · intro k o1 hk
    by_cases ek : k = j
    · subst ek
      rw [upd_self] at hk
      injection hk with hk
      subst hk
      refine .inr ⟨ho, fun b1 C1 e1 h1 => ?_⟩
      rw [updN_self] at h1
      injection h1 with h1
      injection h1 with h1 _ _
      subst h1
      have := h.own i o b C e hi hb
      exact ⟨this.1, this.2.1, by omega⟩
    · obtain ⟨ei, hk⟩ := key k o1 ek hk
      refine .inl ⟨hk, fun b1 C1 e1 h1 => ⟨?_, (h.own k o1 b1 C1 e1 hk h1).2.1⟩⟩
      rintro rfl
      exact ei (h.inj k i o1 o b1 C1 e1 C e hk hi h1 hb)
  · intro x y o1 o2 b1 C1 e1 C2 e2 hx hy bx by_
    by_cases ex : x = j
    · by_cases ey : y = j
      · rw [ex, ey]
      · exfalso
        obtain ⟨ei, hy2⟩ := key y o2 ey hy
        subst ex
        rw [updN_self] at bx
        injection bx with bx
        injection bx with bx _ _
        subst bx
        rw [updN_other ey] at by_
        exact ei (h.inj y i o2 o b C2 e2 C e hy2 hi by_ hb)
    · obtain ⟨ei, hx2⟩ := key x o1 ex hx
      rw [updN_other ex] at bx
      by_cases ey : y = j
      · exfalso
        subst ey
        rw [updN_self] at by_
        injection by_ with by_
        injection by_ with by_ _ _
        subst by_
        exact ei (h.inj x i o1 o b C1 e1 C e hx2 hi bx hb)
      · obtain ⟨_, hy2⟩ := key y o2 ey hy
        rw [updN_other ey] at by_
        exact h.inj x y o1 o2 b1 C1 e1 C2 e2 hx2 hy2 bx by_
  · intro k hk
    by_cases ek : k = j
    · subst ek; rw [upd_self] at hk; cases hk
    · rw [upd_other (by simpa using ek)] at hk
      by_cases ei : k = i
      · subst ei; rw [upd_self] at hk; cases hk
      · rw [upd_other (by simpa using ei)] at hk
        rw [updN_other ek]
        exact h.free k hk
  · intro t v ht
    rwa [upd_other (by simp), upd_other (by simp)] at ht

theorem StLe.kill (f : StF) (k : Key) : StLe (upd f k .none) f := by
  intro k'
  by_cases e : k' = k
  · subst e; exact .inl (upd_self _ _ _)
  · exact .inr (upd_other e)

/-- A nil row under a new name. -/
theorem RelC.kill (h : RelC c φ m f a W) (k : Key) : RelC c φ m (upd f k .none) a W := h.weaken (StLe.kill f k)

/-- A row that nobody will write any more: it becomes a value. -/
theorem RelC.freeze (h : RelC c φ m f a W) {i : Nat} {o : AObj} (hi : f (.h i) = .o o) {b C e : Nat} (hb : φ i = some (.blk b C e)) {O : Obj} (hO : W.heap[b]? = some O) :
    RelC c φ (fun k => if k = b then some O else m k) (upd f (.h i) .none) a W := by
  have hown := h.own i o b C e hi hb
  have hm : MemLe m (fun k => if k = b then some O else m k) := by
    intro k o1 hk
    by_cases ek : k = b
    · subst ek; rw [hown.2.1] at hk; cases hk
    · simp only [if_neg ek]; exact hk
  refine h.step (fun _ => False) rfl rfl rfl (Nat.le_refl _) (NamesLe.refl φ) hm (fun _ _ _ => rfl) (fun _ _ x => x.elim) ?_ ?_ ?_ ?_ ?_
  · intro k o1 hk
    by_cases ek : k = b
    · subst ek
      simp only [if_true] at hk
      injection hk with hk
      subst hk
      exact .inr ⟨hO, hown.1⟩
    · simp only [if_neg ek] at hk; exact .inl hk
  · intro j o1 hj
    by_cases ej : j = i
    · subst ej; rw [upd_self] at hj; cases hj
    · rw [upd_other (by simpa using ej)] at hj
      refine .inl ⟨hj, fun b1 C1 e1 h1 => ⟨id, ?_⟩⟩
      have hne : b1 ≠ b := by rintro rfl; exact ej (h.inj j i o1 o b1 C1 e1 C e hj hi h1 hb)
      simp only [if_neg hne]
      exact (h.own j o1 b1 C1 e1 hj h1).2.1
  · intro x y o1 o2 b1 C1 e1 C2 e2 hx hy bx by_
    by_cases ex : x = i
    · subst ex; rw [upd_self] at hx; cases hx
    · by_cases ey : y = i
      · subst ey; rw [upd_self] at hy; cases hy
      · rw [upd_other (by simpa using ex)] at hx
        rw [upd_other (by simpa using ey)] at hy
        exact h.inj x y o1 o2 b1 C1 e1 C2 e2 hx hy bx by_
  · intro k hk
    by_cases ei : k = i
    · subst ei; rw [upd_self] at hk; cases hk
    · rw [upd_other (by simpa using ei)] at hk; exact h.free k hk
  · intro t v ht
    rwa [upd_other (by simp)] at ht

end
end Go.Proofs.Hg
