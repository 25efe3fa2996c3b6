/- Functions that range over functions: the marks among the deferred calls, the statement. -/
import Derived.Test.YtcicjmhealkigaaE1
set_option linter.unusedVariables false
set_option linter.unusedSimpArgs false
namespace Go.Proofs.Hg
open Go.RowKit

def marksOf (ds : List Nat) : List Deferred := ds.map fun D => { target := .collected D, args := #[] }

structure MarkOk (c : Ctx) (m : Mem) (ds : List Nat) : Prop where
  at_ : ∀ D ∈ ds, m D = some (.deferred (some [])) ∧ c.w0.heap.size ≤ D
  nd : ds.Nodup

theorem MarkOk.le {c : Ctx} {m m' : Mem} {ds : List Nat} (h : MarkOk c m ds) (hm : MemLe m m') : MarkOk c m' ds := ⟨fun D hD => ⟨hm _ _ (h.at_ D hD).1, (h.at_ D hD).2⟩, h.nd⟩
theorem MarkOk.nil (c : Ctx) (m : Mem) : MarkOk c m [] := ⟨fun D hD => by simp at hD, List.nodup_nil⟩

/-- What code does that may range over functions. -/
def AWpM (P : Program) (N h : Nat) (code : Code) (S : St) (Q : Exit → St → Prop) : Prop :=
  ∀ (c : Ctx) (n : Nat) (φ : Names) (m : Mem) (a : Act) (W : World) (ds : List Nat), c.nt = N → (∀ i, h ≤ i → c.φ0 i = none) → RelC c φ m S.fn a W → a.defers = marksOf ds → MarkOk c m ds →
    code.wpIn (wideR none) n P (fun e a' W' => ∃ φ' m' S' ds', RelC c φ' m' S'.fn a' W' ∧ a'.defers = marksOf ds' ∧ MarkOk c m' ds' ∧ Q e S') a W

section
variable {P : Program} {N h : Nat} {S S' : St} {Q Q' : Exit → St → Prop}

theorem here_high {c : Ctx} {φ : Names} {m : Mem} {k : Nat} : ∀ i, k ≤ i → (c.here m φ k).φ0 i = none := fun i hi => by simp only [Ctx.here]; rw [if_neg (by omega)]

theorem AWpM.of {code : Code} (hw : AWp P N h code S Q) : AWpM P N h code S Q := fun c n φ m a W ds hN h0 hc hd hk => by
  refine wpIn_mono (hw (c.here m φ h) none n φ m a W hN here_high (hc.here h)) ?_
  rintro e a' W' ⟨φ1, m1, S1, c1, d1, q1⟩
  obtain ⟨c2, l2, _⟩ := hc.back h0 c1
  exact ⟨φ1, m1, S1, ds, c2, d1.trans hd, hk.le l2, q1⟩

theorem AWpM.seq {x y : Code} (hx : AWpM P N h x S (thenA (fun S1 => AWpM P N h y S1 Q) Q)) : AWpM P N h (.seq x y) S Q := fun c n φ m a W ds hN h0 hc hd hk => by
  refine wpIn_seq (wpIn_mono (hx c n φ m a W ds hN h0 hc hd hk) ?_)
  rintro e a' W' ⟨φ1, m1, S1, ds1, c1, d1, k1, q1⟩
  cases e with
  | normal => exact q1 c n φ1 m1 a' W' ds1 hN h0 c1 d1 k1
  | exit i => exact ⟨φ1, m1, S1, ds1, c1, d1, k1, q1⟩
  | goto l => exact ⟨φ1, m1, S1, ds1, c1, d1, k1, q1⟩
  | ret => exact ⟨φ1, m1, S1, ds1, c1, d1, k1, q1⟩
  | panic x => exact ⟨φ1, m1, S1, ds1, c1, d1, k1, q1⟩
  | outgrown => exact ⟨φ1, m1, S1, ds1, c1, d1, k1, q1⟩

theorem AWpM.block {i : Nat} {x : Code} (hx : AWpM P N h x S (inBlockA i Q)) : AWpM P N h (.block i x) S Q := fun c n φ m a W ds hN h0 hc hd hk => by
  refine wpIn_block (wpIn_mono (hx c n φ m a W ds hN h0 hc hd hk) ?_)
  rintro e a' W' ⟨φ1, m1, S1, ds1, c1, d1, k1, q1⟩
  cases e with
  | normal => exact ⟨φ1, m1, S1, ds1, c1, d1, k1, q1⟩
  | exit j =>
    simp only [Exit.inBlock]
    simp only [inBlockA] at q1
    split
    · rename_i e; rw [if_pos e] at q1; exact ⟨φ1, m1, S1, ds1, c1, d1, k1, q1⟩
    · rename_i e; rw [if_neg e] at q1; exact ⟨φ1, m1, S1, ds1, c1, d1, k1, q1⟩
  | goto l => exact ⟨φ1, m1, S1, ds1, c1, d1, k1, q1⟩
  | ret => exact ⟨φ1, m1, S1, ds1, c1, d1, k1, q1⟩
  | panic x => exact ⟨φ1, m1, S1, ds1, c1, d1, k1, q1⟩
  | outgrown => exact ⟨φ1, m1, S1, ds1, c1, d1, k1, q1⟩

theorem AWpM.cond {o : Operand} {x y : Code} {b : Bool} (ho : S.opnd o = some (.one (dv (.bool b)))) (ht : b = true → AWpM P N h x S Q) (hf : b = false → AWpM P N h y S Q) : AWpM P N h (.cond o x y) S Q :=
  fun c n φ m a W ds hN h0 hc hd hk =>
  have hv : a.eval o = .bool b := opnd_at hc ho
  wpIn_cond_split hv (fun e => ht e c n φ m a W ds hN h0 hc hd hk) (fun e => hf e c n φ m a W ds hN h0 hc hd hk)

theorem AWpM.conv {code : Code} (hv : Conv N h S S') (hw : AWpM P N h code S' Q) : AWpM P N h code S Q := fun c n φ m a W ds hN h0 hc hd hk => by
  obtain ⟨φ1, m1, c1⟩ := hv (c.here m φ h) φ m a W hN here_high (hc.here h)
  obtain ⟨c2, l2, _⟩ := hc.back h0 c1
  exact hw c n φ1 m1 a W ds hN h0 c2 hd (hk.le l2)

theorem AWpM.mono {code : Code} (hw : AWpM P N h code S Q) (hq : ∀ e S', Q e S' → Q' e S') : AWpM P N h code S Q' := fun c n φ m a W ds hN h0 hc hd hk => by
  refine wpIn_mono (hw c n φ m a W ds hN h0 hc hd hk) ?_
  rintro e a' W' ⟨φ1, m1, S1, ds1, c1, d1, k1, q1⟩
  exact ⟨φ1, m1, S1, ds1, c1, d1, k1, hq e S1 q1⟩

/-! ### what a function value that is ranged over does -/
/-- The rounds' state: it stands wherever nothing of it is touched. -/
structure GOk (G : Nat → Mem → World → Prop) : Prop where
  stable : ∀ i m W m' W', G i m W → Below W.heap.size W W' → MemLe m m' → (∀ b o, m' b = some o → W'.heap[b]? = some o) → (∀ b o, m' b = some o → m b = some o ∨ W.heap.size ≤ b) → G i m' W'
  mem : ∀ i m W, G i m W → ∀ b o, m b = some o → W.heap[b]? = some o

/-- A call of yield: a round. -/
def YAt (F : Fence) (n : Nat) (P : Program) (l : Nat) (args : Array Value) (W : World) (R : Ending → World → Prop) : Prop :=
  ∃ fn tmps assign body, (Instr.yield l args).run P W = .ok (.round l fn tmps assign body) W ∧ RoundIn F n P l fn tmps assign body W R

def YieldsTo (P : Program) (n l : Nat) (xs : List D) (G : Nat → Mem → World → Prop) : Prop :=
  ∀ (i : Nat) (x : D) (V : Value) (m : Mem) (W : World), xs[i]? = some x → D.rel m x V → G i m W →
    YAt (wideR none) (n - 1) P l #[V] W fun e W' => e = .returned (.bool true) ∧ ∃ m', MemLe m m' ∧ G (i + 1) m' W'

structure IterOk (P : Program) (gf : Nat) (caps xs : List D) : Prop where
  enter : ∀ args w, (callFunc gf args).run P w = .ok (.enter gf args) w
  run : ∀ (n l : Nat) (m : Mem) (vs : List Value) (W : World) (G : Nat → Mem → World → Prop), GOk G → D.relVals m caps vs → YieldsTo P n l xs G → G 0 m W →
    CallsIn (wideR none) n P gf (#[.func (.yield l) #[] #[]] ++ vs.toArray) W fun e W' => (∃ v, e = .returned v) ∧ ∃ m', G xs.length m' W'

theorem marksOf_cons (D : Nat) (ds : List Nat) : marksOf (D :: ds) = { target := .collected D, args := #[] } :: marksOf ds := rfl

/-- **THE STATEMENT**: the state at the i-th round is ⟨E, (I i).1, (I i).2⟩. -/
theorem AWpM.range {g : Operand} {p : Tmp} {assign body : Code} {gf : Nat} {caps xs : List D} (k : Nat) (E : List (Nat × AVal)) (I : Nat → List (Nat × AObj) × Nat) (hp : p < N) (hk : h ≤ k)
    (hg : S.opnd g = some (.one (dv (.func gf caps)))) (hit : IterOk P gf caps xs) (h0 : Conv N h S ⟨E, (I 0).1, (I 0).2⟩) (hE : ∀ q ∈ E, ∀ j ∈ q.2.ids, j < k)
    (hround : ∀ (i : Nat) (x : D), xs[i]? = some x → AWp P N k assign ⟨(p, .one (dv x)) :: E, (I i).1, (I i).2⟩ fun e S1 => e = .normal ∧
      AWp P N k body S1 fun e2 S2 => e2 = .normal ∧ ∃ S3, Conv N k S2 S3 ∧ S3.heap = (I (i + 1)).1 ∧ S3.nxt = (I (i + 1)).2)
    (hq : Q .normal ⟨E, (I xs.length).1, (I xs.length).2⟩) : AWpM P N h (.rangeFunc g #[p] assign body) S Q := by
  intro c n φ m a W ds hN hφ hc hd hmk
  obtain ⟨vs, hgv, hcaps⟩ : ∃ vs : List Value, a.eval g = .func (.func gf) #[] vs.toArray ∧ D.relVals m caps vs := opnd_at hc hg
  -- the state at the beginning
  obtain ⟨φ1, m1, c1⟩ := h0 (c.here m φ h) φ m a W hN here_high (hc.here h)
  obtain ⟨c1, l1, _⟩ := hc.back hφ c1
  have hmk1 := hmk.le l1
  have hcaps1 := relVals_le l1 caps vs hcaps
  clear hc
  refine wpIn_rangeFunc ?_
  intro fn hfn
  have hro : (wideR none).round = none := rfl
  rw [hro]
  obtain ⟨rec, hrec⟩ : ∃ rec : LoopState → Loop, rec = fun st => { state := st, pending := none, fn, tmps := a.tmps, params := #[p], assign, body, defers := W.heap.size } := ⟨_, rfl⟩
  obtain ⟨W1, hW1⟩ : ∃ W1, (W.alloc (.deferred (some []))).alloc (.loop (rec .ready)) = W1 := ⟨_, rfl⟩
  have hL1 : W1.heap[W.heap.size + 1]? = some (.loop (rec .ready)) := by
    rw [← hW1]; have := World.alloc_heap_new (W.alloc (.deferred (some []))) (.loop (rec .ready)); rwa [World.size_alloc] at this
  have hK1 : W1.heap[W.heap.size]? = some (.deferred (some [])) := by
    rw [← hW1]; exact (Below.heap_alloc _ _ _ (by simp)).trans (World.alloc_heap_new W _)
  have hb1 : Below W.heap.size W W1 := by
    rw [← hW1]; exact ((Below.refl _ W).alloc (Nat.le_refl _) _).alloc (by simp) _
  have hcw : c.w0.heap.size ≤ W.heap.size := c1.size
  have hm1sz : ∀ b o, m1 b = some o → b < W.heap.size := fun b o hb => (Array.getElem?_eq_some_iff.1 (c1.mem b o hb)).1
  obtain ⟨c2, l2⟩ := (c1.below hb1).hold hK1 rfl (.inl hcw)
  refine ⟨W.heap.size + 1, [{ target := .collected W.heap.size, args := #[] }], W1, { target := .fn (.func gf) vs.toArray, args := #[.func (.yield (W.heap.size + 1)) #[] #[]] }, W1, gf,
    #[.func (.yield (W.heap.size + 1)) #[] #[]] ++ vs.toArray, W1, ?_, ?_, ?_, ?_, ?_, ?_⟩
  · rw [← hW1, hrec]; exact run_enterLoop_outer _ _ _ _ _
  · simp only [resolve, hgv]
    simp [Deferred.ofValue, Act.eval]
  · intro f' hf'; trivial
  · simp [invoke, hit.enter]
  · intro hx; simp [wideR, Fence.wide] at hx
  -- the rounds' state
  let l := W.heap.size + 1
  let mA := m1.add W.heap.size (.deferred (some []))
  let f : Nat → StF := fun i => St.fn ⟨E, (I i).1, (I i).2⟩
  let G : Nat → Mem → World → Prop := fun i m' W' => ∃ φ', RelC c φ' m' (f i) a W' ∧ MemLe mA m' ∧ W'.heap[l]? = some (.loop (rec .ready)) ∧ m' l = none
  have hGok : GOk G := by
    constructor
    · rintro i m2 W2 m3 W3 ⟨φ', q1, q2, q3, q4⟩ hB hle hin hnew
      have hlt := (Array.getElem?_eq_some_iff.1 q3).1
      refine ⟨φ', q1.stable hB hle hin hnew, q2.trans hle, (hB.block _ hlt).trans q3, ?_⟩
      cases hx : m3 l with
      | none => rfl
      | some o =>
        rcases hnew l o hx with h1 | h1
        · rw [q4] at h1; cases h1
        · omega
    · rintro i m2 W2 ⟨φ', q1, _⟩
      exact q1.mem
  have hm0l : c.m0 l = none := by
    cases hx : c.m0 l with
    | none => rfl
    | some o =>
      have h1 := hm1sz l o (c1.m0 l o hx)
      simp only [l] at h1
      omega
  have hl : c.w0.heap.size ≤ l := by simp only [l]; omega
  refine (hit.run (n - 1) l mA vs W1 G hGok (relVals_le l2 caps vs hcaps1) ?_ ?_).mono ?_
  · -- one round
    rintro i x V m2 W2 hx hxV ⟨φ2, q1, q2, q3, q4⟩
    have hy := run_yield (P := P) (args := #[V]) q3 (by rw [hrec]; rfl)
    rw [hrec] at hy
    refine ⟨fn, _, assign, body, hy, roundIn_of_wpIn hfn ?_⟩
    have hro2 : (wideR none).inRound l = wideR (some l) := rfl
    rw [hro2]
    have htm : a.tmps.size = N := by have := q1.nt; rw [hN] at this; exact this
    -- the round's activation
    have hz : (Array.zip #[p] #[V]).foldl (fun t (x : Tmp × Value) => t.setIfInBounds x.1 x.2) a.tmps = a.tmps.setIfInBounds p V := by simp [Array.zip, Array.zipWith, Array.zipWithMAux]
    have q1' : RelC c φ2 m2 (St.fn ⟨(p, .one (dv x)) :: E, (I i).1, (I i).2⟩) { tmps := (Array.zip #[p] #[V]).foldl (fun t (x : Tmp × Value) => t.setIfInBounds x.1 x.2) a.tmps, defers := [] } W2 := by
      refine q1.act (fun j => rfl) ?_ (by rw [hz, hN]; simpa using htm)
      rw [hz]
      intro t v ht
      simp only [St.fn, lookN] at ht
      by_cases e : p = t
      · subst e
        simp only [if_true, Ent.v.injEq] at ht
        subst ht
        refine ⟨V, ?_, hxV⟩
        show (a.tmps.setIfInBounds p V)[p]? = some V
        rw [Array.getElem?_setIfInBounds]
        simp [htm, hp]
      · rw [if_neg e] at ht
        obtain ⟨U, u1, u2⟩ := q1.env t v ht
        refine ⟨U, ?_, u2⟩
        show (a.tmps.setIfInBounds p V)[t]? = some U
        rw [Array.getElem?_setIfInBounds_ne e]
        exact u1
    obtain ⟨r1, r2⟩ := q1'.hold q3 rfl (.inl hl)
    have hφk : ∀ i, k ≤ i → c.φ0 i = none := fun i hi => hφ i (by omega)
    refine wpIn_mono ((hround i x hx) (c.here (m2.add l (.loop (rec .ready))) φ2 k) (some l) (n - 1 - 1) φ2 _ _ W2 hN here_high (r1.here k)) ?_
    rintro e1 a1 W3 ⟨φ3, m3, S1, s1, _, rfl, hbody⟩
    obtain ⟨s1, s2, s3⟩ := r1.back hφk s1
    have hr3 : W3.heap[l]? = some (.loop (rec .ready)) := s1.mem l _ (s2 l _ (by simp [Mem.add]))
    have t1 := s1.release [l] (fun b hb => by simp at hb; subst hb; exact hm0l) (fun b hb O hO => by
      simp at hb; subst hb
      have := s1.mem l O hO
      rw [hr3] at this; injection this with this; subst this; rfl)
    have t2 := t1.putAux hr3 rfl (by simp [Mem.cut]) (.inl hl) (.loop (rec .busy))
    have hlt3 := (Array.getElem?_eq_some_iff.1 hr3).1
    have hr4 : (W3.putObj l (.loop (rec .busy))).heap[l]? = some (.loop (rec .busy)) := World.putObj_heap_same hlt3
    have hbr := run_beginRound (P := P) hr3 (by rw [hrec])
    refine ⟨W3.putObj l (.loop (rec .busy)), by rw [hrec] at hbr ⊢; exact hbr, ?_⟩
    obtain ⟨u1, u2⟩ := t2.hold hr4 rfl (.inl hl)
    refine wpIn_mono (hbody (c.here ((m3.cut [l]).add l (.loop (rec .busy))) φ3 k) (some l) (n - 1 - 1) φ3 _ a1 _ hN here_high (u1.here k)) ?_
    rintro e2 a2 W5 ⟨φ5, m5, S2, v1, _, rfl, S3, hcv, hS3, hS3n⟩
    obtain ⟨φ6, m6, v1⟩ := hcv (c.here ((m3.cut [l]).add l (.loop (rec .busy))) φ3 k) φ5 m5 a2 W5 hN here_high v1
    obtain ⟨v1, v2, v3⟩ := u1.back hφk v1
    have hr5 : W5.heap[l]? = some (.loop (rec .busy)) := v1.mem l _ (v2 l _ (by simp [Mem.add]))
    have w1 := v1.release [l] (fun b hb => by simp at hb; subst hb; exact hm0l) (fun b hb O hO => by
      simp at hb; subst hb
      have := v1.mem l O hO
      rw [hr5] at this; injection this with this; subst this; rfl)
    have w2 := w1.putAux hr5 rfl (by simp [Mem.cut]) (.inl hl) (.loop (rec .ready))
    have hlt5 := (Array.getElem?_eq_some_iff.1 hr5).1
    have hend := run_endRound (P := P) none hr5
    -- what was there stays
    have hle : MemLe m2 (m6.cut [l]) := by
      intro b o hb
      have hbl : b ≠ l := fun e => by rw [e, q4] at hb; cases hb
      have h1 : (m2.add l (.loop (rec .ready))) b = some o := by simp [Mem.add, hbl, hb]
      have h2 := s2 b o h1
      have h3 : ((m3.cut [l]).add l (.loop (rec .busy))) b = some o := by simp [Mem.add, Mem.cut, hbl, h2]
      have h4 := v2 b o h3
      simp [Mem.cut, hbl, h4]
    have hnm : ∀ j, j < k → ∀ s, φ2 j = some s → φ6 j = some s := fun j hj s hs => v3 j hj s (s3 j hj s hs)
    refine ⟨.bool true, W5.putObj l (.loop (rec .ready)), by rw [hrec] at hend ⊢; exact hend, rfl, m6.cut [l], hle, φ6, ?_, q2.trans hle, World.putObj_heap_same hlt5, by simp [Mem.cut]⟩
    refine w2.act (fun j => by simp only [f, St.fn, hS3, hS3n]) ?_ q1.nt
    intro t v ht
    have ht2 : lookN t E = some v := by
      simp only [f, St.fn] at ht
      cases hx : lookN t E with
      | none => rw [hx] at ht; cases ht
      | some v' => rw [hx] at ht; simp only [Ent.v.injEq] at ht; rw [ht]
    obtain ⟨U, z1, z2⟩ := q1.env t v ht
    exact ⟨U, z1, AVal.rel_low hnm hle (hE _ (lookN_mem ht2)) z2⟩
  · -- the first round's state
    refine ⟨φ1, c2, MemLe.refl _, hL1, ?_⟩
    cases hx : mA l with
    | none => rfl
    | some o =>
      simp only [mA, Mem.add, l] at hx
      rw [if_neg (by omega)] at hx
      have := hm1sz _ o hx
      omega
  · -- behind the iterator
    rintro e W6 ⟨⟨v, rfl⟩, m6, φ6, q1, q2, q3, q4⟩
    have hend := run_endLoop (P := P) q3 (by rw [hrec]; simp)
    have hend2 : (Instr.endLoop l).run P W6 = .ok none (W6.putObj l (.loop (rec .exhausted))) := by rw [hrec] at hend ⊢; exact hend
    refine ⟨none, _, hend2, ?_⟩
    have r1 := q1.putAux q3 rfl q4 (.inl hl) (.loop (rec .exhausted))
    refine ⟨φ6, m6, ⟨E, (I xs.length).1, (I xs.length).2⟩, W.heap.size :: ds, ?_, ?_, ⟨?_, ?_⟩, hq⟩
    · have r2 := r1.act (a' := { a with defers := [{ target := .collected W.heap.size, args := #[] }] ++ a.defers }) (fun j => rfl) r1.env r1.nt
      exact r2
    · rw [marksOf_cons, ← hd]; rfl
    · intro D hD
      rcases List.mem_cons.1 hD with rfl | hD
      · exact ⟨q2 _ _ (by simp [mA, Mem.add]), hcw⟩
      · obtain ⟨z1, z2⟩ := hmk1.at_ D hD
        exact ⟨q2 _ _ (l2 _ _ z1), z2⟩
    · refine List.nodup_cons.2 ⟨fun hD => ?_, hmk.nd⟩
      have := hm1sz _ _ (hmk1.at_ _ hD).1
      omega

end
end Go.Proofs.Hg
