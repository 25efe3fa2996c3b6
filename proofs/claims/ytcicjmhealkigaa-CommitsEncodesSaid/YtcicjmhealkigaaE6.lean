/- Cells that nobody will write any more become values; closures over them. -/
import Derived.Test.YtcicjmhealkigaaE5
set_option linter.unusedVariables false
set_option linter.unusedSimpArgs false
namespace Go.Proofs.Hg
open Go.RowKit

theorem fintV_of {s : FloatKind} {b : Nat} {n : Int} (h : (s.decode b).toInt .zero = some n) : fintV s b = n := by unfold fintV; rw [h]; rfl
theorem i64_min : IntKind.i64.min = -9223372036854775808 := by decide
theorem i64_max : IntKind.i64.max = 9223372036854775807 := by decide
theorem float_ob {b : Nat} (h : (fgeq b 0 && fleq b c65535) = true) : ((FloatKind.f64.decode b).toInt .zero).isSome = true ∧ IntKind.i64.min ≤ fintV .f64 b ∧ fintV .f64 b ≤ IntKind.i64.max ∧ 0 ≤ fintV .f64 b ∧ fintV .f64 b ≤ 65535 := by
  rw [Bool.and_eq_true] at h
  obtain ⟨n, h1, h2, h3⟩ := float_range h.1 h.2
  rw [fintV_of h1, h1, i64_min, i64_max]
  exact ⟨rfl, by omega, by omega, h2, h3⟩

section
variable {N h : Nat} {S S' : St} {c : Ctx} {φ : Names} {m : Mem} {f : StF} {a : Act} {W : World}

theorem freeze_cells (hc : RelC c φ m f a W) {i : Nat} {vs : List Sc} {ty : TypeId} {ds : List D} (hi : f (.h i) = .o (.cells vs ty)) (hds : toDs vs = some ds) :
    ∃ m', RelC c φ m' (upd f (.h i) .none) a W ∧ MemLe m m' ∧ ∀ off V, (Sc.ptr i off).rel φ m V → (D.ptr (ds.drop off)).rel m' V := by
  obtain ⟨b, C, e, cs, fr, h1, h2, h3, h4⟩ := hc.obj i _ hi
  have hm : MemLe m (fun k => if k = b then some (.cells cs ty fr) else m k) := by
    have hown := hc.own i _ b C e hi h1
    intro k o1 hk
    by_cases ek : k = b
    · subst ek; rw [hown.2.1] at hk; cases hk
    · simp only [if_neg ek]; exact hk
  refine ⟨_, hc.freeze hi h1 h2, hm, fun off V hV => ?_⟩
  obtain ⟨b', C', e', q, rfl⟩ := hV
  rw [h1] at q
  injection q with q
  injection q with q _ _
  subst q
  unfold D.rel
  refine ⟨b, off, rfl, ?_⟩
  rw [relCells_iff]
  intro j d hj
  rw [List.getElem?_drop] at hj
  obtain ⟨v, r1, r2⟩ := h4.2 (off + j) (.d d) (by rw [toDs_map hds, List.getElem?_map, hj]; rfl)
  exact ⟨v, by simp only [memCell, if_true]; simpa using r1, D.rel_le hm d v r2⟩

/-- What captured cells hold, as values. -/
def capsD (H : Heap) : List (Nat × Nat) → Option (List D)
  | [] => some []
  | (i, off) :: r => match H i, capsD H r with
    | some (.cells vs ty), some ds => (toDs vs).map fun x => .ptr (x.drop off) :: ds
    | _, _ => none

def killC (l : List (Nat × Nat)) : List (Nat × Ent) := l.map fun p => (p.1, .none)

theorem freeze_caps {H : Heap} : ∀ (caps : List (Nat × Nat)) (dss : List D) (m : Mem), capsD H caps = some dss → (∀ p ∈ caps, ∀ o, H p.1 = some o → f (.h p.1) = .o o) → (caps.map (·.1)).Nodup → RelC c φ m f a W →
    ∃ m', RelC c φ m' (wrApp (killC caps) f) a W ∧ MemLe m m' ∧ ∀ vs : List Value, vs.length = caps.length → (∀ (j i off : Nat), caps[j]? = some (i, off) → ∃ V, vs[j]? = some V ∧ (Sc.ptr i off).rel φ m V) → D.relVals m' dss vs
  | [], dss, m, hd, _, _, hc => by
    simp only [capsD, Option.some.injEq] at hd
    subst hd
    refine ⟨m, hc, MemLe.refl m, fun vs hl _ => ?_⟩
    unfold D.relVals
    exact List.eq_nil_of_length_eq_zero (by simpa using hl)
  | (i, off) :: r, dss, m, hd, hH, hn, hc => by
    simp only [capsD] at hd
    split at hd
    · rename_i vs ty ds hHi hr
      simp only [Option.map_eq_some_iff] at hd
      obtain ⟨x, hx, rfl⟩ := hd
      simp only [List.map_cons, List.nodup_cons] at hn
      obtain ⟨m1, c1, l1, r1⟩ := freeze_caps r ds m hr (fun p hp => hH p (List.mem_cons_of_mem _ hp)) hn.2 hc
      have hi : wrApp (killC r) f (.h i) = .o (.cells vs ty) := by
        rw [wrApp_ne]
        · exact hH (i, off) (List.mem_cons_self ..) _ hHi
        · intro p hp e
          simp only [killC, List.mem_map] at hp
          obtain ⟨q, hq, rfl⟩ := hp
          exact hn.1 (List.mem_map.2 ⟨q, hq, e⟩)
      obtain ⟨m2, c2, l2, r2⟩ := freeze_cells c1 hi hx
      refine ⟨m2, ?_, l1.trans l2, fun us hl hu => ?_⟩
      · simp only [killC, List.map_cons]
        rw [wrApp_cons]
        exact c2
      · obtain ⟨V, v1, v2⟩ := hu 0 i off rfl
        cases us with
        | nil => simp at hl
        | cons u us =>
          simp at v1
          subst v1
          unfold D.relVals
          refine ⟨_, us, rfl, r2 off _ v2, relVals_le l2 _ _ (r1 us (by simpa using hl) fun j i' off' hj => ?_)⟩
          obtain ⟨V, w1, w2⟩ := hu (j + 1) i' off' (by simpa using hj)
          exact ⟨V, by simpa using w1, w2⟩
    · cases hd

/-- The closure in the temporary t becomes a value. -/
def St.funcAt (S : St) (t : Nat) (g : FuncId) (caps : List (Nat × Nat)) (dss : List D) : St := ⟨(t, .one (dv (.func g dss))) :: S.env, eraseL (caps.map (·.1)) S.heap, S.nxt⟩

theorem RelC.putEnv (hc : RelC c φ m f a W) {t : Nat} {v : AVal} {V : Value} (hV : a.tmps[t]? = some V) (hv : v.rel φ m V) : RelC c φ m (upd f (.t t) (.v v)) a W :=
  { os := hc.os, out := hc.out, tape := hc.tape, size := hc.size, frame := hc.frame, mem := hc.mem, m0 := hc.m0, mnew := hc.mnew, ext := hc.ext
    obj := fun i o hi => hc.obj i o (by rwa [upd_other (by simp)] at hi)
    own := fun i o b C e hi => hc.own i o b C e (by rwa [upd_other (by simp)] at hi)
    inj := fun i j o o' b C e C' e' hi hj => hc.inj i j o o' b C e C' e' (by rwa [upd_other (by simp)] at hi) (by rwa [upd_other (by simp)] at hj)
    free := fun i hi => hc.free i (by rwa [upd_other (by simp)] at hi)
    env := fun s u hs => by
      by_cases e1 : s = t
      · subst e1
        rw [upd_self] at hs
        injection hs with hs
        subst hs
        exact ⟨V, hV, hv⟩
      · rw [upd_other (by simpa using e1)] at hs
        exact hc.env s u hs
    nt := hc.nt }

theorem Conv.funcAt (t : Nat) {g : FuncId} {caps : List (Nat × Nat)} {dss : List D} (ht : lookN t S.env = some (.one (.s (.func g caps)))) (hd : capsD S.H caps = some dss) (hn : (caps.map (·.1)).Nodup) (hlt : ∀ p ∈ caps, p.1 < S.nxt) :
    Conv N h S (S.funcAt t g caps dss) := by
  intro c φ m a W _ _ hc
  obtain ⟨m', c1, l1, r1⟩ := freeze_caps (f := S.fn) caps dss m hd (fun p _ o ho => fn_h ho) hn hc
  obtain ⟨V, v1, vs, rfl, v3, v4⟩ := hc.env t _ (fn_t ht)
  have hv : (AVal.one (dv (.func g dss))).rel φ m' (.func (.func g) #[] vs.toArray) := by
    show D.rel m' (.func g dss) _
    unfold D.rel
    refine ⟨vs, rfl, r1 vs v3 fun j i off hj => ?_⟩
    obtain ⟨b, C, e, q1, q2⟩ := v4 j i off hj
    exact ⟨_, q2, b, C, e, q1, rfl⟩
  refine ⟨φ, m', (c1.putEnv v1 hv).weaken fun k => ?_⟩
  cases k with
  | t n =>
    right
    by_cases e1 : n = t
    · subst e1; rw [upd_self]; simp [St.fn, St.funcAt, lookN]
    · rw [upd_other (by simpa using e1), wrApp_t]
      simp only [St.fn, St.funcAt, lookN]
      rw [if_neg (fun x => e1 x.symm)]
  | h n =>
    rw [upd_other (by simp)]
    simp only [St.fn, St.funcAt, lookN_eraseL]
    by_cases e1 : n ∈ caps.map (·.1)
    · left
      obtain ⟨p, hp, rfl⟩ := List.mem_map.1 e1
      have hx : ¬ S.nxt ≤ p.1 := by have := hlt p hp; omega
      simp [e1, hx]
    · right
      rw [wrApp_ne]
      · simp only [if_neg e1]; rfl
      · intro p hp e
        simp only [killC, List.mem_map] at hp
        obtain ⟨q, hq, rfl⟩ := hp
        exact e1 (List.mem_map.2 ⟨q, hq, e⟩)

/-- The nil slice in the temporary t becomes a row. -/
def St.nilT (S : St) (t e : Nat) (ety : TypeId) : St := ⟨(t, .one (.s (.row S.nxt e 0 0 none))) :: S.env, (S.nxt, .row [] ety) :: S.heap, S.nxt + 1⟩

theorem Conv.nilT (t : Nat) {e e0 : Nat} {ety : TypeId} (ht : lookN t S.env = some (.one (dv (.slice (some true) e0 [])))) (hn : lookN S.nxt S.heap = none) : Conv N h S (S.nilT t e ety) := by
  intro c φ m a W _ _ hc
  have hfree : S.fn (.h S.nxt) = .free := by simp [St.fn, hn]
  have h1 := hc.allocNil hfree (ty := ety)
  obtain ⟨V, v1, v2⟩ := hc.env t _ (fn_t ht)
  have hV : V = .slice none 0 0 := by
    simp only [AVal.rel, AV.rel, Sc.rel, D.rel] at v2
    rcases v2 with ⟨_, _, rfl⟩ | ⟨hz, _⟩
    · rfl
    · exact absurd rfl hz
  subst hV
  have hv : (AVal.one (.s (.row S.nxt e 0 0 none))).rel (updN φ S.nxt .nil) m (.slice none 0 0) := .inl ⟨updN_self _ _ _, rfl, rfl, rfl, rfl⟩
  refine ⟨updN φ S.nxt .nil, m, (h1.putEnv v1 hv).weaken fun k => ?_⟩
  cases k with
  | t n =>
    right
    by_cases e1 : n = t
    · subst e1; rw [upd_self]; simp [St.fn, St.nilT, lookN]
    · rw [upd_other (by simpa using e1), upd_other (by simp)]
      simp only [St.fn, St.nilT, lookN]
      rw [if_neg (fun x => e1 x.symm)]
  | h n =>
    rw [upd_other (by simp)]
    by_cases e1 : n = S.nxt
    · subst e1; rw [upd_self]; right; simp [St.fn, St.nilT, lookN]
    · rw [upd_other (by simpa using e1)]
      simp only [St.fn, St.nilT]
      rw [lookN_cons_ne e1]
      cases hl : lookN n S.heap with
      | some o => right; rfl
      | none =>
        by_cases hx : S.nxt + 1 ≤ n
        · have hy : S.nxt ≤ n := by omega
          right; simp [hx, hy]
        · left; simp [hx]

end
attribute [go_sem] St.nilT
attribute [go_sem] fcmp St.funcAt capsD toDs killC
end Go.Proofs.Hg
