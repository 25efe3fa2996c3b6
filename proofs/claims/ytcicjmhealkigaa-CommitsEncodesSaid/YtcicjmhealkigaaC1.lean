/- How a function ends: its results; rows in them that become values. -/
import Derived.Test.YtcicjmhealkigaaB9
set_option linter.unusedVariables false
set_option linter.unusedSimpArgs false
namespace Go.Proofs.Hg
open Go.RowKit

section
variable {P : Program} {N h : Nat} {c : Ctx} {φ : Names} {m : Mem} {f : StF} {a : Act} {W : World}

def pack : List AV → AVal
  | [x] => .one x
  | xs => .tup xs

def cellVal (T : Tab) (S : St) (i off : Nat) (t : TypeId) : Option (AV × Prop) :=
  match lookN i S.heap, lookN t T with
  | some (.cells vs _), some ti => if ti.kind.agg then some (.agg ((vs.drop off).take ti.size), off + ti.size ≤ vs.length) else some (.s (vs.getD off .junk), off < vs.length)
  | _, _ => none

def evRes (T : Tab) (S : St) : List ResultVar → Option (List AV × Prop)
  | [] => some ([], True)
  | .tmp t :: r => match lookN t S.env, evRes T S r with
    | some (.one x), some q => some (x :: q.1, q.2)
    | _, _ => none
  | .cell p t :: r => match lookN p S.env, evRes T S r with
    | some (.one (.s (.ptr i off))), some q => (match cellVal T S i off t with
      | some z => some (z.1 :: q.1, z.2 ∧ q.2)
      | none => none)
    | _, _ => none

theorem cellVal_ok {T : Tab} (hT : TabOk P T) {S : St} (hc : RelC c φ m S.fn a W) {i off : Nat} {t : TypeId} {z : AV × Prop} (hz : cellVal T S i off t = some z) (hob : z.2) {V : Value} (hV : (Sc.ptr i off).rel φ m V) :
    ∃ u, (do loadVar t (← asAddr V) : Sem Value).run P W = .ok u W ∧ z.1.rel φ m u := by
  obtain ⟨b, C, e, hb, rfl⟩ := hV
  unfold cellVal at hz
  split at hz
  · rename_i vs ty ti hH ht
    obtain ⟨b', C', e', cs, fr', h1, h2, h3, h4⟩ := hc.obj i _ (fn_h hH)
    rw [hb] at h1
    injection h1 with h1
    injection h1 with e1 _ _
    subst e1
    split at hz
    · rename_i hag
      injection hz with hz
      subst hz
      have hl : ((cs.toList.drop off).take ti.size).length = ti.size := by have := h4.1; simp at this hob ⊢; omega
      refine ⟨_, run_loadVar_agg (hT.at ht) hag hl fun j v hj => ?_, _, rfl, relAll_drop_take h4 off ti.size⟩
      rw [cell_heap h2]
      rw [List.getElem?_take] at hj
      split at hj
      · rw [List.getElem?_drop] at hj; simpa using hj
      · cases hj
    · rename_i hag
      injection hz with hz
      subst hz
      obtain ⟨v, h5, h6⟩ := h4.2 off vs[off] (List.getElem?_eq_getElem hob)
      refine ⟨v, run_loadVar_one (hT.at ht) (by simpa using hag) (by rw [cell_heap h2]; simpa using h5), ?_⟩
      simp only [AV.rel, List.getD_eq_getElem?_getD, List.getElem?_eq_getElem hob, Option.getD_some]
      exact h6
  · cases hz

def resOne (tmps : Array Value) : ResultVar → Sem Value
  | .tmp t => pure (tmps.getD t undef)
  | .cell a t => do loadVar t (← asAddr (tmps.getD a undef))

theorem run_listM {α β : Type} {g : α → Sem β} {W : World} : ∀ (l : List α) (vs : List β), vs.length = l.length → (∀ (j : Nat) (x : α), l[j]? = some x → ∃ v, vs[j]? = some v ∧ (g x).run P W = .ok v W) → (l.mapM g).run P W = .ok vs W
  | [], vs, hl, _ => by
    have : vs = [] := List.eq_nil_of_length_eq_zero (by simpa using hl)
    subst this
    simp
  | x :: l, [], hl, _ => by simp at hl
  | x :: l, v :: vs, hl, hv => by
    obtain ⟨v', h1, h2⟩ := hv 0 x rfl
    simp at h1
    subst h1
    have ih := run_listM (g := g) l vs (by simpa using hl) (fun j y hj => by simpa using hv (j + 1) y (by simpa using hj))
    simp [List.mapM_cons, h2, ih]

theorem evRes_ok {T : Tab} (hT : TabOk P T) {S : St} (hc : RelC c φ m S.fn a W) : ∀ (l : List ResultVar) (vs : List AV) (ob : Prop), evRes T S l = some (vs, ob) → ob →
    ∃ us : List Value, us.length = l.length ∧ vs.length = l.length ∧ (∀ (j : Nat) (r : ResultVar), l[j]? = some r → ∃ u, us[j]? = some u ∧ (resOne a.tmps r).run P W = .ok u W) ∧
      ∀ (j : Nat) (x : AV), vs[j]? = some x → ∃ u, us[j]? = some u ∧ x.rel φ m u
  | [], vs, ob, he, ho => by
    simp only [evRes, Option.some.injEq, Prod.mk.injEq] at he
    obtain ⟨rfl, _⟩ := he
    exact ⟨[], rfl, rfl, fun j r hj => by simp at hj, fun j x hj => by simp at hj⟩
  | .tmp t :: r, vs, ob, he, ho => by
    simp only [evRes] at he
    split at he
    · rename_i x q hx hq
      simp only [Option.some.injEq, Prod.mk.injEq] at he
      obtain ⟨rfl, rfl⟩ := he
      obtain ⟨us, i1, i2, i3, i4⟩ := evRes_ok hT hc r q.1 q.2 hq ho
      obtain ⟨V, v1, v2⟩ := hc.env t _ (fn_t hx)
      refine ⟨V :: us, by simp [i1], by simp [i2], fun j y hj => ?_, fun j y hj => ?_⟩
      · cases j with
        | zero =>
          simp at hj; subst hj
          refine ⟨V, rfl, ?_⟩
          simp [resOne, v1]
        | succ j => simpa using i3 j y (by simpa using hj)
      · cases j with
        | zero => simp at hj; subst hj; exact ⟨V, rfl, v2⟩
        | succ j => simpa using i4 j y (by simpa using hj)
    · cases he
  | .cell p t :: r, vs, ob, he, ho => by
    simp only [evRes] at he
    split at he
    · rename_i i off q hx hq
      split at he
      · rename_i z hz
        simp only [Option.some.injEq, Prod.mk.injEq] at he
        obtain ⟨rfl, rfl⟩ := he
        obtain ⟨us, i1, i2, i3, i4⟩ := evRes_ok hT hc r q.1 q.2 hq ho.2
        obtain ⟨V, v1, v2⟩ := hc.env p _ (fn_t hx)
        obtain ⟨u, u1, u2⟩ := cellVal_ok hT hc hz ho.1 v2
        have hrun : (resOne a.tmps (.cell p t)).run P W = .ok u W := by
          have : a.tmps.getD p undef = V := by simp [v1]
          simp only [resOne, this]
          exact u1
        refine ⟨u :: us, by simp [i1], by simp [i2], fun j y hj => ?_, fun j y hj => ?_⟩
        · cases j with
          | zero => simp at hj; subst hj; exact ⟨u, rfl, hrun⟩
          | succ j => simpa using i3 j y (by simpa using hj)
        · cases j with
          | zero => simp at hj; subst hj; exact ⟨u, rfl, u2⟩
          | succ j => simpa using i4 j y (by simpa using hj)
      · cases he
    · cases he

/-- Where a function ends: its value, and a state that says what is left. -/
def EndsTo (P : Program) (fn : Func) (h : Nat) (S : St) (val : AVal) (S2 : St) : Prop :=
  ∀ (c : Ctx) (φ : Names) (m : Mem) (a : Act) (W : World), c.nt = fn.ntmps → (∀ i, h ≤ i → c.φ0 i = none) → RelC c φ m S.fn a W →
    ∃ φ' m' V, RelC c φ' m' S2.fn a W ∧ (results fn a.tmps).run P W = .ok V W ∧ val.rel φ' m' V

theorem results_eq (fn : Func) (tmps : Array Value) : results fn tmps = (do let vs ← fn.results.mapM (resOne tmps); pure (if h : vs.size = 1 then vs[0] else .tuple vs)) := by
  unfold results
  congr 1

theorem EndsTo.read {T : Tab} (hT : TabOk P T) {fn : Func} {S : St} {vs : List AV} {ob : Prop} (he : evRes T S fn.results.toList = some (vs, ob)) (ho : ob) : EndsTo P fn h S (pack vs) S := by
  intro c φ m a W hN h0 hc
  obtain ⟨us, i1, i2, i3, i4⟩ := evRes_ok hT hc _ _ _ he ho
  have hrun := run_listM (P := P) (W := W) (g := resOne a.tmps) fn.results.toList us i1 i3
  refine ⟨φ, m, if hh : us.length = 1 then us[0] else .tuple us.toArray, hc, ?_, ?_⟩
  · rw [results_eq, Array.mapM_eq_mapM_toList]
    simp only [Sem.run_bind, Sem.run_map, hrun, Result.andThen]
    simp
  · have hl : us.length = vs.length := by rw [i1, i2]
    match vs, us, hl, i4 with
    | [], [], _, _ => exact ⟨[], rfl, rfl, fun j x hj => by simp at hj⟩
    | [x], [u], _, i4 =>
      obtain ⟨v, q1, q2⟩ := i4 0 x rfl
      simp at q1
      subst q1
      exact q2
    | x :: y :: vs, u :: w :: us, hl, i4 =>
      have : ¬ (u :: w :: us).length = 1 := by simp
      rw [dif_neg this]
      exact ⟨_, rfl, hl, i4⟩

/-- Rows in the results become values. -/
def frzAV (H : Heap) : AV → Option (AV × List (Nat × AObj) × Prop)
  | .s x => (frzL H [x]).map fun l => (.s (.d ((l.map (·.d)).getD 0 .nilp)), kills l, ∀ z ∈ l, z.ob)
  | .agg xs => (frzL H xs).map fun l => (.agg (l.map fun z => .d z.d), kills l, ∀ z ∈ l, z.ob)

def frzVs (H : Heap) : List AV → Option (List AV × List (Nat × AObj) × Prop)
  | [] => some ([], [], True)
  | x :: r => match frzAV H x, frzVs H r with
    | some p, some q => some (p.1 :: q.1, p.2.1 ++ q.2.1, p.2.2 ∧ q.2.2)
    | _, _ => none

def eraseL {α : Type} (ks : List Nat) (l : List (Nat × α)) : List (Nat × α) := ks.foldr (fun k l => eraseN k l) l

theorem lookN_eraseL {α : Type} (n : Nat) : ∀ (ks : List Nat) (l : List (Nat × α)), lookN n (eraseL ks l) = if n ∈ ks then none else lookN n l
  | [], l => rfl
  | k :: ks, l => by
    simp only [eraseL, List.foldr_cons, lookN_erase]
    have ih := lookN_eraseL n ks l
    simp only [eraseL] at ih
    rw [ih]
    by_cases h1 : n = k
    · simp [h1]
    · simp [h1]

theorem killW_append (a b : List (Nat × AObj)) : killW (a ++ b) = killW a ++ killW b := by simp [killW]
theorem wrApp_append (a b : List (Nat × Ent)) (f : StF) : wrApp (a ++ b) f = wrApp a (wrApp b f) := by
  induction a with
  | nil => rw [wrApp_nil]; rfl
  | cons p a ih => rw [List.cons_append, wrApp_cons, wrApp_cons, ih]

theorem frzAV_ok {H : Heap} {x : AV} {q : AV × List (Nat × AObj) × Prop} (hq : frzAV H x = some q) (hob : q.2.2) (hk : ∀ p ∈ q.2.1, f (.h p.1) = .o p.2) (hn : (q.2.1.map (·.1)).Nodup) (hc : RelC c φ m f a W) {V : Value} (hx : x.rel φ m V) :
    ∃ m', RelC c φ m' (wrApp (killW q.2.1) f) a W ∧ MemLe m m' ∧ q.1.rel φ m' V := by
  cases x with
  | s x =>
    simp only [frzAV, Option.map_eq_some_iff] at hq
    obtain ⟨l, h1, rfl⟩ := hq
    obtain ⟨m', g1, g2, g3⟩ := frzL_ok [x] l [V] m h1 hob hk hn ⟨rfl, fun j y hj => by
      cases j with
      | zero => simp at hj; subst hj; exact ⟨V, rfl, hx⟩
      | succ j => simp at hj⟩ hc
    refine ⟨m', g1, g2, ?_⟩
    have hl : l.length = 1 := by have := g3.1; simp at this; omega
    match l, hl with
    | [z], _ =>
      obtain ⟨v, q1, q2⟩ := g3.2 0 _ rfl
      simp at q1
      subst q1
      exact q2
  | agg xs =>
    simp only [frzAV, Option.map_eq_some_iff] at hq
    obtain ⟨l, h1, rfl⟩ := hq
    obtain ⟨vs, rfl, h2⟩ := hx
    obtain ⟨m', g1, g2, g3⟩ := frzL_ok xs l vs m h1 hob hk hn h2 hc
    exact ⟨m', g1, g2, vs, rfl, g3⟩

theorem frzVs_ok {H : Heap} : ∀ (vs : List AV) (us : List Value) (q : List AV × List (Nat × AObj) × Prop) (m : Mem), frzVs H vs = some q → q.2.2 → (∀ p ∈ q.2.1, f (.h p.1) = .o p.2) → (q.2.1.map (·.1)).Nodup →
    us.length = vs.length → (∀ (j : Nat) (x : AV), vs[j]? = some x → ∃ u, us[j]? = some u ∧ x.rel φ m u) → RelC c φ m f a W →
    ∃ m', RelC c φ m' (wrApp (killW q.2.1) f) a W ∧ MemLe m m' ∧ us.length = q.1.length ∧ ∀ (j : Nat) (x : AV), q.1[j]? = some x → ∃ u, us[j]? = some u ∧ x.rel φ m' u
  | [], us, q, m, hq, _, _, _, hl, _, hc => by
    simp only [frzVs, Option.some.injEq] at hq
    subst hq
    exact ⟨m, hc, MemLe.refl m, hl, fun j x hj => by simp at hj⟩
  | x :: vs, [], q, m, hq, _, _, _, hl, _, hc => by simp at hl
  | x :: vs, u :: us, q, m, hq, hob, hk, hn, hl, hv, hc => by
    simp only [frzVs] at hq
    split at hq
    · rename_i p q2 hp hq2
      simp only [Option.some.injEq] at hq
      subst hq
      simp only [List.map_append, List.nodup_append] at hn
      obtain ⟨n1, n2, n3⟩ := hn
      obtain ⟨m1, c1, l1, e1, r1⟩ := frzVs_ok vs us q2 m hq2 hob.2 (fun z hz => hk z (List.mem_append_right _ hz)) n2 (by simpa using hl) (fun j y hj => by simpa using hv (j + 1) y (by simpa using hj)) hc
      obtain ⟨v0, q0, r0⟩ := hv 0 x rfl
      simp at q0
      subst q0
      obtain ⟨m2, c2, l2, r2⟩ := frzAV_ok hp hob.1 (f := wrApp (killW q2.2.1) f) (fun z hz => by
        rw [wrApp_ne]
        · exact hk z (List.mem_append_left _ hz)
        · intro w hw e
          simp only [killW, List.mem_map] at hw
          obtain ⟨y, hy, rfl⟩ := hw
          exact n3 _ (List.mem_map.2 ⟨z, hz, rfl⟩) _ (List.mem_map.2 ⟨y, hy, rfl⟩) e.symm) n1 c1 (AV.rel_le (NamesLe.refl φ) l1 x _ r0)
      refine ⟨m2, by rw [killW_append, wrApp_append]; exact c2, l1.trans l2, by simp [e1], fun j y hj => ?_⟩
      cases j with
      | zero => simp at hj; subst hj; exact ⟨u, rfl, r2⟩
      | succ j =>
        obtain ⟨w, w1, w2⟩ := r1 j y (by simpa using hj)
        exact ⟨w, by simpa using w1, AV.rel_le (NamesLe.refl φ) l2 y w w2⟩
    · cases hq

theorem pack_rel {vs : List AV} {V : Value} (hv : (pack vs).rel φ m V) : ∃ us : List Value, us.length = vs.length ∧ (∀ (j : Nat) (x : AV), vs[j]? = some x → ∃ u, us[j]? = some u ∧ x.rel φ m u) ∧
    ∀ (φ' : Names) (m' : Mem) (vs' : List AV), us.length = vs'.length → (∀ (j : Nat) (x : AV), vs'[j]? = some x → ∃ u, us[j]? = some u ∧ x.rel φ' m' u) → (pack vs').rel φ' m' V := by
  match vs with
  | [] =>
    obtain ⟨us, rfl, h1, h2⟩ := hv
    refine ⟨us, h1, h2, fun φ' m' vs' hl h3 => ?_⟩
    have : vs' = [] := List.eq_nil_of_length_eq_zero (by simp at h1; simp [h1] at hl; exact hl.symm)
    subst this
    exact ⟨us, rfl, hl, h3⟩
  | [x] =>
    refine ⟨[V], rfl, fun j y hj => ?_, fun φ' m' vs' hl h3 => ?_⟩
    · cases j with
      | zero => simp at hj; subst hj; exact ⟨V, rfl, hv⟩
      | succ j => simp at hj
    · match vs', hl with
      | [y], _ =>
        obtain ⟨u, q1, q2⟩ := h3 0 y rfl
        simp at q1
        subst q1
        exact q2
  | x :: y :: vs =>
    obtain ⟨us, rfl, h1, h2⟩ := hv
    refine ⟨us, h1, h2, fun φ' m' vs' hl h3 => ?_⟩
    match vs', hl with
    | [], hl => rw [h1] at hl; simp at hl
    | [z], hl => rw [h1] at hl; simp at hl
    | z :: w :: vs', hl => exact ⟨us, rfl, hl, h3⟩

theorem EndsTo.freeze {fn : Func} {S S1 : St} {vs vs' : List AV} {ks : List (Nat × AObj)} {ob : Prop} (he : EndsTo P fn h S (pack vs) S1) (hf : frzVs S1.H vs = some (vs', ks, ob)) (ho : ob) (hn : (ks.map (·.1)).Nodup)
    (hk : ∀ p ∈ ks, lookN p.1 S1.heap = some p.2 ∧ p.1 < S1.nxt) : EndsTo P fn h S (pack vs') ⟨S1.env, eraseL (ks.map (·.1)) S1.heap, S1.nxt⟩ := by
  intro c φ m a W hN h0 hc
  obtain ⟨φ1, m1, V, c1, r1, v1⟩ := he c φ m a W hN h0 hc
  obtain ⟨us, l1, u1, u2⟩ := pack_rel v1
  obtain ⟨m2, c2, l2, e2, q2⟩ := frzVs_ok vs us _ m1 hf ho (fun p hp => fn_h (hk p hp).1) hn l1 u1 c1
  refine ⟨φ1, m2, V, c2.weaken fun k => ?_, r1, u2 _ _ _ e2 q2⟩
  cases k with
  | t n => exact .inr (wrApp_t _ _ n).symm
  | h n =>
    simp only [St.fn, lookN_eraseL]
    by_cases hm : n ∈ ks.map (·.1)
    · left
      obtain ⟨p, hp, rfl⟩ := List.mem_map.1 hm
      have := (hk p hp).2
      simp only [if_pos hm]
      rw [if_neg (by omega)]
    · right
      rw [wrApp_ne]
      · simp only [if_neg hm]; rfl
      · intro z hz e
        simp only [killW, List.mem_map] at hz
        obtain ⟨y, hy, rfl⟩ := hz
        exact hm (List.mem_map.2 ⟨y, hy, e⟩)

end
end Go.Proofs.Hg
