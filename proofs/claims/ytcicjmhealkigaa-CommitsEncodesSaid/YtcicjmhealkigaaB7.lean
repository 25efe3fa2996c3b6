/- A region's run, and the rule for it. -/
import Derived.Test.YtcicjmhealkigaaB6
set_option linter.unusedVariables false
set_option linter.unusedSimpArgs false
namespace Go.Proofs.Hg
open Go.RowKit

section
variable {P : Program} {c : Ctx} {φ : Names} {m : Mem} {f : StF} {a : Act} {W : World}

theorem StLe.get {f g : StF} (h : StLe g f) {k : Key} {e : Ent} (hk : g k = e) (hne : e ≠ .none) : f k = e := by
  rcases h k with h1 | h1
  · rw [h1] at hk; exact absurd hk.symm hne
  · rw [← h1]; exact hk

theorem fn_t {S : St} {t : Nat} {v : AVal} (h : lookN t S.env = some v) : S.fn (.t t) = .v v := by simp [St.fn, h]
theorem fn_h {S : St} {i : Nat} {o : AObj} (h : lookN i S.heap = some o) : S.fn (.h i) = .o o := by simp [St.fn, h]

theorem lookN_erase {α : Type} (i n : Nat) : ∀ (l : List (Nat × α)), lookN n (eraseN i l) = if n = i then none else lookN n l
  | [] => by simp [eraseN, lookN]
  | (k, b) :: r => by
    simp only [eraseN]
    split
    · rename_i e
      subst e
      rw [lookN_erase]
      by_cases h : n = k
      · simp [h]
      · simp only [if_neg h, lookN]
        rw [if_neg (fun x => h x.symm)]
    · rename_i e
      simp only [lookN]
      split
      · rename_i e2
        subst e2
        rw [if_neg e]
      · rw [lookN_erase]

theorem wrHeap_spec : ∀ (wr : List (Nat × Ent)) (h : List (Nat × AObj)) (f : StF), (∀ n o, lookN n h = some o → f (.h n) = .o o) →
    ∀ n o, lookN n (wrHeap wr h) = some o → wrApp wr f (.h n) = .o o
  | [], h, f, hf, n, o, hn => hf n o hn
  | (i, e) :: r, h, f, hf, n, o, hn => by
    rw [wrApp_cons]
    by_cases hi : n = i
    · subst hi
      rw [upd_self]
      cases e <;> simp only [wrHeap, lookN, lookN_erase, if_true, reduceCtorEq] at hn
      injection hn with hn
      rw [hn]
    · rw [upd_other (by simpa using hi)]
      refine wrHeap_spec r h f hf n o ?_
      cases e <;> simp only [wrHeap, lookN, lookN_erase, if_neg hi, if_neg (fun x => hi (Eq.symm x))] at hn <;> exact hn

theorem wrHeap_none : ∀ (wr : List (Nat × Ent)) (h : List (Nat × AObj)) (n : Nat), (∀ p ∈ wr, p.1 ≠ n) → lookN n (wrHeap wr h) = lookN n h
  | [], h, n, _ => rfl
  | (i, e) :: r, h, n, hne => by
    have hi : i ≠ n := hne (i, e) (List.mem_cons_self ..)
    have ih := wrHeap_none r h n (fun p hp => hne p (List.mem_cons_of_mem _ hp))
    cases e <;> simp only [wrHeap, lookN, lookN_erase, if_neg (fun x => hi (Eq.symm x)), if_neg hi] <;> exact ih

theorem wrApp_t (wr : List (Nat × Ent)) (f : StF) (t : Nat) : wrApp wr f (.t t) = f (.t t) := by
  induction wr with
  | nil => rfl
  | cons p r ih => rw [wrApp_cons, upd_other (by simp)]; exact ih

theorem guardOf_key {S : St} {gd : Nat → Option Tmp} {g : Option (Nat × Bool)} {gc : Bool} {gk : Option (Key × Ent)} (h : guardOf S gd g = some (gc, gk)) : ∀ p ∈ guardPre gk, S.fn p.1 = p.2 ∧ p.2 ≠ .none := by
  unfold guardOf at h
  split at h
  · simp only [Option.some.injEq, Prod.mk.injEq] at h
    rw [← h.2]
    intro p hp
    simp [guardPre] at hp
  · split at h
    · split at h
      · rename_i b hb
        simp only [Option.some.injEq, Prod.mk.injEq] at h
        rw [← h.2]
        intro p hp
        simp [guardPre] at hp
        subst hp
        exact ⟨fn_t hb, by simp⟩
      · rename_i g b hb
        simp only [Option.some.injEq, Prod.mk.injEq] at h
        rw [← h.2]
        intro p hp
        simp [guardPre] at hp
        subst hp
        exact ⟨fn_t hb, by simp⟩
      · cases h
    · cases h

theorem stepOp_run {T : Tab} {K : Know} {N : Nat} {gd : Nat → Option Tmp} {S : St} {o : Oper} {s : Step} (h : stepOp T K N gd S o = some s) (hob : s.ob) (hf : StLe S.fn f) : s.lt.fits f ∧ StLe s.next.fn (s.lt.app f) := by
  unfold stepOp at h
  split at h
  · cases h
  · rename_i gc gk hgo
    split at h
    · cases h
    · rename_i r hev
      simp only at h
      split at h
      · cases h
      · rename_i hcond
        injection h with h
        subst h
        simp only [Bool.or_eq_true, not_or, Bool.not_eq_true] at hcond
        obtain ⟨⟨hst, hdn⟩, hfresh⟩ := hcond
        have hfr : lookN S.nxt S.heap = none := by
          cases hl : lookN S.nxt S.heap with
          | none => rfl
          | some x => rw [hl] at hfresh; cases hfresh
        obtain ⟨_, hrd, hwr⟩ := hob
        constructor
        · intro p hp
          simp only [List.mem_append] at hp
          rcases hp with ((hp | hp) | hp) | hp
          · obtain ⟨h1, h2⟩ := guardOf_key hgo p hp
            exact hf.get h1 h2
          · simp only [preOf, List.mem_filterMap] at hp
            obtain ⟨x, hx, hxp⟩ := hp
            cases x with
            | tmp t =>
              simp only [Option.map_eq_some_iff] at hxp
              obtain ⟨v, hv, rfl⟩ := hxp
              exact hf.get (fn_t hv) (by simp)
            | const v => simp at hxp
            | global v => simp at hxp
            | func v => simp at hxp
          · obtain ⟨q, hq, rfl⟩ := List.mem_map.1 hp
            exact hf.get (fn_h (hrd q hq)) (by simp)
          · unfold freeIf at hp
            split at hp
            · simp at hp
              subst hp
              exact hf.get (by simp [St.fn, hfr]) (by simp)
            · simp at hp
        · intro k
          rw [app_post]
          cases k with
          | t n =>
            have hw : LT.app ⟨[], wrPost r.wr⟩ f (.t n) = f (.t n) := wrApp_t r.wr f n
            cases hd : o.dst with
            | none =>
              simp only [dstPost, List.nil_append, hw]
              exact hf (.t n)
            | some d =>
              simp only [dstPost, List.cons_append, List.nil_append]
              rw [app_cons]
              by_cases e : n = d
              · subst e
                right
                simp [St.fn, lookN]
              · rw [upd_other (by simpa using e), hw]
                have : St.fn ⟨(d, under gk.isSome gc r.val) :: S.env, wrHeap r.wr S.heap, nxtIf r.fr S.nxt⟩ (.t n) = S.fn (.t n) := by
                  simp only [St.fn, lookN]
                  rw [if_neg (fun x => e x.symm)]
                rw [this]
                exact hf (.t n)
          | h n =>
            have hw : LT.app ⟨[], dstPost o.dst (under gk.isSome gc r.val) ++ wrPost r.wr⟩ f (.h n) = wrApp r.wr f (.h n) := by
              cases hd : o.dst with
              | none => rfl
              | some d =>
                simp only [dstPost, List.cons_append, List.nil_append]
                rw [app_cons, upd_other (by simp)]
                rfl
            rw [hw]
            simp only [St.fn]
            cases hl : lookN n (wrHeap r.wr S.heap) with
            | some ob =>
              right
              exact (wrHeap_spec r.wr S.heap f (fun n o hn => hf.get (fn_h hn) (by simp)) n ob hl).symm
            | none =>
              simp only
              split
              · rename_i hn
                right
                have hne : ∀ p ∈ r.wr, p.1 ≠ n := fun p hp e => by have := hwr p hp; omega
                rw [wrHeap_none _ _ _ hne] at hl
                rw [wrApp_ne hne]
                have hS : S.nxt ≤ n := by
                  unfold nxtIf at hn
                  split at hn <;> omega
                exact (hf.get (k := .h n) (e := .free) (by simp [St.fn, hl, hS]) (by simp)).symm
              · left; rfl

theorem runOps_ok {T : Tab} (hT : TabOk P T) {K : Know} (hK : KnowOk P K) {N : Nat} {gd : Nat → Option Tmp} {ops : Array Oper} (hgd : ∀ j t, gd j = some t → (ops[j]?).bind (·.dst) = some t) :
    ∀ (os : List Oper) (i0 : Nat) (S : St) (q : List LT × St × Prop), (∀ (k : Nat) (o : Oper), os[k]? = some o → ops[i0 + k]? = some o) → runOps T K N gd os S = some q → q.2.2 → ∀ f, StLe S.fn f →
      q.1.length = os.length ∧ (∀ (k : Nat) (t : LT), q.1[k]? = some t → SoundAt P N ops (i0 + k) t) ∧ ∃ g, RunL q.1 f g ∧ StLe q.2.1.fn g
  | [], i0, S, q, _, h, _, f, hf => by
    simp only [runOps, Option.some.injEq] at h
    subst h
    exact ⟨rfl, fun k t hk => by simp at hk, f, rfl, hf⟩
  | o :: os, i0, S, q, hops, h, hob, f, hf => by
    simp only [runOps] at h
    cases hs : stepOp T K N gd S o with
    | none => simp [hs] at h
    | some s =>
      cases hr : runOps T K N gd os s.next with
      | none => simp [hs, hr] at h
      | some q2 =>
        simp [hs, hr] at h
        subst h
        obtain ⟨o1, o2⟩ := hob
        obtain ⟨h1, h2⟩ := stepOp_run hs o1 hf
        have ho : ops[i0]? = some o := by simpa using hops 0 o rfl
        obtain ⟨h3, h4, g, h5, h6⟩ := runOps_ok hT hK hgd os (i0 + 1) s.next q2 (fun k o' hk => by have := hops (k + 1) o' (by simpa using hk); rwa [show i0 + (k + 1) = i0 + 1 + k by omega] at this) hr o2 (s.lt.app f) h2
        refine ⟨by simp [h3], fun k t hk => ?_, g, ⟨h1, h5⟩, h6⟩
        cases k with
        | zero =>
          simp at hk
          subst hk
          exact stepOp_sound hT hK hgd ho hs o1
        | succ k =>
          have := h4 k t (by simpa using hk)
          rwa [show i0 + 1 + k = i0 + (k + 1) by omega] at this

def gdOf (ops : Array Oper) (j : Nat) : Option Tmp := (ops[j]?).bind (·.dst)

/-- **A REGION.** -/
theorem region_rule {T : Tab} (hT : TabOk P T) {K : Know} (hK : KnowOk P K) (hm : P.follows .mixedOrders = true) {ro : Option Nat} {n id : Nat} {ops : Array Oper} {draw : Bool} {S S' : St} {lts : List LT} {ob : Prop}
    {Q : Exit → Act → World → Prop} (hrun : runOps T K c.nt (gdOf ops) ops.toList S = some (lts, S', ob)) (hob : ob) (hord : draw = true → (edgesOk ops && orderOk ops lts) = true) (hc : RelC c φ m S.fn a W)
    (hq : ∀ φ' m' a' W', RelC c φ' m' S'.fn a' W' → a'.defers = a.defers → Q .normal a' W') : (Code.region id ops draw).wpIn (wideR ro) n P Q a W := by
  obtain ⟨h1, h2, g, h3, h4⟩ := runOps_ok (ops := ops) hT hK (fun _ _ h => h) ops.toList 0 S (lts, S', ob) (fun k o hk => by simpa using hk) hrun hob S.fn (fun k => .inr rfl)
  exact wp_region (N := c.nt) hm lts rfl (by simpa using h1) (fun i t hi => by simpa using h2 i t hi) h3 hord hc (fun φ' m' a' W' hc' hd => hq φ' m' a' W' (hc'.weaken h4) hd)

end
end Go.Proofs.Hg
