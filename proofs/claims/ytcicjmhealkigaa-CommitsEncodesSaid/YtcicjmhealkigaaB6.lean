/- A region of the abstract machine: its operations in the text's order, the steps that they take, what is owed. -/
import Derived.Test.YtcicjmhealkigaaB5
set_option linter.unusedVariables false
set_option linter.unusedSimpArgs false
namespace Go.Proofs.Hg
open Go.RowKit

/-- Under which condition is an operation carried out? -/
def guardOf (S : St) (gd : Nat → Option Tmp) : Option (Nat × Bool) → Option (Bool × Option (Key × Ent))
  | none => some (true, none)
  | some (j, want) => match gd j with
    | some t => (match lookN t S.env with
      | some (.one (.s (.d (.bool b)))) => some (bif want then b else !b, some (.t t, .v (.one (.s (.d (.bool b))))))
      | some (.opt g (.s (.d (.bool b)))) => some (g && (bif want then b else !b), some (.t t, .v (.opt g (.s (.d (.bool b))))))
      | _ => none)
    | none => none

/-- A value that is there only where the condition holds. -/
def under (guarded : Bool) (gc : Bool) (v : AVal) : AVal :=
  if guarded then (match v with
    | .one x => .opt gc x
    | .opt g x => .opt (gc && g) x
    | _ => .junk)
  else v

def obUnder (guarded : Bool) (gc : Bool) (wr : List (Nat × Ent)) (ob : Prop) : Prop :=
  if guarded then (match wr with
    | [] => gc = true → ob
    | _ => gc = true ∧ ob)
  else ob

def dstPost (dst : Option Tmp) (v : AVal) : List (Key × Ent) :=
  match dst with
  | some d => [(.t d, .v v)]
  | none => []

def isStore : Op → Bool
  | .store _ _ _ => true
  | _ => false

structure Step where
  lt : LT
  next : St
  ob : Prop

def freeIf (b : Bool) (n : Nat) : List (Key × Ent) := if b then [(.h n, .free)] else []
def nxtIf (b : Bool) (n : Nat) : Nat := if b then n + 1 else n
def guardPre : Option (Key × Ent) → List (Key × Ent)
  | some e => [e]
  | none => []

def stepOp (T : Tab) (K : Know) (N : Nat) (gd : Nat → Option Tmp) (S : St) (o : Oper) : Option Step :=
  match guardOf S gd o.guard with
  | none => none
  | some (gc, gk) => match evOp T K S gc o.type o.op with
    | none => none
    | some r =>
      let v := under gk.isSome gc r.val
      if (isStore o.op && o.dst.isSome) || !(o.dst.all (fun d => decide (d < N))) || (lookN S.nxt S.heap).isSome then none else
      some { lt := ⟨guardPre gk ++ preOf S (opndsOf o.op) ++ r.rd.map (fun p => (Key.h p.1, Ent.o p.2)) ++ freeIf r.fr S.nxt, dstPost o.dst v ++ wrPost r.wr⟩
             next := ⟨match o.dst with | some d => (d, v) :: S.env | none => S.env, wrHeap r.wr S.heap, nxtIf r.fr S.nxt⟩
             ob := obUnder gk.isSome gc r.wr r.ob ∧ (∀ p ∈ r.rd, lookN p.1 S.heap = some p.2) ∧ ∀ p ∈ r.wr, p.1 < nxtIf r.fr S.nxt }

def runOps (T : Tab) (K : Know) (N : Nat) (gd : Nat → Option Tmp) : List Oper → St → Option (List LT × St × Prop)
  | [], S => some ([], S, True)
  | o :: os, S => match stepOp T K N gd S o with
    | none => none
    | some s => match runOps T K N gd os s.next with
      | none => none
      | some q => some (s.lt :: q.1, q.2.1, s.ob ∧ q.2.2)

section
variable {P : Program} {c : Ctx} {φ : Names} {m : Mem} {f : StF} {a : Act} {W : World}

theorem yielded_undef {ops : Array Oper} {tmps : Array Value} {j : Nat} {t : Tmp} (h1 : (ops[j]?).bind (·.dst) = some t) (h2 : tmps[t]? = some undef) : yielded ops tmps j = none := by
  simp [yielded, h1, h2, undef]
theorem yielded_bool {ops : Array Oper} {tmps : Array Value} {j : Nat} {t : Tmp} {b : Bool} (h1 : (ops[j]?).bind (·.dst) = some t) (h2 : tmps[t]? = some (.bool b)) : yielded ops tmps j = some b := by
  simp [yielded, h1, h2]

theorem guard_wanted {S : St} {ops : Array Oper} {gd : Nat → Option Tmp} (hgd : ∀ j t, gd j = some t → (ops[j]?).bind (·.dst) = some t) {o : Oper} {gc : Bool} {gk : Option (Key × Ent)} (h : guardOf S gd o.guard = some (gc, gk))
    (hf : ∀ p ∈ guardPre gk, f p.1 = p.2) (hc : RelC c φ m f a W) : Region.wanted o (yielded ops a.tmps) = gc := by
  unfold guardOf at h
  split at h
  · rename_i hg
    simp only [Option.some.injEq, Prod.mk.injEq] at h
    rw [← h.1]
    simp [Region.wanted, hg]
  · rename_i j want hg
    split at h
    · rename_i t ht
      split at h
      · rename_i b hb
        simp only [Option.some.injEq, Prod.mk.injEq] at h
        obtain ⟨rfl, rfl⟩ := h
        have := hf _ (List.mem_cons_self ..)
        obtain ⟨V, h1, h2⟩ := hc.env t _ this
        simp only [AVal.rel, AV.rel, Sc.rel, D.rel] at h2
        subst h2
        simp only [Region.wanted, hg, yielded_bool (hgd j t ht) h1]
        cases want <;> cases b <;> rfl
      · rename_i g b hb
        simp only [Option.some.injEq, Prod.mk.injEq] at h
        obtain ⟨rfl, rfl⟩ := h
        have := hf _ (List.mem_cons_self ..)
        obtain ⟨V, h1, h2, h3⟩ := hc.env t _ this
        cases g with
        | true =>
          have := h2 rfl
          simp only [AV.rel, Sc.rel, D.rel] at this
          subst this
          simp only [Region.wanted, hg, yielded_bool (hgd j t ht) h1]
          cases want <;> cases b <;> rfl
        | false =>
          have := h3 rfl
          subst this
          simp only [Region.wanted, hg, yielded_undef (hgd j t ht) h1]
          rfl
      · cases h
    · cases h

theorem app_post (pre : List (Key × Ent)) (post : List (Key × Ent)) (f : StF) : LT.app ⟨pre, post⟩ f = LT.app ⟨[], post⟩ f := rfl

theorem under_rel {g gc : Bool} {v : AVal} {V : Value} (h : v.rel φ m V) (hg : gc = true) : (under g gc v).rel φ m V := by
  unfold under
  split
  · cases v with
    | one x => exact ⟨fun _ => h, fun e => by rw [hg] at e; cases e⟩
    | opt g' x =>
      subst hg
      refine ⟨fun e => h.1 (by simpa using e), fun e => h.2 (by simpa using e)⟩
    | tup xs => trivial
    | junk => trivial
  · exact h

theorem under_undef {gc : Bool} {v : AVal} (hg : gc = false) : (under true gc v).rel φ m undef := by
  unfold under
  simp only [if_true]
  cases v with
  | one x => exact ⟨fun e => (by rw [hg] at e; cases e), fun _ => rfl⟩
  | opt g' x => exact ⟨fun e => (by subst hg; simp at e), fun _ => rfl⟩
  | tup xs => trivial
  | junk => trivial

theorem sees_of {S : St} {xs : List Operand} (h : ∀ p ∈ preOf S xs, f p.1 = p.2) : Sees S xs f := by
  rintro x hx t v rfl ht
  have := h (.t t, .v v) (List.mem_filterMap.2 ⟨.tmp t, hx, by simp [ht]⟩)
  exact this

theorem stepOp_sound {T : Tab} (hT : TabOk P T) {K : Know} (hK : KnowOk P K) {N : Nat} {gd : Nat → Option Tmp} {ops : Array Oper} (hgd : ∀ j t, gd j = some t → (ops[j]?).bind (·.dst) = some t) {S : St} {i : Nat} {o : Oper}
    (ho : ops[i]? = some o) {s : Step} (h : stepOp T K N gd S o = some s) (hob : s.ob) : SoundAt P N ops i s.lt := by
  intro ro n c φ m f a W Q Kc hN hc hfit hk
  unfold stepOp at h
  split at h
  · cases h
  · rename_i gc gk hgo
    split at h
    · cases h
    · rename_i r hev
      simp only at h
      split at h
      · cases h
      · rename_i hcond
        injection h with h
        subst h
        simp only [Bool.or_eq_true, not_or, Bool.not_eq_true] at hcond
        obtain ⟨⟨hst, hdn⟩, hfresh⟩ := hcond
        simp only [LT.fits] at hfit
        have hf1 : ∀ p ∈ guardPre gk, f p.1 = p.2 := fun p hp => hfit p (by simp [hp])
        have hf2 : ∀ p ∈ preOf S (opndsOf o.op), f p.1 = p.2 := fun p hp => hfit p (by simp [hp])
        have hf3 : r.Reads S.nxt f := by
          refine ⟨fun p hp => ?_, fun hb => ?_⟩
          · exact hfit (Key.h p.1, Ent.o p.2) (List.mem_append_left _ (List.mem_append_right _ (List.mem_map.2 ⟨p, hp, rfl⟩)))
          · exact hfit (Key.h S.nxt, Ent.free) (List.mem_append_right _ (by simp [freeIf, hb]))
        have hwant := guard_wanted hgd hgo hf1 hc
        have hdst : ∀ d, o.dst = some d → d < c.nt := by
          intro d hd
          rw [hd] at hdn
          simp at hdn
          rw [hN]
          exact hdn
        -- the world goes on, the value is put
        have key : ∀ φ' m' a' W' V, RelC c φ' m' (wrApp r.wr f) a' W' → (under gk.isSome gc r.val).rel φ' m' V → a' = a →
            RelC c φ' m' (LT.app ⟨guardPre gk ++ preOf S (opndsOf o.op) ++ r.rd.map (fun p => (Key.h p.1, Ent.o p.2)) ++ freeIf r.fr S.nxt, dstPost o.dst (under gk.isSome gc r.val) ++ wrPost r.wr⟩ f) (a'.put o.dst V) W' := by
          intro φ' m' a' W' V h1 h2 _
          cases hd : o.dst with
          | none => exact h1
          | some d =>
            have := h1.put (hdst d hd) h2
            rw [app_post]
            simp only [dstPost, List.cons_append, List.nil_append]
            rw [app_cons]
            exact this
        unfold wpOpIn
        rw [ho]
        simp only [hwant]
        cases hgc : gc with
        | false =>
          simp only [Bool.false_eq_true, if_false]
          refine ⟨fun _ _ => trivial, ?_⟩
          -- passed over: nothing is written
          have hguard : gk.isSome = true := by
            cases gk with
            | some _ => rfl
            | none =>
              unfold guardOf at hgo
              split at hgo
              · simp at hgo; rw [hgc] at hgo; cases hgo
              · split at hgo
                · split at hgo <;> simp at hgo
                · cases hgo
          have hwr : r.wr = [] := by
            have h0 := hob.1
            rw [hguard] at h0
            unfold obUnder at h0
            simp only [if_true] at h0
            split at h0
            · assumption
            · rw [hgc] at h0; cases h0.1
          refine hk φ m _ W (key φ m a W undef (by rw [hwr]; exact hc) (by rw [hguard]; exact under_undef hgc) rfl) ?_
          cases o.dst <;> rfl
        | true =>
          simp only [if_true]
          have hrob : r.ob := by
            have h0 := hob.1
            unfold obUnder at h0
            split at h0
            · split at h0
              · exact h0 hgc
              · exact h0.2
            · exact h0
          have hok := evOp_ok (a := a) hT hK hgc hev hrob hf3 (sees_of hf2) hc (fun ⟨t, p, v, hs⟩ => by
            have : isStore o.op = true := by rw [hs]; rfl
            rw [this] at hst
            simpa using hst)
          obtain ⟨hnd, hok⟩ := hok
          refine ⟨fun _ _ => trivial, ?_⟩
          have hsem : o.semAt (wideR ro).round a.eval = execOp a.eval o := Oper.semAt_eq _ _ _ hnd
          rw [hsem]
          rcases hok with ⟨φ', m', W', h1, h2, h3, h4⟩ | ⟨g, vals, h4, hcall⟩
          · rcases h4 with ⟨V, h4, h5⟩ | ⟨h4, h5⟩
            · rw [h4]
              refine hk φ' m' _ W' (key φ' m' a W' V h1 (under_rel h5 hgc) rfl) ?_
              cases o.dst <;> rfl
            · rw [h4]
              refine hk φ' m' _ W' ?_ (by rw [h5]; rfl)
              have hj := key φ' m' a W' undef
              rw [h5] at hj ⊢
              simp only [dstPost, List.nil_append, Act.put]
              exact h1
          · rw [h4]
            refine ⟨fun hx => by simp [wideR, Fence.wide] at hx, ?_⟩
            refine (hcall ro (n - 1)).mono ?_
            rintro e W' ⟨φ', m', V, rfl, h1, h2, h3, h5⟩
            refine hk φ' m' _ W' (key φ' m' a W' V h1 (under_rel h5 hgc) rfl) ?_
            cases o.dst <;> rfl

end
end Go.Proofs.Hg
