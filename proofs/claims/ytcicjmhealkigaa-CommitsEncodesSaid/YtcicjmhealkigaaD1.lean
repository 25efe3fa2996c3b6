/- A law, called: it returns true, and what was there stays. -/
import Derived.Test.YtcicjmhealkigaaC9
import Derived.WideShapes
set_option linter.unusedVariables false
set_option linter.unusedSimpArgs false
namespace Go.Proofs.Hg
open Go.RowKit

section
variable {P : Program}

theorem law_calls {g : FuncId} {F : List AV → Option (AVal × Prop)} (hk : ContOk P g (pureK F)) {args : List AV} {ob : Prop} (hF : F args = some (.one (dv (.bool true)), ob)) (hob : ob) {W : World} {vals : List Value} (hl : vals.length = args.length)
    (hv : ∀ (j : Nat) (x : AV), args[j]? = some x → ∃ V : Value, vals[j]? = some V ∧ x.rel (fun _ => none) (heapM W) V) :
    Calls P g vals.toArray W fun e W' => e = .returned (.bool true) ∧ Below W.heap.size W W' := by
  have hc : RelC ⟨W, heapM W, fun _ => none, fun _ => False, 0⟩ (fun _ => none) (heapM W) (fun _ => .none) { tmps := #[], defers := [] } W :=
    { os := rfl, out := rfl, tape := rfl, size := Nat.le_refl _, frame := (fun _ _ _ => rfl), mem := (fun _ _ h => h), m0 := MemLe.refl _, mnew := (fun _ _ h => .inl h), ext := NamesLe.refl _
      obj := (fun i o hi => by cases hi), own := (fun i o b C e hi => by cases hi), inj := (fun i j o o' b C e C' e' hi => by cases hi), free := (fun i hi => rfl), env := (fun t v ht => by cases ht), nt := rfl }
  obtain ⟨_, hg⟩ := hk 0 (fun _ => none) args ⟨.one (dv (.bool true)), [], false, [], ob⟩ (by simp [pureK, hF]) hob _ _ _ _ _ W vals ⟨fun p hp => by simp at hp, by simp⟩ hc hl hv
  have h1 := hg none 0
  refine (CallsIn.calls h1 (fun k => ?_)).mono ?_
  · intro d hd; cases hd
  · rintro e W' ⟨φ', m', V, rfl, c1, _, _, v1⟩
    refine ⟨?_, ⟨c1.os, c1.tape, c1.out, c1.size, fun b hb => c1.frame b hb (fun x => x)⟩⟩
    have : V = .bool true := by simpa [AVal.rel, AV.rel, Sc.rel, D.rel] using v1
    rw [this]

section
variable {H : Type} {enc : TypeId × Value → H} {W : World} {base : Nat} {spare : Nat → Bool} {held : Bool}

/-- A struct by value. -/
theorem arg_agg {t : TypeId} {fs : Array Field} {T : Ty} {k : Nat} {r : Reach} {b0 : Nat} {v : Value} {d : DataW H} {ps : List MemPlace} (hu : P.underlying t = some (.struct fs)) (hT : tyOf P k t = some T) (hval : Value.okWide P W r b0 t v)
    (h : DataW.Trod enc P W base spare held t v d ps) : ∃ ds, T.has ds ∧ (AV.agg (ds.map .d)).rel (fun _ => none) (heapM W) v := by
  obtain ⟨cs, rfl, _⟩ := Go.WideShapes.okWide_struct hu hval
  obtain ⟨fuel, hf⟩ := h
  obtain ⟨ds, d1, d2, d3, d4⟩ := trod_has k t T hT fuel _ _ hf
  refine ⟨ds, d1, cs.toList, by simp, ?_, fun j x hj => ?_⟩
  · simp only [List.length_map]
    rw [d2]
    exact d3
  · simp only [List.getElem?_map, Option.map_eq_some_iff] at hj
    obtain ⟨y, hy, rfl⟩ := hj
    exact d4 j y hy
end

section
variable {H : Type} {enc : TypeId × Value → H} {W : World} {base : Nat} {spare : Nat → Bool} {held : Bool}
/-- A plain value. -/
theorem arg_s {t : TypeId} {T : Ty} {k : Nat} {v : Value} {d : DataW H} {ps : List MemPlace} (hv : v.oneCell' = true) (hT : tyOf P k t = some T) (h : DataW.Trod enc P W base spare held t v d ps) (hs : T.size = 1) :
    ∃ x, T.has [x] ∧ (AV.s (.d x)).rel (fun _ => none) (heapM W) v := by
  obtain ⟨fuel, hf⟩ := h
  rw [cells_one hv] at hf
  obtain ⟨ds, d1, d2, d3, d4⟩ := trod_has k t T hT fuel _ _ hf
  rw [hs] at d2
  match ds, d2 with
  | [x], _ =>
    obtain ⟨u, u1, u2⟩ := d4 0 x rfl
    simp at u1
    subst u1
    exact ⟨x, d1, u2⟩

/-- An array by value. -/
theorem arg_arr {t : TypeId} {n : Nat} {e : TypeId} {T : Ty} {k : Nat} {r : Reach} {b0 : Nat} {v : Value} {d : DataW H} {ps : List MemPlace} (hu : P.underlying t = some (.array n e)) (hT : tyOf P k t = some T) (hval : Value.okWide P W r b0 t v)
    (h : DataW.Trod enc P W base spare held t v d ps) : ∃ ds, T.has ds ∧ (AV.agg (ds.map .d)).rel (fun _ => none) (heapM W) v := by
  unfold Value.okWide at hval
  rw [hu] at hval
  obtain ⟨cs, rfl, _⟩ := hval
  obtain ⟨fuel, hf⟩ := h
  obtain ⟨ds, d1, d2, d3, d4⟩ := trod_has k t T hT fuel _ _ hf
  refine ⟨ds, d1, cs.toList, by simp, ?_, fun j x hj => ?_⟩
  · simp only [List.length_map]
    rw [d2]
    exact d3
  · simp only [List.getElem?_map, Option.map_eq_some_iff] at hj
    obtain ⟨y, hy, rfl⟩ := hj
    exact d4 j y hy
end

theorem has_bytes {r : List (List D)} (h : ∀ x ∈ r, Ty.has (.int .u8) x) : r = brow (unb r) := by
  induction r with
  | nil => rfl
  | cons x r ih =>
    have h1 := h x (List.mem_cons_self ..)
    unfold Ty.has at h1
    obtain ⟨n, rfl, hw⟩ := h1
    have h2 := ih fun y hy => h y (List.mem_cons_of_mem _ hy)
    have hn : 0 ≤ n ∧ n ≤ 255 := by
      simp only [Lit.wf, Bool.and_eq_true, decide_eq_true_eq] at hw
      exact hw
    show _ = brow (unb1 [.int .u8 n] :: unb r)
    rw [brow_cons, ← h2]
    congr 2
    simp only [unb1]
    congr 1
    rw [UInt8.toNat_ofNat_of_lt' (show n.toNat < 256 by omega)]
    omega

theorem has_strs {r : List (List D)} (h : ∀ x ∈ r, Ty.has .str x) : r = srow (uns r) := by
  induction r with
  | nil => rfl
  | cons x r ih =>
    have h1 := h x (List.mem_cons_self ..)
    unfold Ty.has at h1
    obtain ⟨s, rfl, hs⟩ := h1
    have h2 := ih fun y hy => h y (List.mem_cons_of_mem _ hy)
    show _ = [D.str (uns1 [.str s])] :: srow (uns r)
    rw [← h2]
    rfl
end
end Go.Proofs.Hg
