/- Operations that read and write memory. -/
import Derived.Test.YtcicjmhealkigaaA4
import Derived.Laws.IdiomCopy
import Derived.Laws.CopyOwn
set_option linter.unusedVariables false
set_option linter.unusedSimpArgs false
namespace Go.Proofs.Hg
open Go.RowKit

section
variable {P : Program} {c : Ctx} {φ : Names} {m : Mem} {f : StF} {a : Act} {W : World}

theorem addr_add (b o j : Nat) : (⟨b, o, none⟩ : Addr).add j = ⟨b, o + j, none⟩ := by unfold Addr.add; split <;> simp_all

theorem cell_heap {w : World} {b : Nat} {cs : Array Value} {ty : TypeId} {fr : Nat × Nat} (h : w.heap[b]? = some (.cells cs ty fr)) (o : Nat) : w.cell? ⟨b, o, none⟩ = cs[o]? := by
  simp [World.cell?, h]

theorem frozen_heap {w : World} {b : Nat} {cs : Array Value} {ty : TypeId} {fr : Nat × Nat} (h : w.heap[b]? = some (.cells cs ty fr)) (hf : FrOk cs.size fr) {o : Nat} (ho : o < cs.size) : w.frozen? ⟨b, o, none⟩ = false := by
  have := hf o ho
  simp only [World.frozen?, h]
  simp only [Bool.and_eq_false_iff, decide_eq_false_iff_not]
  by_cases h1 : fr.1 ≤ o
  · exact .inr (fun h2 => this ⟨h1, h2⟩)
  · exact .inl h1

theorem mem_cell (h : RelC c φ m f a W) {b o : Nat} {v : Value} (hc : memCell m b o = some v) : W.cell? ⟨b, o, none⟩ = some v := by
  unfold memCell at hc
  cases hb : m b with
  | none => simp [hb] at hc
  | some x =>
    have := h.mem b x hb
    cases x <;> simp [hb] at hc
    rw [cell_heap this]
    exact hc

/-! ### one cell of a scalar -/
theorem D.rel_one {d : D} {V : Value} (h : d.rel m V) : V.oneCell' = true := by
  cases d <;> simp only [D.rel] at h
  case ptr => obtain ⟨b, o, rfl, _⟩ := h; rfl
  case slice => rcases h with ⟨_, _, rfl⟩ | ⟨_, ad, k, rfl, _⟩ <;> rfl
  case func => obtain ⟨vs, rfl, _⟩ := h; rfl
  all_goals subst h; rfl

def Sc.nojunk : Sc → Bool
  | .junk => false
  | _ => true

theorem Sc.rel_one {x : Sc} (hj : x.nojunk = true) {V : Value} (h : x.rel φ m V) : V.oneCell' = true := by
  cases x with
  | d x => exact D.rel_one (m := m) h
  | ptr i off => obtain ⟨b, C, e, _, rfl⟩ := h; rfl
  | eptr i k fo => obtain ⟨b, C, e, _, rfl⟩ := h; rfl
  | row i e off len cap => rcases h with ⟨_, _, _, _, rfl⟩ | ⟨b, C, ad, k, _, rfl, _⟩ <;> rfl
  | func f caps => obtain ⟨vs, rfl, _⟩ := h; rfl
  | yield l => obtain ⟨b, C, e, _, rfl⟩ := h; rfl
  | map i => obtain ⟨b, C, e, _, rfl⟩ := h; rfl
  | upt i e off len => obtain ⟨s, p, _, rfl, _⟩ := h; rfl
  | junk => cases hj

def AV.cells : AV → List Sc
  | .s x => [x]
  | .agg xs => xs

theorem cells_one {V : Value} (h : V.oneCell' = true) : V.cells = #[V] := by cases V <;> first | rfl | cases h

theorem AV.rel_cells {x : AV} {V : Value} (h : x.rel φ m V) (hj : x.cells.all Sc.nojunk = true) : relAll φ m x.cells V.cells.toList ∧ ∀ v ∈ V.cells.toList, v.oneCell' = true := by
  cases x with
  | s x =>
    simp only [AV.cells, List.all_cons, List.all_nil, Bool.and_true] at hj
    have h1 := Sc.rel_one hj (V := V) h
    rw [cells_one h1]
    refine ⟨⟨rfl, fun j y hy => ?_⟩, by simpa using h1⟩
    cases j with
    | zero => simp [AV.cells] at hy; subst hy; exact ⟨V, rfl, h⟩
    | succ j => simp [AV.cells] at hy
  | agg xs =>
    obtain ⟨vs, rfl, h1⟩ := h
    refine ⟨h1, fun v hv => ?_⟩
    simp only [Value.cells] at hv
    obtain ⟨j, hj1, hj2⟩ := List.getElem_of_mem hv
    have hl := h1.1
    have hx : j < xs.length := by omega
    obtain ⟨v', h3, h4⟩ := h1.2 j xs[j] (List.getElem?_eq_getElem hx)
    rw [List.getElem?_eq_getElem hj1] at h3
    injection h3 with h3
    rw [hj2] at h3
    subst h3
    have : xs[j].nojunk = true := by
      rw [List.all_eq_true] at hj
      exact hj _ (List.getElem_mem hx)
    exact Sc.rel_one this h4

/-! ### loads -/
theorem run_loadVar_agg {t : TypeId} {i : TI} (hT : TIOk P t i) (hag : i.kind.agg = true) {b o : Nat} {vs : List Value} (hl : vs.length = i.size) (h : ∀ j v, vs[j]? = some v → W.cell? ⟨b, o + j, none⟩ = some v) :
    (Instr.loadAt t (.pointer (some ⟨b, o, none⟩))).run P W = .ok (.agg vs.toArray) W := by
  have h2 := run_loadCells_list (P := P) W ⟨b, o, none⟩ vs (fun j v hj => by rw [addr_add]; exact h j v hj)
  rw [hl] at h2
  simp [Instr.loadAt, Instr.sureAddr, loadVar, run_isAgg' hT, hag, run_sizeOf' hT, h2]

theorem run_loadVar_one {t : TypeId} {i : TI} (hT : TIOk P t i) (hag : i.kind.agg = false) {b o : Nat} {v : Value} (h : W.cell? ⟨b, o, none⟩ = some v) :
    (Instr.loadAt t (.pointer (some ⟨b, o, none⟩))).run P W = .ok v W := by
  simp [Instr.loadAt, Instr.sureAddr, loadVar, run_isAgg' hT, hag, h]

theorem relAll_drop_take {xs : List Sc} {vs : List Value} (h : relAll φ m xs vs) (o n : Nat) : relAll φ m ((xs.drop o).take n) ((vs.drop o).take n) := by
  refine ⟨by simp [h.1], fun j x hj => ?_⟩
  rw [List.getElem?_take] at hj ⊢
  split at hj
  · rename_i hjn
    rw [List.getElem?_drop] at hj
    simp only [hjn, if_true, List.getElem?_drop]
    exact h.2 _ x hj
  · cases hj

def evLoad (T : Tab) (H : Heap) (t : TypeId) (p : AV) : Option Res :=
  match p, lookN t T with
  | .s (.ptr i off), some ti => (match H i with
    | some (.cells vs ty) => if ti.kind.agg then some ⟨.one (.agg ((vs.drop off).take ti.size)), [(i, .cells vs ty)], false, [], off + ti.size ≤ vs.length⟩
      else some ⟨.one (.s (vs.getD off .junk)), [(i, .cells vs ty)], false, [], off < vs.length⟩
    | _ => none)
  | .s (.eptr i k fo), some ti => (match H i with
    | some (.row es ty) => (match lookN ty T with
      | some te => if ti.kind.agg then some ⟨.one (.agg (((es.getD k te.zero).drop fo).take ti.size |>.map .d)), [(i, .row es ty)], false, [], k < es.length ∧ fo + ti.size ≤ (es.getD k te.zero).length⟩
        else some ⟨.one (dv ((es.getD k te.zero).getD fo .nilp)), [(i, .row es ty)], false, [], k < es.length ∧ fo < (es.getD k te.zero).length⟩
      | none => none)
    | _ => none)
  | .s (.d (.ptr cs)), some ti => if ti.kind.agg then some ⟨.one (.agg ((cs.take ti.size).map .d)), [], false, [], ti.size ≤ cs.length⟩
      else some ⟨.one (dv (cs.getD 0 .nilp)), [], false, [], 0 < cs.length⟩
  | _, _ => none

theorem flatten_at {e : Nat} : ∀ (es : List (List D)) (k fo : Nat), (∀ r ∈ es, r.length = e) → k < es.length → fo < e → es.flatten[k * e + fo]? = (es.getD k [])[fo]?
  | [], k, fo, _, hk, _ => by simp at hk
  | r :: rs, 0, fo, h, _, hf => by
    have := h r (List.mem_cons_self ..)
    simp [List.getElem?_append_left (show fo < r.length by omega)]
  | r :: rs, k + 1, fo, h, hk, hf => by
    have h1 := h r (List.mem_cons_self ..)
    rw [List.flatten_cons, List.getElem?_append_right (by rw [h1, Nat.succ_mul]; omega)]
    rw [show (k + 1) * e + fo - r.length = k * e + fo by rw [h1, Nat.succ_mul]; omega]
    rw [flatten_at rs k fo (fun x hx => h x (List.mem_cons_of_mem _ hx)) (by simpa using hk) hf]
    simp

theorem row_cell (hc : RelC c φ m f a W) {i : Nat} {es : List (List D)} {ty : TypeId} (hi : f (.h i) = .o (.row es ty)) {b C e : Nat} (hb : φ i = some (.blk b C e)) :
    ∃ (cs : Array Value) (fr : Nat × Nat), W.heap[b]? = some (.cells cs ty fr) ∧ FrOk cs.size fr ∧ cs.size = C * e ∧ es.length ≤ C ∧ C ≤ 9223372036854775807 ∧ (∀ r ∈ es, r.length = e) ∧ relRow m es cs ∧
      ∀ k fo, k < es.length → fo < e → ∃ d v, (es.getD k [])[fo]? = some d ∧ cs[k * e + fo]? = some v ∧ d.rel m v := by
  have h := hc.obj i _ hi
  rcases h with ⟨h1, _⟩ | ⟨b', C', e', cs, fr, h1, h2, h3, h4, h5, h6, h7, h8⟩
  · rw [hb] at h1; cases h1
  · rw [hb] at h1
    injection h1 with h1
    injection h1 with e1 e2 e3
    subst e1; subst e2; subst e3
    refine ⟨cs, fr, h2, h3, h4, h5, h6, h7, h8, fun k fo hk hfo => ?_⟩
    have hf := flatten_at es k fo h7 hk hfo
    have hl : (es.getD k []).length = e := by
      rw [List.getD_eq_getElem?_getD, List.getElem?_eq_getElem hk]
      exact h7 _ (List.getElem_mem hk)
    rw [List.getElem?_eq_getElem (show fo < (es.getD k []).length by rw [hl]; exact hfo)] at hf
    obtain ⟨v, hv1, hv2⟩ := h8 _ _ hf
    exact ⟨_, v, List.getElem?_eq_getElem (by rw [hl]; exact hfo), hv1, hv2⟩

theorem getD_dflt {es : List (List D)} {k : Nat} (hk : k < es.length) (z : List D) : es.getD k z = es.getD k [] := by
  simp [List.getD_eq_getElem?_getD, List.getElem?_eq_getElem hk]

theorem evLoad_ok {T : Tab} (hT : TabOk P T) {H : Heap} {t : TypeId} {p : AV} {r : Res} (h : evLoad T H t p = some r) (hob : r.ob) {fr : Nat} (hrd : r.Reads fr f) (hc : RelC c φ m f a W) {X : Value}
    (hx : p.rel φ m X) : Gives P (Instr.loadAt t X) c φ m f a W r := by
  unfold evLoad at h
  split at h
  · rename_i i off ti ht
    obtain ⟨b, C, e, hb, rfl⟩ := hx
    split at h
    · rename_i vs ty hH
      split at h
      · rename_i hag
        injection h with h
        subst h
        have ho := hrd.1 _ (List.mem_cons_self ..)
        obtain ⟨b', C', e', cs, fr', h1, h2, h3, h4⟩ := hc.obj i _ ho
        rw [hb] at h1
        injection h1 with h1
        injection h1 with e1 _ _
        subst e1
        have hl : ((cs.toList.drop off).take ti.size).length = ti.size := by have := h4.1; simp at this ⊢; omega
        refine ⟨φ, m, W, _, hc, NamesLe.refl φ, MemLe.refl m, run_loadVar_agg (hT.at ht) hag hl fun j v hj => ?_, _, rfl, relAll_drop_take h4 off ti.size⟩
        rw [cell_heap h2]
        rw [List.getElem?_take] at hj
        split at hj
        · rw [List.getElem?_drop] at hj; simpa using hj
        · cases hj
      · rename_i hag
        injection h with h
        subst h
        have ho := hrd.1 _ (List.mem_cons_self ..)
        obtain ⟨b', C', e', cs, fr', h1, h2, h3, h4⟩ := hc.obj i _ ho
        rw [hb] at h1
        injection h1 with h1
        injection h1 with e1 _ _
        subst e1
        obtain ⟨v, h5, h6⟩ := h4.2 off vs[off] (List.getElem?_eq_getElem hob)
        refine gives_pure hc (run_loadVar_one (hT.at ht) (by simpa using hag) (by rw [cell_heap h2]; simpa using h5)) ?_
        simp only [AVal.rel, AV.rel, List.getD_eq_getElem?_getD, List.getElem?_eq_getElem hob, Option.getD_some]
        exact h6
    · cases h
  · rename_i i k fo ti ht
    obtain ⟨b, C, e, hb, rfl⟩ := hx
    split at h
    · rename_i es ty hH
      split at h
      · rename_i te hte
        split at h
        · rename_i hag
          injection h with h
          subst h
          obtain ⟨hk, hfo⟩ := hob
          rw [getD_dflt hk] at hfo
          obtain ⟨cs, fr', h2, h3, h4, h5, h6, h7, h8, h9⟩ := row_cell hc (hrd.1 _ (List.mem_cons_self ..)) hb
          have hel : (es.getD k []).length = e := by
            rw [List.getD_eq_getElem?_getD, List.getElem?_eq_getElem hk]
            exact h7 _ (List.getElem_mem hk)
          have hsz : k * e + e ≤ cs.size := by
            rw [h4]
            have : (k + 1) * e ≤ C * e := Nat.mul_le_mul_right _ (by omega)
            rwa [Nat.succ_mul] at this
          have hl : ((cs.toList.drop (k * e + fo)).take ti.size).length = ti.size := by simp; omega
          refine ⟨φ, m, W, _, hc, NamesLe.refl φ, MemLe.refl m, run_loadVar_agg (hT.at ht) hag hl fun j v hj => ?_, _, rfl, ?_⟩
          · rw [cell_heap h2]
            rw [List.getElem?_take] at hj
            split at hj
            · rw [List.getElem?_drop] at hj; simpa using hj
            · cases hj
          · rw [getD_dflt hk]
            refine ⟨by rw [hl]; simp only [List.length_map, List.length_take, List.length_drop]; omega, fun j x hj => ?_⟩
            have hjl : j < ti.size := by
              have := (List.getElem?_eq_some_iff.1 hj).1
              simp at this
              omega
            obtain ⟨d, v, g1, g2, g3⟩ := h9 k (fo + j) hk (by omega)
            rw [List.getElem?_map, List.getElem?_take, if_pos hjl, List.getElem?_drop, g1] at hj
            injection hj with hj
            subst hj
            refine ⟨v, ?_, g3⟩
            rw [List.getElem?_take, if_pos hjl, List.getElem?_drop]
            rw [← g2]
            simp [Nat.add_assoc]
        · rename_i hag
          injection h with h
          subst h
          obtain ⟨hk, hfo⟩ := hob
          rw [getD_dflt hk] at hfo
          obtain ⟨cs, fr', h2, h3, h4, h5, h6, h7, h8, h9⟩ := row_cell hc (hrd.1 _ (List.mem_cons_self ..)) hb
          have hel : (es.getD k []).length = e := by
            rw [List.getD_eq_getElem?_getD, List.getElem?_eq_getElem hk]
            exact h7 _ (List.getElem_mem hk)
          obtain ⟨d, v, g1, g2, g3⟩ := h9 k fo hk (by omega)
          refine gives_pure hc (run_loadVar_one (hT.at ht) (by simpa using hag) (by rw [cell_heap h2]; exact g2)) ?_
          rw [getD_dflt hk]
          simp only [AVal.rel, AV.rel, Sc.rel]
          rw [List.getD_eq_getElem?_getD (l := es.getD k []), g1]
          exact g3
      · cases h
    · cases h
  · rename_i cs ti ht
    simp only [AV.rel, Sc.rel, D.rel] at hx
    obtain ⟨b, o, rfl, hcs⟩ := hx
    rw [relCells_iff] at hcs
    split at h
    · rename_i hag
      injection h with h
      subst h
      have hex : ∃ vs : List Value, vs.length = ti.size ∧ (∀ j v, vs[j]? = some v → W.cell? ⟨b, o + j, none⟩ = some v) ∧ ∀ (j : Nat) (d : D), j < ti.size → cs[j]? = some d → ∃ v : Value, vs[j]? = some v ∧ d.rel m v := by
        refine ⟨(List.range ti.size).map fun j => (W.cell? ⟨b, o + j, none⟩).getD undef, by simp, fun j v hj => ?_, fun j d hj hd => ?_⟩
        · have hjl : j < ti.size := by have := (List.getElem?_eq_some_iff.1 hj).1; simpa using this
          simp [hjl] at hj
          obtain ⟨v', g1, _⟩ := hcs j cs[j] (List.getElem?_eq_getElem (Nat.lt_of_lt_of_le hjl hob))
          have g2 := mem_cell hc g1
          rw [g2] at hj
          rw [g2, ← hj]
          rfl
        · obtain ⟨v', g1, g3⟩ := hcs j d hd
          refine ⟨v', ?_, g3⟩
          have g2 := mem_cell hc g1
          simp [hj, g2]
      obtain ⟨vs, g1, g2, g3⟩ := hex
      refine ⟨φ, m, W, _, hc, NamesLe.refl φ, MemLe.refl m, run_loadVar_agg (hT.at ht) hag g1 g2, vs, rfl, ?_, fun j x hj => ?_⟩
      · have := hob; simp; omega
      · have hjl : j < ti.size := by have := (List.getElem?_eq_some_iff.1 hj).1; simp at this; omega
        rw [List.getElem?_map, List.getElem?_take, if_pos hjl] at hj
        cases hd : cs[j]? with
        | none => simp [hd] at hj
        | some d =>
          simp [hd] at hj
          subst hj
          exact g3 j d hjl hd
    · rename_i hag
      injection h with h
      subst h
      obtain ⟨v, g1, g2⟩ := hcs 0 cs[0] (List.getElem?_eq_getElem hob)
      refine gives_pure hc (run_loadVar_one (hT.at ht) (by simpa using hag) (by simpa using mem_cell hc g1)) ?_
      simp only [AVal.rel, AV.rel, Sc.rel, List.getD_eq_getElem?_getD, List.getElem?_eq_getElem hob, Option.getD_some]
      exact g2
  · cases h

/-! ### stores -/
def splA (cs : Array Value) (o : Nat) : List Value → Array Value
  | [] => cs
  | v :: r => splA (cs.setIfInBounds o v) (o + 1) r

def splL {α : Type} (xs : List α) (o : Nat) : List α → List α
  | [] => xs
  | y :: r => splL (xs.set o y) (o + 1) r

theorem splA_size : ∀ (vs : List Value) (cs : Array Value) (o : Nat), (splA cs o vs).size = cs.size
  | [], _, _ => rfl
  | v :: r, cs, o => by rw [splA, splA_size r]; simp

theorem splL_length {α : Type} : ∀ (ys xs : List α) (o : Nat), (splL xs o ys).length = xs.length
  | [], _, _ => rfl
  | v :: r, cs, o => by rw [splL, splL_length r]; simp

theorem setCells_heap : ∀ (vs : List Value) (b o : Nat) (w : World) (cs : Array Value) (ty : TypeId) (fr : Nat × Nat), w.heap[b]? = some (.cells cs ty fr) →
    (w.setCells b o vs).heap[b]? = some (.cells (splA cs o vs) ty fr) ∧ (∀ k, k ≠ b → (w.setCells b o vs).heap[k]? = w.heap[k]?) ∧ (w.setCells b o vs).heap.size = w.heap.size ∧
      (w.setCells b o vs).os = w.os ∧ (w.setCells b o vs).output = w.output ∧ (w.setCells b o vs).tape = w.tape
  | [], b, o, w, cs, ty, fr, h => ⟨h, fun _ _ => rfl, rfl, rfl, rfl, rfl⟩
  | v :: r, b, o, w, cs, ty, fr, h => by
    have hb : (w.setCell ⟨b, o, none⟩ v).heap[b]? = some (.cells (cs.setIfInBounds o v) ty fr) := by
      simp [World.setCell, Array.getElem?_modify, h]
    obtain ⟨h1, h2, h3, h4, h5, h6⟩ := setCells_heap r b (o + 1) (w.setCell ⟨b, o, none⟩ v) _ ty fr hb
    refine ⟨h1, fun k hk => ?_, ?_, h4, h5, h6⟩
    · rw [World.setCells, h2 k hk]
      exact Below.heap_setCell w ⟨b, o, none⟩ v k hk
    · rw [World.setCells, h3]
      simp [World.setCell]

theorem relAll_set {xs : List Sc} {vs : List Value} (h : relAll φ m xs vs) (o : Nat) {x : Sc} {v : Value} (hx : x.rel φ m v) : relAll φ m (xs.set o x) (vs.set o v) := by
  refine ⟨by simp [h.1], fun j y hj => ?_⟩
  by_cases e : o = j
  · subst e
    have hl : o < xs.length := by have := (List.getElem?_eq_some_iff.1 hj).1; simpa using this
    rw [List.getElem?_set_self hl] at hj
    injection hj with hj
    subst hj
    exact ⟨v, by rw [List.getElem?_set_self (by have := h.1; omega)], hx⟩
  · rw [List.getElem?_set_ne e] at hj ⊢
    exact h.2 j y hj

theorem relAll_spl : ∀ (ys : List Sc) (us : List Value) (xs : List Sc) (cs : Array Value) (o : Nat), relAll φ m ys us → relAll φ m xs cs.toList → relAll φ m (splL xs o ys) (splA cs o us).toList
  | [], us, xs, cs, o, hy, hx => by
    have : us = [] := List.eq_nil_of_length_eq_zero hy.1
    subst this
    exact hx
  | y :: ys, us, xs, cs, o, hy, hx => by
    cases us with
    | nil => have := hy.1; simp at this
    | cons u us =>
      obtain ⟨v, h1, h2⟩ := hy.2 0 y rfl
      simp at h1
      subst h1
      refine relAll_spl ys us (xs.set o y) (cs.setIfInBounds o u) (o + 1) ⟨by have := hy.1; simpa using this, fun j x hj => ?_⟩ (by simpa using relAll_set hx o h2)
      have := hy.2 (j + 1) x (by simpa using hj)
      simpa using this

/-- An instruction that only does something. -/
def Does (P : Program) (s : Sem Unit) (c : Ctx) (φ : Names) (m : Mem) (f : StF) (a : Act) (W : World) (r : Res) : Prop :=
  ∃ φ' m' W', RelC c φ' m' (wrApp r.wr f) a W' ∧ NamesLe φ φ' ∧ MemLe m m' ∧ s.run P W = .ok () W' ∧ r.val = .junk

def toDs : List Sc → Option (List D)
  | [] => some []
  | .d x :: r => (toDs r).map (x :: ·)
  | _ :: _ => none

theorem toDs_map : ∀ {xs : List Sc} {ds : List D}, toDs xs = some ds → xs = ds.map .d
  | [], ds, h => by simp [toDs] at h; subst h; rfl
  | .d x :: r, ds, h => by
    simp only [toDs, Option.map_eq_some_iff] at h
    obtain ⟨ds', h1, rfl⟩ := h
    rw [toDs_map h1]; rfl
  | .ptr _ _ :: _, _, h => by simp [toDs] at h
  | .eptr _ _ _ :: _, _, h => by simp [toDs] at h
  | .row _ _ _ _ _ :: _, _, h => by simp [toDs] at h
  | .func _ _ :: _, _, h => by simp [toDs] at h
  | .yield _ :: _, _, h => by simp [toDs] at h
  | .map _ :: _, _, h => by simp [toDs] at h
  | .upt _ _ _ _ :: _, _, h => by simp [toDs] at h
  | .junk :: _, _, h => by simp [toDs] at h

def evStore (T : Tab) (H : Heap) (t : TypeId) (p v : AV) : Option Res :=
  match p, lookN t T with
  | .s (.ptr i off), some ti => (match H i with
    | some (.cells vs ty) => if v.cells.all Sc.nojunk then some ⟨.junk, [(i, .cells vs ty)], false, [(i, .o (.cells (splL vs off v.cells) ty))], v.cells.length = ti.size ∧ off + ti.size ≤ vs.length⟩ else none
    | _ => none)
  | .s (.eptr i k fo), some ti => (match H i, toDs v.cells with
    | some (.row es ty), some ds => (match lookN ty T with
      | some te => some ⟨.junk, [(i, .row es ty)], false, [(i, .o (.row (es.set k (splL (es.getD k te.zero) fo ds)) ty))], ds.length = ti.size ∧ k < es.length ∧ fo + ti.size ≤ (es.getD k te.zero).length⟩
      | none => none)
    | _, _ => none)
  | _, _ => none

theorem run_storeAt {t : TypeId} {i : TI} (hT : TIOk P t i) {b o : Nat} {V : Value} {cs : Array Value} {ty : TypeId} {fr : Nat × Nat} (hb : W.heap[b]? = some (.cells cs ty fr)) (hf : FrOk cs.size fr)
    (hl : V.cells.size = i.size) (ho : o + i.size ≤ cs.size) (h1 : ∀ v ∈ V.cells.toList, v.oneCell' = true) :
    (Instr.storeAt t (.pointer (some ⟨b, o, none⟩)) V).run P W = .ok () (W.setCells b o V.cells.toList) := by
  have h2 := run_storeCells_cells (P := P) b o V.cells.toList 0 W (fun j hj => by
      rw [cell_heap hb]
      simp at hj
      rw [Array.getElem?_eq_getElem (by omega)]
      rfl) (fun j hj => frozen_heap hb hf (by simp at hj; omega)) h1
  rw [Nat.add_zero] at h2
  simp [Instr.storeAt, Instr.sureAddr, storeVar, run_sizeOf' hT, hl, h2]

theorem splA_get : ∀ (us : List Value) (cs : Array Value) (o j : Nat), o + us.length ≤ cs.size → (splA cs o us)[j]? = if o ≤ j ∧ j < o + us.length then us[j - o]? else cs[j]?
  | [], cs, o, j, _ => by
    simp only [splA, List.length_nil, Nat.add_zero]
    rw [if_neg (by omega)]
  | u :: us, cs, o, j, h => by
    simp only [List.length_cons] at h
    rw [splA, splA_get us (cs.setIfInBounds o u) (o + 1) j (by simp; omega)]
    by_cases h1 : o + 1 ≤ j ∧ j < o + 1 + us.length
    · rw [if_pos h1, if_pos (by simp; omega), show j - o = (j - (o + 1)) + 1 by omega]
      simp
    · rw [if_neg h1]
      by_cases h2 : j = o
      · subst h2
        rw [if_pos (by simp)]
        simp [Array.getElem?_setIfInBounds, show j < cs.size by omega]
      · rw [if_neg (by simp; omega), Array.getElem?_setIfInBounds_ne (by omega)]

theorem splL_get {α : Type} : ∀ (us cs : List α) (o j : Nat), o + us.length ≤ cs.length → (splL cs o us)[j]? = if o ≤ j ∧ j < o + us.length then us[j - o]? else cs[j]?
  | [], cs, o, j, _ => by
    simp only [splL, List.length_nil, Nat.add_zero]
    rw [if_neg (by omega)]
  | u :: us, cs, o, j, h => by
    simp only [List.length_cons] at h
    rw [splL, splL_get us (cs.set o u) (o + 1) j (by simp; omega)]
    by_cases h1 : o + 1 ≤ j ∧ j < o + 1 + us.length
    · rw [if_pos h1, if_pos (by simp; omega), show j - o = (j - (o + 1)) + 1 by omega]
      simp
    · rw [if_neg h1]
      by_cases h2 : j = o
      · subst h2
        rw [if_pos (by simp)]
        simp [List.getElem?_set, show j < cs.length by omega]
      · rw [if_neg (by simp; omega), List.getElem?_set_ne (by omega)]

theorem flatten_get {e : Nat} (he : 0 < e) {es : List (List D)} (h : ∀ r ∈ es, r.length = e) {j : Nat} (hj : j < es.length * e) : es.flatten[j]? = (es.getD (j / e) [])[j % e]? := by
  have h1 : j / e < es.length := (Nat.div_lt_iff_lt_mul he).2 hj
  have h2 := flatten_at es (j / e) (j % e) h h1 (Nat.mod_lt _ he)
  rw [← h2]
  congr 1
  have := Nat.div_add_mod j e
  rw [Nat.mul_comm]
  omega

theorem flatten_len {e : Nat} : ∀ {es : List (List D)}, (∀ r ∈ es, r.length = e) → es.flatten.length = es.length * e
  | [], _ => by simp
  | r :: rs, h => by
    have h1 := flatten_len (es := rs) (fun x hx => h x (List.mem_cons_of_mem _ hx))
    have h2 := h r (List.mem_cons_self ..)
    simp only [List.flatten_cons, List.length_append, List.length_cons, h1, h2, Nat.succ_mul]
    omega

theorem evStore_ok {T : Tab} (hT : TabOk P T) {H : Heap} {t : TypeId} {p v : AV} {r : Res} (h : evStore T H t p v = some r) (hob : r.ob) {fr : Nat} (hrd : r.Reads fr f) (hc : RelC c φ m f a W) {X V : Value}
    (hx : p.rel φ m X) (hv : v.rel φ m V) : Does P (Instr.storeAt t X V) c φ m f a W r := by
  unfold evStore at h
  split at h
  · rename_i i off ti ht
    obtain ⟨b, C, e, hb, rfl⟩ := hx
    split at h
    · rename_i vs ty hH
      split at h
      · rename_i hnj
        injection h with h
        subst h
        have ho := hrd.1 _ (List.mem_cons_self ..)
        obtain ⟨b', C', e', cs, fr', h1, h2, h3, h4⟩ := hc.obj i _ ho
        rw [hb] at h1
        injection h1 with h1
        injection h1 with e1 _ _
        subst e1
        obtain ⟨hcell, hone⟩ := AV.rel_cells hv hnj
        have hsz : V.cells.size = ti.size := by have := hcell.1; simp at this; omega
        have hcs : cs.size = vs.length := by have := h4.1; simpa using this
        obtain ⟨g1, g2, g3, g4, g5, g6⟩ := setCells_heap V.cells.toList b off W cs ty fr' h2
        refine ⟨φ, m, _, ?_, NamesLe.refl φ, MemLe.refl m, run_storeAt (hT.at ht) h2 h3 hsz (by have := hob.2; omega) hone, rfl⟩
        rw [wrApp_cons, wrApp_nil]
        exact hc.setObj ho hb g4 g5 g6 g3 g2 ⟨b, C, e, _, fr', hb, g1, by rw [splA_size]; exact h3, relAll_spl _ _ _ _ _ hcell h4⟩
      · cases h
    · cases h
  · rename_i i k fo ti ht
    obtain ⟨b, C, e, hb, rfl⟩ := hx
    split at h
    · rename_i es ty ds hH hds
      split at h
      · rename_i te hte
        injection h with h
        subst h
        obtain ⟨o1, o2, o3⟩ := hob
        have ho := hrd.1 _ (List.mem_cons_self ..)
        obtain ⟨cs, fr', h2, h3, h4, h5, h6, h7, h8, h9⟩ := row_cell hc ho hb
        rw [getD_dflt o2] at o3
        have hel : (es.getD k []).length = e := by
          rw [List.getD_eq_getElem?_getD, List.getElem?_eq_getElem o2]
          exact h7 _ (List.getElem_mem o2)
        have hmap := toDs_map hds
        obtain ⟨hcell, hone⟩ := AV.rel_cells hv (by rw [hmap]; simp [Sc.nojunk])
        have hsz : V.cells.size = ti.size := by have := hcell.1; rw [hmap] at this; simp at this; omega
        have hin : k * e + e ≤ cs.size := by
          rw [h4]
          have : (k + 1) * e ≤ C * e := Nat.mul_le_mul_right _ (by omega)
          rwa [Nat.succ_mul] at this
        obtain ⟨g1, g2, g3, g4, g5, g6⟩ := setCells_heap V.cells.toList b (k * e + fo) W cs ty fr' h2
        refine ⟨φ, m, _, ?_, NamesLe.refl φ, MemLe.refl m, run_storeAt (hT.at ht) h2 h3 hsz (by omega) hone, rfl⟩
        rw [wrApp_cons, wrApp_nil]
        have hrows : ∀ r ∈ es.set k (splL (es.getD k te.zero) fo ds), r.length = e := by
          intro r hr
          rcases List.mem_or_eq_of_mem_set hr with h | h
          · exact h7 r h
          · subst h; rw [splL_length, getD_dflt o2]; exact hel
        refine hc.setObj ho hb g4 g5 g6 g3 g2 (.inr ⟨b, C, e, _, fr', hb, g1, by rw [splA_size]; exact h3, by rw [splA_size]; exact h4, by simpa using h5, h6, hrows, ?_⟩)
        intro j d hj
        have hjl : j < es.length * e := by
          have := (List.getElem?_eq_some_iff.1 hj).1
          rw [flatten_len hrows] at this
          simpa using this
        rcases Nat.eq_zero_or_pos e with he | he
        · subst he; simp at hjl
        rw [flatten_get he hrows (by simpa using hjl)] at hj
        have hjk : j / e < es.length := (Nat.div_lt_iff_lt_mul he).2 hjl
        have hdm := Nat.div_add_mod j e
        rw [Nat.mul_comm] at hdm
        have hmod := Nat.mod_lt j he
        rw [splA_get _ _ _ _ (by simp; omega)]
        by_cases hk : j / e = k
        · rw [hk, List.getD_eq_getElem?_getD, List.getElem?_set_self o2, Option.getD_some, getD_dflt o2, splL_get _ _ _ _ (by omega)] at hj
          rw [hk] at hdm
          by_cases hin2 : fo ≤ j % e ∧ j % e < fo + ds.length
          · rw [if_pos hin2] at hj
            rw [if_pos (by simp; omega)]
            obtain ⟨v', q1, q2⟩ := hcell.2 (j % e - fo) (.d d) (by rw [hmap, List.getElem?_map, hj]; rfl)
            refine ⟨v', ?_, q2⟩
            rw [← q1]
            congr 1
            omega
          · rw [if_neg hin2] at hj
            rw [if_neg (by simp; omega)]
            obtain ⟨d', v', q1, q2, q3⟩ := h9 k (j % e) o2 hmod
            rw [q1] at hj
            injection hj with hj
            subst hj
            exact ⟨v', by rw [← q2]; congr 1; omega, q3⟩
        · rw [List.getD_eq_getElem?_getD, List.getElem?_set_ne (fun x => hk x.symm), ← List.getD_eq_getElem?_getD] at hj
          have hne : ¬ (k * e + fo ≤ j ∧ j < k * e + fo + V.cells.toList.length) := by
            rintro ⟨x1, x2⟩
            apply hk
            simp at x2
            have y1 : k * e ≤ j := by omega
            have y2 : j < (k + 1) * e := by rw [Nat.succ_mul]; omega
            have z1 : k ≤ j / e := (Nat.le_div_iff_mul_le he).2 y1
            have z2 : j / e < k + 1 := (Nat.div_lt_iff_lt_mul he).2 y2
            omega
          rw [if_neg hne]
          obtain ⟨d', v', q1, q2, q3⟩ := h9 (j / e) (j % e) hjk hmod
          rw [q1] at hj
          injection hj with hj
          subst hj
          exact ⟨v', by rw [← q2, hdm], q3⟩
      · cases h
    · cases h
  · cases h

end
end Go.Proofs.Hg
