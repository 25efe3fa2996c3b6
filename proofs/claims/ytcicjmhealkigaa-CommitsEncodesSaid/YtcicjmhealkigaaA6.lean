/- New variables, literals, places of fields and elements, cuts. -/
import Derived.Test.YtcicjmhealkigaaA5
set_option linter.unusedVariables false
set_option linter.unusedSimpArgs false
namespace Go.Proofs.Hg
open Go.RowKit

section
variable {P : Program} {c : Ctx} {φ : Names} {m : Mem} {f : StF} {a : Act} {W : World}

theorem heap_new (w : World) (o : Obj) : (w.alloc o).heap[w.heap.size]? = some o := by
  show (w.heap.push o)[w.heap.size]? = _
  simp

/-! ### new variables -/
def evBox (fresh : Nat) (t : TypeId) (v : AV) : Option Res :=
  if v.cells.all Sc.nojunk then some ⟨.one (.s (.ptr fresh 0)), [], true, [(fresh, .o (.cells v.cells t))], True⟩ else none

theorem evBox_ok {fresh : Nat} {t : TypeId} {v : AV} {r : Res} (h : evBox fresh t v = some r) (hrd : r.Reads fresh f) (hc : RelC c φ m f a W) {V : Value} (hv : v.rel φ m V) :
    Gives P (Instr.box t V) c φ m f a W r := by
  unfold evBox at h
  split at h
  · rename_i hj
    injection h with h
    subst h
    have hn := hc.free _ (hrd.2 rfl)
    obtain ⟨hcell, _⟩ := AV.rel_cells hv hj
    have hp : NamesLe φ (updN φ fresh (.blk W.heap.size 0 0)) := updN_le _ hn
    refine ⟨updN φ fresh (.blk W.heap.size 0 0), m, W.alloc (.cells V.cells t), .pointer (some ⟨W.heap.size, 0, none⟩), ?_, hp, MemLe.refl m, ?_, ?_⟩
    · rw [wrApp_cons, wrApp_nil]
      refine hc.alloc (hrd.2 rfl) ⟨W.heap.size, 0, 0, V.cells, (0, 0), updN_self _ _ _, heap_new _ _, FrOk.zero _, relAll_le hp (MemLe.refl m) hcell⟩
    · simp [Instr.box, newVar, newRow]
    · exact ⟨W.heap.size, 0, 0, updN_self _ _ _, rfl⟩
  · cases h

def evAlloc (T : Tab) (fresh : Nat) (t : TypeId) : Option Res :=
  match lookN t T with
  | some ti => some ⟨.one (.s (.ptr fresh 0)), [], true, [(fresh, .o (.cells (ti.zero.map .d) t))], True⟩
  | none => none

theorem evAlloc_ok {T : Tab} (hT : TabOk P T) {fresh : Nat} {t : TypeId} {r : Res} (h : evAlloc T fresh t = some r) (hrd : r.Reads fresh f) (hc : RelC c φ m f a W) :
    Gives P (Instr.alloc t true (.tuple #[])) c φ m f a W r := by
  unfold evAlloc at h
  split at h
  · rename_i ti ht
    injection h with h
    subst h
    have hn := hc.free _ (hrd.2 rfl)
    have hp : NamesLe φ (updN φ fresh (.blk W.heap.size 0 0)) := updN_le _ hn
    refine ⟨updN φ fresh (.blk W.heap.size 0 0), m, W.alloc (.cells (ti.zero.map D.val).toArray t), .pointer (some ⟨W.heap.size, 0, none⟩), ?_, hp, MemLe.refl m, ?_, ?_⟩
    · rw [wrApp_cons, wrApp_nil]
      refine hc.alloc (hrd.2 rfl) ⟨W.heap.size, 0, 0, _, (0, 0), updN_self _ _ _, heap_new _ _, FrOk.zero _, zero_rel (hT.at ht) _ _⟩
    · simp [Instr.alloc, run_zero' (hT.at ht), newVar, newRow, zeroVal_cells (hT.at ht)]
    · exact ⟨W.heap.size, 0, 0, updN_self _ _ _, rfl⟩
  · cases h

/-! ### literals -/
/-- parts, each at its place -/
def fillL (place : Nat → Option (Nat × Nat)) (cells : List Sc) : List (Nat × AV) → Option (List Sc × Prop)
  | [] => some (cells, True)
  | (i, v) :: rest => match place i with
    | none => none
    | some (off, size) => if v.cells.all Sc.nojunk then (fillL place (splL cells off v.cells) rest).map fun p => (p.1, (v.cells.length = size ∧ off + size ≤ cells.length) ∧ p.2) else none

theorem zipIdx_fold (off : Nat) : ∀ (vs : List Value) (k : Nat) (cs : Array Value), (vs.zipIdx k).foldl (fun cs (p : Value × Nat) => cs.setIfInBounds (off + p.2) p.1) cs = splA cs (off + k) vs
  | [], _, _ => rfl
  | v :: r, k, cs => by
    rw [List.zipIdx_cons, List.foldl_cons, splA, zipIdx_fold off r (k + 1)]
    rfl

theorem fillL_ok {place : Nat → Option (Nat × Nat)} : ∀ (parts : List (Nat × AV)) (vals : List (Nat × Value)) (cells : List Sc) (cs : Array Value) (q : List Sc × Prop),
    fillL place cells parts = some q → q.2 → relAll φ m cells cs.toList → vals.length = parts.length →
    (∀ (j : Nat) (p : Nat × AV), parts[j]? = some p → ∃ V : Value, vals[j]? = some (p.1, V) ∧ p.2.rel φ m V) →
    ∃ cs' : Array Value, Instr.fill place cs vals = some cs' ∧ relAll φ m q.1 cs'.toList
  | [], vals, cells, cs, q, h, hq, hr, hl, hv => by
    simp [fillL] at h
    subst h
    have : vals = [] := List.eq_nil_of_length_eq_zero hl
    subst this
    exact ⟨cs, rfl, hr⟩
  | (i, v) :: rest, vals, cells, cs, q, h, hq, hr, hl, hv => by
    cases vals with
    | nil => simp at hl
    | cons u us =>
      obtain ⟨V, h1, h2⟩ := hv 0 (i, v) rfl
      simp at h1
      subst h1
      simp only [fillL] at h
      cases hp : place i with
      | none => simp [hp] at h
      | some p =>
        obtain ⟨off, size⟩ := p
        simp only [hp] at h
        split at h
        · rename_i hj
          cases hf : fillL place (splL cells off v.cells) rest with
          | none => simp [hf] at h
          | some p2 =>
            simp [hf] at h
            subst h
            obtain ⟨⟨o1, o2⟩, o3⟩ := hq
            obtain ⟨hcell, _⟩ := AV.rel_cells h2 hj
            have hs := relAll_spl v.cells V.cells.toList cells cs off hcell hr
            have hsz : V.cells.size = size := by have := hcell.1; simp at this; omega
            have hcs : cs.size = cells.length := by have := hr.1; simpa using this
            obtain ⟨cs', g1, g2⟩ := fillL_ok rest us (splL cells off v.cells) (splA cs off V.cells.toList) p2 hf o3 hs (by simpa using hl) (fun j p hj => by
              have := hv (j + 1) p (by simpa using hj)
              simpa using this)
            refine ⟨cs', ?_, g2⟩
            simp only [Instr.fill, hp]
            rw [if_neg (by simp [hsz]; omega)]
            rw [← g1]
            congr 1
            have := zipIdx_fold off V.cells.toList 0 cs
            simp only [Nat.add_zero] at this
            rw [← this, ← Array.foldl_toList]
            congr 1
            simp
        · cases h

def stPlace (T : Tab) (fs : List (Nat × TypeId)) (i : Nat) : Option (Nat × Nat) :=
  match fs[i]? with
  | some p => (lookN p.2 T).map fun x => (p.1, x.size)
  | none => none

def evBuild (T : Tab) (t : TypeId) (parts : List (Nat × AV)) : Option Res :=
  match lookN t T with
  | some ⟨.struct fs, _, _, zero⟩ => if fs.all (fun p => (lookN p.2 T).isSome) then (fillL (stPlace T fs) (zero.map .d) parts).map fun p => ⟨.one (.agg p.1), [], false, [], p.2⟩ else none
  | some ⟨.array _ e, _, _, zero⟩ => (match lookN e T with
      | some te => (fillL (fun i => some (i * te.size, te.size)) (zero.map .d) parts).map fun p => ⟨.one (.agg p.1), [], false, [], p.2⟩
      | none => none)
  | _ => none

theorem run_placesT {T : Tab} (hT : TabOk P T) : ∀ (fs : List Field), (fs.all fun f => (lookN f.type T).isSome) = true →
    ∃ l : List (Nat × Nat), Sem.run P (fs.mapM fun (f : Field) => do pure (f.offset, ← sizeOf f.type)) W = .ok l W ∧ ∀ i : Nat, l[i]? = (fs[i]?).bind fun (f : Field) => (lookN f.type T).map fun x => (f.offset, x.size)
  | [], _ => ⟨[], by simp, by simp⟩
  | g :: gs, h => by
    simp only [List.all_cons, Bool.and_eq_true] at h
    obtain ⟨l, h1, h2⟩ := run_placesT hT gs h.2
    cases hx : lookN g.type T with
    | none => simp [hx] at h
    | some x =>
      refine ⟨(g.offset, x.size) :: l, ?_, fun i => ?_⟩
      · rw [List.mapM_cons]
        simp only [Sem.run_bind, run_sizeOf' (hT.at hx), Result.andThen, Sem.run_pure, h1]
      · cases i with
        | zero => simp [hx]
        | succ i => simpa using h2 i

theorem evBuild_ok {T : Tab} (hT : TabOk P T) {t : TypeId} {parts : List (Nat × AV)} {vals : List (Nat × Value)} {r : Res} (h : evBuild T t parts = some r) (hob : r.ob) (hc : RelC c φ m f a W)
    (hl : vals.length = parts.length) (hv : ∀ (j : Nat) (p : Nat × AV), parts[j]? = some p → ∃ V : Value, vals[j]? = some (p.1, V) ∧ p.2.rel φ m V) :
    Gives P (Instr.build t vals.toArray) c φ m f a W r := by
  unfold evBuild at h
  split at h
  · rename_i fs sz by_ zero ht
    split at h
    · rename_i hall
      cases hf : fillL (stPlace T fs) (zero.map .d) parts with
      | none => rw [hf] at h; cases h
      | some q =>
        rw [hf] at h
        injection h with h
        subst h
        obtain ⟨d, hu, hk⟩ := (hT.at ht).und'
        obtain ⟨gs, rfl, hgs⟩ := kindOf_struct hk
        obtain ⟨l, hl1, hl2⟩ := run_placesT (P := P) (W := W) hT gs.toList (by rw [hgs] at hall; simpa [List.all_map] using hall)
        have hplace : stPlace T fs = (l.toArray[·]?) := by
          funext i
          unfold stPlace
          rw [List.getElem?_toArray, hl2 i, hgs, List.getElem?_map]
          cases gs.toList[i]? <;> rfl
        rw [hplace] at hf
        obtain ⟨cs', g1, g2⟩ := fillL_ok parts vals (zero.map .d) (zero.map D.val).toArray q hf hob (zero_rel (hT.at ht) φ m) hl hv
        refine ⟨φ, m, W, .agg cs', hc, NamesLe.refl φ, MemLe.refl m, ?_, cs'.toList, by simp, g2⟩
        have hm : Sem.run P (gs.mapM fun f => do pure (f.offset, ← sizeOf f.type)) W = .ok l.toArray W := by
          rw [Array.mapM_eq_mapM_toList]
          rw [map_eq_pure_bind]
          simp only [Sem.run_bind, hl1, Result.andThen]
          rfl
        simp only [Instr.build, Sem.run_bind, run_zero' (hT.at ht), Result.andThen, run_underlying hu, hm, zeroVal_cells (hT.at ht)]
        rw [g1]
        rfl
    · cases h
  · rename_i n e sz by_ zero ht
    split at h
    · rename_i te hte
      cases hf : fillL (fun i => some (i * te.size, te.size)) (zero.map .d) parts with
      | none => rw [hf] at h; cases h
      | some q =>
        rw [hf] at h
        injection h with h
        subst h
        have hu := (hT.at ht).desc (d := .array n e) (fun d' hd => kindOf_array hd)
        obtain ⟨cs', g1, g2⟩ := fillL_ok parts vals (zero.map .d) (zero.map D.val).toArray q hf hob (zero_rel (hT.at ht) φ m) hl hv
        refine ⟨φ, m, W, .agg cs', hc, NamesLe.refl φ, MemLe.refl m, ?_, cs'.toList, by simp, g2⟩
        simp only [Instr.build, Sem.run_bind, run_zero' (hT.at ht), Result.andThen, run_underlying hu, run_sizeOf' (hT.at hte), zeroVal_cells (hT.at ht)]
        rw [g1]
        rfl
    · cases h
  · cases h

/-! ### a row that becomes a value -/
theorem freeze_row (hc : RelC c φ m f a W) {j e : Nat} {es : List (List D)} {ty : TypeId} {len : Nat} {cap : Option Nat} (hj : f (.h j) = .o (.row es ty)) (hl : len = es.length) {X : Value} (hx : (Sc.row j e 0 len cap).rel φ m X) :
    ∃ m', RelC c φ m' (upd f (.h j) .none) a W ∧ MemLe m m' ∧ (D.slice none e es).rel m' X := by
  rcases hx with ⟨h1, _, h2, _, rfl⟩ | ⟨b, C, ad, k, h1, rfl, h3, h4, h5, h6⟩
  · refine ⟨m, hc.kill _, MemLe.refl m, ?_⟩
    unfold D.rel
    have : es = [] := List.eq_nil_of_length_eq_zero (by omega)
    exact .inl ⟨this, by simp, rfl⟩
  · obtain ⟨cs, fr, g2, g3, g4, g5, g6, g7, g8, _⟩ := row_cell hc hj h1
    have hf := hc.freeze hj h1 g2
    have hm : MemLe m (fun k => if k = b then some (.cells cs ty fr) else m k) := by
      have hown := hc.own j _ b C e hj h1
      intro k o1 hk
      by_cases ek : k = b
      · subst ek; rw [hown.2.1] at hk; cases hk
      · simp only [if_neg ek]; exact hk
    refine ⟨_, hf, hm, ?_⟩
    simp only [D.rel]
    refine .inr ⟨by simp, ad, k, by rw [hl], by omega, g7, fun hne => ?_⟩
    have hk0 : k ≠ 0 := by
      have : 0 < es.length := List.length_pos_iff.2 hne
      omega
    rw [h6.1 hk0]
    refine ⟨rfl, ?_⟩
    rw [relRows_iff, relCells_iff]
    intro i d hi
    obtain ⟨v, q1, q2⟩ := g8 i d hi
    refine ⟨v, ?_, D.rel_le hm d v q2⟩
    simp [memCell, q1]

structure Frz where
  d : D
  kill : Option (Nat × AObj)
  ob : Prop

def frz (H : Heap) : Sc → Option Frz
  | .d x => some ⟨x, none, True⟩
  | .row j e off len none => (match H j with
    | some (.row es ty) => some ⟨.slice none e es, some (j, .row es ty), off = 0 ∧ len = es.length⟩
    | _ => none)
  | _ => none

def frzL (H : Heap) : List Sc → Option (List Frz)
  | [] => some []
  | x :: r => (frz H x).bind fun a => (frzL H r).map (a :: ·)

def kills (l : List Frz) : List (Nat × AObj) := l.filterMap (·.kill)
def killW (l : List (Nat × AObj)) : List (Nat × Ent) := l.map fun p => (p.1, .none)

theorem wrApp_ne {l : List (Nat × Ent)} {i : Nat} (h : ∀ p ∈ l, p.1 ≠ i) (f : StF) : wrApp l f (.h i) = f (.h i) := by
  induction l with
  | nil => rfl
  | cons p l ih =>
    rw [wrApp_cons, upd_other (by have := h p (List.mem_cons_self ..); simpa using fun e => this e.symm)]
    exact ih (fun q hq => h q (List.mem_cons_of_mem _ hq))

theorem frzL_ok {H : Heap} : ∀ (xs : List Sc) (l : List Frz) (vs : List Value) (m : Mem), frzL H xs = some l → (∀ z ∈ l, z.ob) → (∀ p ∈ kills l, f (.h p.1) = .o p.2) → ((kills l).map (·.1)).Nodup →
    relAll φ m xs vs → RelC c φ m f a W → ∃ m', RelC c φ m' (wrApp (killW (kills l)) f) a W ∧ MemLe m m' ∧ relAll φ m' (l.map fun z => Sc.d z.d) vs
  | [], l, vs, m, h, _, _, _, hr, hc => by
    simp [frzL] at h
    subst h
    exact ⟨m, hc, MemLe.refl m, hr⟩
  | x :: r, l, vs, m, h, hob, hk, hn, hr, hc => by
    simp only [frzL] at h
    cases hx : frz H x with
    | none => simp [hx] at h
    | some z =>
      cases hl : frzL H r with
      | none => simp [hx, hl] at h
      | some l' =>
        simp [hx, hl] at h
        subst h
        cases vs with
        | nil => have := hr.1; simp at this
        | cons v vs =>
          have hr' : relAll φ m r vs := ⟨by have := hr.1; simpa using this, fun j y hj => by have := hr.2 (j + 1) y (by simpa using hj); simpa using this⟩
          have hv : x.rel φ m v := by obtain ⟨v', h1, h2⟩ := hr.2 0 x rfl; simp at h1; subst h1; exact h2
          have hsub : kills l' ⊆ kills (z :: l') := by
            intro p hp
            simp only [kills, List.filterMap_cons] at hp ⊢
            split
            · exact hp
            · exact List.mem_cons_of_mem _ hp
          have hn' : ((kills l').map (·.1)).Nodup := by
            refine hn.sublist ?_
            simp only [kills, List.filterMap_cons]
            split
            · exact List.Sublist.refl _
            · exact List.sublist_cons_self _ _
          obtain ⟨m1, c1, le1, rel1⟩ := frzL_ok r l' vs m hl (fun y hy => hob y (List.mem_cons_of_mem _ hy)) (fun p hp => hk p (hsub hp)) hn' hr' hc
          have hzob := hob z (List.mem_cons_self ..)
          have hv1 := Sc.rel_le (NamesLe.refl φ) le1 x v hv
          unfold frz at hx
          split at hx
          · simp at hx
            subst hx
            refine ⟨m1, c1, le1, by simp [rel1.1], fun j y hj => ?_⟩
            cases j with
            | zero => simp at hj; subst hj; exact ⟨v, rfl, hv1⟩
            | succ j => simpa using rel1.2 j y (by simpa using hj)
          · rename_i j e off len
            split at hx
            · rename_i es ty hH
              simp at hx
              subst hx
              simp only at hzob
              obtain ⟨rfl, hlen⟩ := hzob
              have hj : wrApp (killW (kills l')) f (.h j) = .o (.row es ty) := by
                rw [wrApp_ne]
                · exact hk (j, _) (by simp [kills])
                · intro p hp he
                  simp only [kills, List.filterMap_cons, List.map_cons, List.nodup_cons] at hn
                  apply hn.1
                  simp only [killW, List.mem_map] at hp
                  obtain ⟨q, hq, rfl⟩ := hp
                  simp only at he
                  rw [← he]
                  exact List.mem_map.2 ⟨q, hq, rfl⟩
              obtain ⟨m2, c2, le2, rel2⟩ := freeze_row c1 hj hlen hv1
              refine ⟨m2, ?_, le1.trans le2, by simp [rel1.1], fun k y hk' => ?_⟩
              · simp only [kills, List.filterMap_cons, killW, List.map_cons]
                rw [wrApp_cons]
                exact c2
              · cases k with
                | zero => simp at hk'; subst hk'; exact ⟨v, rfl, rel2⟩
                | succ k =>
                  have := relAll_le (NamesLe.refl φ) le2 rel1
                  simpa using this.2 k y (by simpa using hk')
            · cases hx
          · cases hx

end
end Go.Proofs.Hg
