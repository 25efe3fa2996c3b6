/- Slice literals, places of fields and elements, cuts, lengths, conversions. -/
import Derived.Test.YtcicjmhealkigaaA6
set_option linter.unusedVariables false
set_option linter.unusedSimpArgs false
namespace Go.Proofs.Hg
open Go.RowKit

section
variable {P : Program} {c : Ctx} {φ : Names} {m : Mem} {f : StF} {a : Act} {W : World}

/-! ### slice literals -/
def chunksD (e : Nat) : Nat → List D → List (List D)
  | 0, _ => []
  | n + 1, ds => ds.take e :: chunksD e n (ds.drop e)

theorem chunksD_len (e : Nat) : ∀ (n : Nat) (ds : List D), (chunksD e n ds).length = n
  | 0, _ => rfl
  | n + 1, ds => by simp [chunksD, chunksD_len e n]

theorem chunksD_mem {e : Nat} : ∀ (n : Nat) (ds : List D), ds.length = n * e → ∀ r ∈ chunksD e n ds, r.length = e
  | 0, _, _, r, h => by simp [chunksD] at h
  | n + 1, ds, hl, r, h => by
    simp only [chunksD, List.mem_cons] at h
    rw [Nat.succ_mul] at hl
    rcases h with rfl | h
    · simp; omega
    · exact chunksD_mem n _ (by simp; omega) r h

theorem chunksD_flat {e : Nat} : ∀ (n : Nat) (ds : List D), ds.length = n * e → (chunksD e n ds).flatten = ds
  | 0, ds, h => by simp at h; simp [chunksD, h]
  | n + 1, ds, hl => by
    rw [Nat.succ_mul] at hl
    simp only [chunksD, List.flatten_cons]
    rw [chunksD_flat n _ (by simp; omega), List.take_append_drop]

theorem splA_toList : ∀ (vs : List Value) (cs : Array Value) (o : Nat), o + vs.length ≤ cs.size → (splA cs o vs).toList = cs.toList.take o ++ vs ++ cs.toList.drop (o + vs.length)
  | [], cs, o, h => by simp [splA]
  | v :: r, cs, o, h => by
    simp only [List.length_cons] at h
    rw [splA, splA_toList r (cs.setIfInBounds o v) (o + 1) (by simp; omega)]
    apply List.ext_getElem?
    intro j
    have hl : cs.toList.length = cs.size := by simp
    simp only [Array.toList_setIfInBounds, List.getElem?_append, List.length_append, List.length_take, List.length_set, hl, List.length_cons, List.getElem?_take, List.getElem?_drop, List.getElem?_set]
    have h1 : min (o + 1) cs.size = o + 1 := by omega
    have h2 : min o cs.size = o := by omega
    rw [h1, h2]
    by_cases c1 : j < o
    · simp [c1, show j < o + 1 by omega, show j < o + 1 + r.length by omega, show j < o + (r.length + 1) by omega, show ¬ o = j by omega]
    · by_cases c2 : j = o
      · subst c2
        simp [show j < cs.size by omega, show j < j + 1 + r.length by omega]
      · by_cases c3 : j < o + 1 + r.length
        · simp only [show ¬ j < o + 1 by omega, c3, if_true, if_false, show j < o + (r.length + 1) by omega, c1]
          rw [show j - o = (j - (o + 1)) + 1 by omega, List.getElem?_cons_succ]
        · simp only [c3, if_false, show ¬ j < o + (r.length + 1) by omega]
          rw [if_neg (by omega)]
          congr 1
          omega

theorem fill_seq {e : Nat} : ∀ (vals : List (Nat × Value)) (k : Nat) (cs : Array Value), (∀ (j : Nat) (p : Nat × Value), vals[j]? = some p → p.1 = k + j) → (∀ p ∈ vals, p.2.cells.size = e) →
    (k + vals.length) * e = cs.size → ∃ cs', Instr.fill (fun i => some (i * e, e)) cs vals = some cs' ∧ cs'.toList = cs.toList.take (k * e) ++ vals.flatMap fun p => p.2.cells.toList
  | [], k, cs, _, _, h => by
    refine ⟨cs, rfl, ?_⟩
    simp at h
    simp only [h, List.flatMap_nil, List.append_nil]
    rw [List.take_of_length_le (by simp)]
  | (i, v) :: r, k, cs, hi, hv, h => by
    have h0 := hi 0 (i, v) rfl
    simp at h0
    subst h0
    have hsz := hv (i, v) (List.mem_cons_self ..)
    simp only at hsz
    simp only [List.length_cons] at h
    have hin : i * e + e ≤ cs.size := by
      rw [← h]
      have : (i + 1) * e ≤ (i + (r.length + 1)) * e := Nat.mul_le_mul_right _ (by omega)
      rwa [Nat.succ_mul] at this
    have hfold : v.cells.zipIdx.foldl (fun cs (x : Value × Nat) => cs.setIfInBounds (i * e + x.2) x.1) cs = splA cs (i * e) v.cells.toList := by
      have := zipIdx_fold (i * e) v.cells.toList 0 cs
      simp only [Nat.add_zero] at this
      rw [← this, ← Array.foldl_toList]
      congr 1
      simp
    obtain ⟨cs', g1, g2⟩ := fill_seq r (i + 1) (splA cs (i * e) v.cells.toList) (fun j p hj => by have := hi (j + 1) p (by simpa using hj); omega)
      (fun p hp => hv p (List.mem_cons_of_mem _ hp)) (by rw [splA_size, ← h]; congr 1; omega)
    refine ⟨cs', ?_, ?_⟩
    · simp only [Instr.fill]
      rw [if_neg (by simp [hsz]; omega)]
      rw [hfold]
      exact g1
    · rw [g2, splA_toList _ _ _ (by simp [hsz]; omega)]
      simp only [List.flatMap_cons]
      have h1 : (cs.toList.take (i * e) ++ v.cells.toList).length = (i + 1) * e := by simp [hsz, Nat.succ_mul]; omega
      rw [List.take_append_of_le_length (by omega), List.take_of_length_le (by omega), List.append_assoc]

def evBuildSlice (T : Tab) (fresh : Nat) (H : Heap) (t : TypeId) (len : Nat) (parts : List (Nat × AV)) : Option Res :=
  match lookN t T with
  | some ⟨.slice e, _, _, _⟩ => (match lookN e T with
    | some te => if (parts.map (·.1) == List.range len) && parts.all (fun p => p.2.cells.all Sc.nojunk && p.2.cells.length == te.size) then
        (frzL H (parts.flatMap fun p => p.2.cells)).map fun zs =>
          ⟨.one (.s (.row fresh te.size 0 len none)), kills zs, true, (fresh, .o (.row (chunksD te.size len (zs.map (·.d))) e)) :: killW (kills zs),
            (∀ z ∈ zs, z.ob) ∧ ((kills zs).map (·.1)).Nodup ∧ len * te.size ≤ 16777216 ∧ len ≤ 16777216⟩
      else none
    | none => none)
  | _ => none

theorem relAll_append {xs ys : List Sc} {us vs : List Value} (h : relAll φ m xs us) (k : relAll φ m ys vs) : relAll φ m (xs ++ ys) (us ++ vs) := by
  refine ⟨by simp [h.1, k.1], fun j x hj => ?_⟩
  rw [List.getElem?_append] at hj ⊢
  rw [h.1]
  split
  · rename_i hl; rw [if_pos hl] at hj; exact h.2 j x hj
  · rename_i hl; rw [if_neg hl] at hj; exact k.2 _ x hj

theorem parts_rel : ∀ (parts : List (Nat × AV)) (vals : List (Nat × Value)), vals.length = parts.length → (∀ (j : Nat) (p : Nat × AV), parts[j]? = some p → ∃ V : Value, vals[j]? = some (p.1, V) ∧ p.2.rel φ m V) →
    (∀ p ∈ parts, p.2.cells.all Sc.nojunk = true) → relAll φ m (parts.flatMap fun p => p.2.cells) (vals.flatMap fun p => p.2.cells.toList)
  | [], vals, hl, _, _ => by
    have : vals = [] := List.eq_nil_of_length_eq_zero hl
    subst this
    exact ⟨rfl, fun j x hj => by simp at hj⟩
  | p :: ps, vals, hl, hv, hj => by
    cases vals with
    | nil => simp at hl
    | cons u us =>
      obtain ⟨V, h1, h2⟩ := hv 0 p rfl
      simp at h1
      subst h1
      simp only [List.flatMap_cons]
      exact relAll_append (AV.rel_cells h2 (hj p (List.mem_cons_self ..))).1
        (parts_rel ps us (by simpa using hl) (fun j q hq => by have := hv (j + 1) q (by simpa using hq); simpa using this) (fun q hq => hj q (List.mem_cons_of_mem _ hq)))

theorem evBuildSlice_ok {T : Tab} (hT : TabOk P T) {fresh : Nat} {H : Heap} {t : TypeId} {len : Nat} {parts : List (Nat × AV)} {vals : List (Nat × Value)} {r : Res} (h : evBuildSlice T fresh H t len parts = some r) (hob : r.ob)
    (hrd : r.Reads fresh f) (hc : RelC c φ m f a W) (hl : vals.length = parts.length) (hv : ∀ (j : Nat) (p : Nat × AV), parts[j]? = some p → ∃ V : Value, vals[j]? = some (p.1, V) ∧ p.2.rel φ m V) :
    Gives P (Instr.buildSlice t len vals.toArray) c φ m f a W r := by
  unfold evBuildSlice at h
  split at h
  · rename_i e sz by_ zero ht
    split at h
    · rename_i te hte
      split at h
      · rename_i hcond
        simp only [Bool.and_eq_true, beq_iff_eq, List.all_eq_true] at hcond
        obtain ⟨hidx, hall⟩ := hcond
        cases hf : frzL H (parts.flatMap fun p => p.2.cells) with
        | none => simp [hf] at h
        | some zs =>
          simp [hf] at h
          subst h
          obtain ⟨o1, o2, o3, o4⟩ := hob
          have hrel := parts_rel parts vals hl hv (fun p hp => by rw [List.all_eq_true]; exact (hall p hp).1)
          obtain ⟨m1, c1, le1, rel1⟩ := frzL_ok _ zs _ m hf o1 (fun p hp => hrd.1 p hp) o2 hrel hc
          have hu := (hT.at ht).desc (d := .slice e) (fun d' hd => kindOf_slice hd)
          have hlen : parts.length = len := by have := congrArg List.length hidx; simpa using this
          have hvl : vals.length = len := by omega
          -- the cells
          have hsz : ∀ p ∈ vals, p.2.cells.size = te.size := by
            intro p hp
            obtain ⟨j, hj1, hj2⟩ := List.getElem_of_mem hp
            obtain ⟨V, g1, g2⟩ := hv j parts[j] (List.getElem?_eq_getElem (by omega))
            rw [List.getElem?_eq_getElem hj1] at g1
            injection g1 with g1
            rw [← hj2, g1]
            have hq := hall parts[j] (List.getElem_mem _)
            have := (AV.rel_cells g2 (by rw [List.all_eq_true]; exact hq.1)).1.1
            simp at this
            rw [this]
            exact hq.2
          have hpos : ∀ (j : Nat) (p : Nat × Value), vals[j]? = some p → p.1 = 0 + j := by
            intro j p hj
            have hjl := (List.getElem?_eq_some_iff.1 hj).1
            obtain ⟨V, g1, g2⟩ := hv j parts[j] (List.getElem?_eq_getElem (by omega))
            rw [hj] at g1
            injection g1 with g1
            have h3 : (parts.map (·.1))[j]? = (List.range len)[j]? := by rw [hidx]
            rw [List.getElem?_map, List.getElem?_eq_getElem (by omega), List.getElem?_range (by omega)] at h3
            simp at h3
            rw [g1]
            simp [h3]
          have hfill : ∀ cs : Array Value, cs.size = len * te.size → ∃ cs', Instr.fill (fun i => some (i * te.size, te.size)) cs vals = some cs' ∧ cs'.toList = vals.flatMap fun p => p.2.cells.toList := by
            intro cs hcs
            obtain ⟨cs', g1, g2⟩ := fill_seq vals 0 cs hpos hsz (by rw [hcs, hvl]; simp)
            exact ⟨cs', g1, by simpa using g2⟩
          have hflat : (vals.flatMap fun p => p.2.cells.toList).length = len * te.size := by
            have g := (parts_rel parts vals hl hv (fun p hp => by rw [List.all_eq_true]; exact (hall p hp).1)).1
            have : ∀ (l : List (Nat × Value)), (∀ p ∈ l, p.2.cells.size = te.size) → (l.flatMap fun p => p.2.cells.toList).length = l.length * te.size := by
              intro l
              induction l with
              | nil => intro _; simp
              | cons p l ih =>
                intro hp
                have h1 := hp p (List.mem_cons_self ..)
                rw [List.flatMap_cons, List.length_append, ih (fun q hq => hp q (List.mem_cons_of_mem _ hq))]
                simp [h1, Nat.succ_mul]
                omega
            rw [this vals hsz, hvl]
          have hzl : zs.length = len * te.size := by have := rel1.1; simp at this hflat; omega
          let cs0 : Array Value := (Array.range (len * te.size)).map fun i => (if len * te.size = 0 then (#[] : Array Value) else te.zeroVal.cells)[i % (if len * te.size = 0 then (#[] : Array Value) else te.zeroVal.cells).size]!
          obtain ⟨cs', g1, g2⟩ := hfill cs0 (by simp [cs0])
          have hcsz : cs'.size = len * te.size := by rw [← Array.length_toList, g2, hflat]
          have hfree : wrApp (killW (kills zs)) f (.h fresh) = .free := by
            rw [wrApp_ne]
            · exact hrd.2 rfl
            · intro p hp he
              simp only [killW, List.mem_map] at hp
              obtain ⟨q, hq, rfl⟩ := hp
              simp only at he
              have h1 := hrd.1 q hq
              have h2 := hrd.2 rfl
              rw [he, h2] at h1
              cases h1
          have hn := c1.free _ hfree
          have hp : NamesLe φ (updN φ fresh (.blk W.heap.size len te.size)) := updN_le _ hn
          refine ⟨updN φ fresh (.blk W.heap.size len te.size), m1, W.alloc (.cells cs' e), .slice (some ⟨W.heap.size, 0, none⟩) len len, ?_, hp, le1, ?_, ?_⟩
          · rw [wrApp_cons]
            refine c1.alloc hfree (.inr ⟨W.heap.size, len, te.size, cs', (0, 0), updN_self _ _ _, heap_new _ _, FrOk.zero _, hcsz, by rw [chunksD_len]; omega, by omega, chunksD_mem _ _ (by simp [hzl]), ?_⟩)
            intro j d hj
            rw [chunksD_flat _ _ (by simp [hzl])] at hj
            obtain ⟨v, q1, q2⟩ := rel1.2 j (.d d) (by rw [List.getElem?_map] at hj ⊢; cases hz : zs[j]? <;> simp_all)
            exact ⟨v, by rw [← g2] at q1; simpa using q1, q2⟩
          · unfold Instr.buildSlice
            simp only [Sem.run_bind, run_underlying hu, Result.andThen, run_sizeOf' (hT.at hte)]
            rw [if_neg (by omega)]
            by_cases hz : len * te.size = 0
            · have hcs0 : cs0 = (Array.range (len * te.size)).map fun i => (#[] : Array Value)[i % (#[] : Array Value).size]! := by simp [cs0, hz]
              rw [hcs0] at g1
              simp only [hz, if_true, Sem.run_pure, Sem.run_bind, Result.andThen]
              rw [hz] at g1
              rw [g1]
              simp [newRow]
            · have hcs0 : cs0 = (Array.range (len * te.size)).map fun i => te.zeroVal.cells[i % te.zeroVal.cells.size]! := by simp [cs0, hz]
              rw [hcs0] at g1
              simp only [hz, if_false, Sem.run_pure, Sem.run_bind, Result.andThen, run_zero' (hT.at hte)]
              rw [g1]
              simp [newRow]
          · refine .inr ⟨W.heap.size, len, ⟨W.heap.size, 0, none⟩, len, updN_self _ _ _, rfl, by simp, by omega, Nat.le_refl _, fun _ => by simp, rfl⟩
      · cases h
    · cases h
  · cases h

end
end Go.Proofs.Hg
