/- Places of fields and elements, cuts, lengths. -/
import Derived.Test.YtcicjmhealkigaaA7
set_option linter.unusedVariables false
set_option linter.unusedSimpArgs false
namespace Go.Proofs.Hg
open Go.RowKit

section
variable {P : Program} {c : Ctx} {φ : Names} {m : Mem} {f : StF} {a : Act} {W : World}

def valRes (v : AV) (ob : Prop) : Res := ⟨.one v, [], false, [], ob⟩

theorem gives_val (h : RelC c φ m f a W) {s : Sem Value} {V : Value} (hs : s.run P W = .ok V W) {v : AV} (hv : v.rel φ m V) {ob : Prop} : Gives P s c φ m f a W (valRes v ob) :=
  ⟨φ, m, W, V, h, NamesLe.refl φ, MemLe.refl m, hs, hv⟩

/-! ### fields -/
def evFieldAddr (T : Tab) (t : TypeId) (p : AV) (fld : Nat) : Option Res :=
  match lookN t T with
  | some ⟨.struct fs, _, _, _⟩ => (match fs[fld]? with
    | some q => (match lookN q.2 T with
      | some tf => if tf.size = 0 then none else (match p with
        | .s (.ptr i off) => some (valRes (.s (.ptr i (off + q.1))) True)
        | .s (.eptr i k fo) => some (valRes (.s (.eptr i k (fo + q.1))) True)
        | .s (.d (.ptr cs)) => some (valRes (dv (.ptr (cs.drop q.1))) True)
        | _ => none)
      | none => none)
    | none => none)
  | _ => none

theorem relCells_drop {cs : List D} {b o : Nat} (h : D.relCells m cs b o) (k : Nat) : D.relCells m (cs.drop k) b (o + k) := by
  rw [relCells_iff] at h ⊢
  intro i d hi
  rw [List.getElem?_drop] at hi
  obtain ⟨v, h1, h2⟩ := h _ d hi
  exact ⟨v, by rw [← h1]; congr 1; omega, h2⟩

theorem evFieldAddr_ok {T : Tab} (hT : TabOk P T) {t : TypeId} {p : AV} {fld : Nat} {r : Res} (h : evFieldAddr T t p fld = some r) (hc : RelC c φ m f a W) {X : Value} (hx : p.rel φ m X) :
    Gives P (Instr.fieldAt t X fld) c φ m f a W r := by
  unfold evFieldAddr at h
  split at h
  · rename_i fs _ _ _ ht
    split at h
    · rename_i q hq
      split at h
      · rename_i tf htf
        split at h
        · cases h
        · rename_i hsz
          obtain ⟨d, hu, hk⟩ := (hT.at ht).und'
          obtain ⟨gs, rfl, hgs⟩ := kindOf_struct hk
          have hg : ∃ g, gs[fld]? = some g ∧ g.offset = q.1 ∧ g.type = q.2 := by
            rw [hgs, List.getElem?_map] at hq
            cases hgf : gs.toList[fld]? with
            | none => simp [hgf] at hq
            | some g => simp [hgf] at hq; exact ⟨g, by simpa using hgf, by rw [← hq], by rw [← hq]⟩
          obtain ⟨g, hg1, hg2, hg3⟩ := hg
          have hrun : ∀ b o, (Instr.fieldAt t (.pointer (some ⟨b, o, none⟩)) fld).run P W = .ok (.pointer (some ⟨b, o + q.1, none⟩)) W := by
            intro b o
            simp only [Instr.fieldAt, Sem.run_bind, run_underlying hu, Result.andThen, hg1, Instr.sureAddr, Sem.run_pure, fieldPlace]
            rw [hg3, run_sizeOf' (hT.at htf)]
            simp only [hsz, if_false, Sem.run_pure, addr_add, hg2]
          split at h <;> simp only [Option.some.injEq, reduceCtorEq] at h <;> subst h
          · obtain ⟨b, C, e, hb, rfl⟩ := hx
            refine gives_val hc (hrun b _) ?_
            exact ⟨b, C, e, hb, rfl⟩
          · rename_i i k fo
            obtain ⟨b, C, e, hb, rfl⟩ := hx
            refine gives_val hc (hrun b _) ?_
            refine ⟨b, C, e, hb, ?_⟩
            rw [Nat.add_assoc]
          · simp only [AV.rel, Sc.rel, D.rel] at hx
            obtain ⟨b, o, rfl, hcs⟩ := hx
            refine gives_val hc (hrun b o) ?_
            simp only [AV.rel, Sc.rel, D.rel]
            exact ⟨b, o + q.1, rfl, relCells_drop hcs _⟩
      · cases h
    · cases h
  · cases h

def evField (T : Tab) (t : TypeId) (p : AV) (fld : Nat) : Option Res :=
  match lookN t T, p with
  | some ⟨.struct fs, _, _, _⟩, .agg xs => (match fs[fld]? with
    | some q => (match lookN q.2 T with
      | some tf => if tf.kind.agg then some (valRes (.agg ((xs.drop q.1).take tf.size)) True) else some (valRes (.s (xs.getD q.1 .junk)) (q.1 < xs.length))
      | none => none)
    | none => none)
  | _, _ => none

theorem evField_ok {T : Tab} (hT : TabOk P T) {t : TypeId} {p : AV} {fld : Nat} {r : Res} (h : evField T t p fld = some r) (hob : r.ob) (hc : RelC c φ m f a W) {X : Value} (hx : p.rel φ m X) :
    Gives P (Instr.field t X fld) c φ m f a W r := by
  unfold evField at h
  split at h
  · rename_i fs _ _ _ xs ht
    obtain ⟨vs, rfl, hvs⟩ := hx
    split at h
    · rename_i q hq
      split at h
      · rename_i tf htf
        obtain ⟨d, hu, hk⟩ := (hT.at ht).und'
        obtain ⟨gs, rfl, hgs⟩ := kindOf_struct hk
        have hg : ∃ g, gs[fld]? = some g ∧ g.offset = q.1 ∧ g.type = q.2 := by
          rw [hgs, List.getElem?_map] at hq
          cases hgf : gs.toList[fld]? with
          | none => simp [hgf] at hq
          | some g => simp [hgf] at hq; exact ⟨g, by simpa using hgf, by rw [← hq], by rw [← hq]⟩
        obtain ⟨g, hg1, hg2, hg3⟩ := hg
        split at h
        · rename_i hag
          injection h with h
          subst h
          refine gives_val hc (V := .agg ((vs.drop q.1).take tf.size).toArray) ?_ ?_
          rotate_left
          · exact ⟨_, rfl, relAll_drop_take hvs _ _⟩
          simp only [Instr.field, Sem.run_bind, run_underlying hu, Result.andThen, hg1, asAgg, Sem.run_pure, part, hg3, run_isAgg' (hT.at htf), hag, if_true, run_sizeOf' (hT.at htf), hg2]
          congr 1
          simp [Nat.add_comm]
        · rename_i hag
          injection h with h
          subst h
          have hl : q.1 < xs.length := hob
          obtain ⟨v, h1, h2⟩ := hvs.2 q.1 xs[q.1] (List.getElem?_eq_getElem hl)
          refine gives_val hc (V := v) ?_ ?_
          · simp only [Instr.field, Sem.run_bind, run_underlying hu, Result.andThen, hg1, asAgg, Sem.run_pure, part, hg3, run_isAgg' (hT.at htf), hag, hg2]
            simp [h1]
          · simp only [AV.rel, List.getD_eq_getElem?_getD, List.getElem?_eq_getElem hl, Option.getD_some]
            exact h2
      · cases h
    · cases h
  · cases h

/-! ### elements -/
def evIndexAddr (T : Tab) (t : TypeId) (x ix : AV) : Option Res :=
  match lookN t T, ix with
  | some ⟨.slice e, _, _, _⟩, .s (.d (.int k n)) => (match lookN e T with
    | some te => (match x with
      | .s (.row i e' off len cap) => if e' = te.size then some (valRes (.s (.eptr i (off + n.toNat) 0)) (0 ≤ n ∧ n < (len : Int))) else none
      | .s (.d (.slice z e' es)) => if e' = te.size then some (valRes (dv (.ptr (es.getD n.toNat te.zero))) (0 ≤ n ∧ n < (es.length : Int))) else none
      | _ => none)
    | none => none)
  | some ⟨.array len e, _, _, _⟩, .s (.d (.int k n)) => (match lookN e T with
    | some te => (match x with
      | .s (.ptr i off) => some (valRes (.s (.ptr i (off + n.toNat * te.size))) (0 ≤ n ∧ n < (len : Int)))
      | .s (.d (.ptr cs)) => some (valRes (dv (.ptr (cs.drop (n.toNat * te.size)))) (0 ≤ n ∧ n < (len : Int)))
      | _ => none)
    | none => none)
  | _, _ => none

theorem relRows_at {es : List (List D)} {b o e : Nat} (h : D.relRows m es b o) (he : ∀ r ∈ es, r.length = e) {k : Nat} (hk : k < es.length) : D.relCells m (es.getD k []) b (o + k * e) := by
  rw [relRows_iff, relCells_iff] at h
  rw [relCells_iff]
  intro i d hi
  have hel : (es.getD k []).length = e := by
    rw [List.getD_eq_getElem?_getD, List.getElem?_eq_getElem hk]
    exact he _ (List.getElem_mem hk)
  have hil := (List.getElem?_eq_some_iff.1 hi).1
  have := flatten_at es k i he hk (by omega)
  rw [hi] at this
  obtain ⟨v, h1, h2⟩ := h _ d this
  exact ⟨v, by rw [← h1]; congr 1; omega, h2⟩

theorem evIndexAddr_ok {T : Tab} (hT : TabOk P T) {t : TypeId} {x ix : AV} {r : Res} (h : evIndexAddr T t x ix = some r) (hob : r.ob) (hc : RelC c φ m f a W) {X I : Value} (hx : x.rel φ m X) (hi : ix.rel φ m I) :
    Gives P (Instr.indexAt t X I) c φ m f a W r := by
  unfold evIndexAddr at h
  split at h
  · rename_i e _ _ _ k n ht
    simp only [AV.rel, Sc.rel, D.rel] at hi
    subst hi
    have hu := (hT.at ht).desc (d := .slice e) (fun d' hd => kindOf_slice hd)
    split at h
    · rename_i te hte
      have hrun : ∀ (ad : Addr) (len cap : Nat), 0 ≤ n ∧ n < (len : Int) → (Instr.indexAt t (.slice (some ad) len cap) (.int k n)).run P W = .ok (.pointer (some (ad.add (n.toNat * te.size)))) W := by
        intro ad len cap hb
        simp only [Instr.indexAt, Sem.run_bind, asIntOf, Sem.run_pure, Result.andThen, run_underlying hu, hb, and_self, if_true, run_sizeOf' (hT.at hte)]
      split at h
      · rename_i i e' off len cap
        split at h
        · rename_i hee
          injection h with h
          subst h
          subst hee
          obtain ⟨o1, o2⟩ := hob
          rcases hx with ⟨_, _, h0, _⟩ | ⟨b, C, ad, cc, h1, rfl, h3, h4, h5, h6⟩
          · omega
          · have : cc ≠ 0 := by omega
            rw [h6.1 this]
            refine gives_val hc (hrun _ _ _ ⟨o1, o2⟩) ?_
            refine ⟨b, C, te.size, h1, ?_⟩
            rw [addr_add, Nat.add_mul, Nat.add_zero]
        · cases h
      · rename_i z e' es
        split at h
        · rename_i hee
          injection h with h
          subst h
          subst hee
          obtain ⟨o1, o2⟩ := hob
          simp only [AV.rel, Sc.rel, D.rel] at hx
          rcases hx with ⟨rfl, _, _⟩ | ⟨_, ad, cc, rfl, h4, h5, h6⟩
          · simp at o2; omega
          · have hne : es ≠ [] := by rintro rfl; simp at o2; omega
            obtain ⟨hsp, hrow⟩ := h6 hne
            have hk : n.toNat < es.length := by omega
            obtain ⟨ab, ao, asp⟩ := ad
            simp only at hsp
            subst hsp
            refine gives_val hc (hrun _ _ _ ⟨o1, o2⟩) ?_
            rw [addr_add]
            simp only [AV.rel, Sc.rel, D.rel]
            rw [getD_dflt hk]
            exact ⟨ab, _, rfl, relRows_at hrow h5 hk⟩
        · cases h
      · cases h
    · cases h
  · rename_i len e _ _ _ k n ht
    simp only [AV.rel, Sc.rel, D.rel] at hi
    subst hi
    have hu := (hT.at ht).desc (d := .array len e) (fun d' hd => kindOf_array hd)
    split at h
    · rename_i te hte
      have hrun : ∀ (ad : Addr), 0 ≤ n ∧ n < (len : Int) → (Instr.indexAt t (.pointer (some ad)) (.int k n)).run P W = .ok (.pointer (some (ad.add (n.toNat * te.size)))) W := by
        intro ad hb
        simp only [Instr.indexAt, Sem.run_bind, asIntOf, Sem.run_pure, Result.andThen, run_underlying hu, Instr.sureAddr, hb, and_self, if_true, run_sizeOf' (hT.at hte)]
      split at h <;> simp only [Option.some.injEq, reduceCtorEq] at h <;> subst h
      · obtain ⟨b, C, e', hb, rfl⟩ := hx
        refine gives_val hc (hrun _ hob) ?_
        refine ⟨b, C, e', hb, ?_⟩
        rw [addr_add]
      · simp only [AV.rel, Sc.rel, D.rel] at hx
        obtain ⟨b, o, rfl, hcs⟩ := hx
        refine gives_val hc (hrun _ hob) ?_
        rw [addr_add]
        simp only [AV.rel, Sc.rel, D.rel]
        exact ⟨b, _, rfl, relCells_drop hcs _⟩
    · cases h
  · cases h

theorem bget (s : List UInt8) {i : Nat} (h : i < s.length) : (ByteArray.mk s.toArray)[i]? = some (s.getD i 0) := by
  have hsz : i < (ByteArray.mk s.toArray).size := by simpa [ByteArray.size] using h
  rw [getElem?_pos (ByteArray.mk s.toArray) i hsz]
  simp [List.getD_eq_getElem?_getD, List.getElem?_eq_getElem h]
  rfl

def evIndex (T : Tab) (t : TypeId) (x ix : AV) : Option Res :=
  match lookN t T, x, ix with
  | some ⟨.str, _, _, _⟩, .s (.d (.str s)), .s (.d (.int k n)) => some (valRes (dv (.int .u8 ((s.getD n.toNat 0).toNat : Int))) (0 ≤ n ∧ n < (s.length : Int)))
  | some ⟨.array len e, _, _, _⟩, .agg xs, .s (.d (.int k n)) => (match lookN e T with
    | some te => if te.kind.agg then none else if te.size = 1 then some (valRes (.s (xs.getD n.toNat .junk)) (0 ≤ n ∧ n < (len : Int) ∧ n < (xs.length : Int))) else none
    | none => none)
  | _, _, _ => none

theorem evIndex_ok {T : Tab} (hT : TabOk P T) {t : TypeId} {x ix : AV} {r : Res} (h : evIndex T t x ix = some r) (hob : r.ob) (hc : RelC c φ m f a W) {X I : Value} (hx : x.rel φ m X) (hi : ix.rel φ m I) :
    Gives P (Instr.index t X I) c φ m f a W r := by
  unfold evIndex at h
  split at h
  · rename_i s k n ht
    simp only [AV.rel, Sc.rel, D.rel] at hi hx
    subst hi; subst hx
    injection h with h
    subst h
    obtain ⟨o1, o2⟩ := hob
    have hu := (hT.at ht).desc (d := .string) (fun d' hd => kindOf_str hd)
    have hl : n.toNat < s.length := by omega
    refine gives_val hc (V := .int .u8 ((s.getD n.toNat 0).toNat : Int)) ?_ (by simp [AV.rel, Sc.rel, D.rel])
    have hb := bget s hl
    simp only [Instr.index, Sem.run_bind, asIntOf, Sem.run_pure, Result.andThen, run_underlying hu, o1, if_true, hb]
  · rename_i len e _ _ _ xs k n ht
    simp only [AV.rel, Sc.rel, D.rel] at hi
    subst hi
    obtain ⟨vs, rfl, hvs⟩ := hx
    split at h
    · rename_i te hte
      split at h
      · cases h
      · rename_i hag
        split at h
        · rename_i hsz
          injection h with h
          subst h
          obtain ⟨o1, o2, o3⟩ := hob
          have hu := (hT.at ht).desc (d := .array len e) (fun d' hd => kindOf_array hd)
          have hl : n.toNat < xs.length := by omega
          obtain ⟨v, h1, h2⟩ := hvs.2 n.toNat xs[n.toNat] (List.getElem?_eq_getElem hl)
          refine gives_val hc (V := v) ?_ ?_
          · simp only [Instr.index, Sem.run_bind, asIntOf, Sem.run_pure, Result.andThen, run_underlying hu, o1, o2, and_self, if_true, run_sizeOf' (hT.at hte), hsz, part, run_isAgg' (hT.at hte), hag, Nat.mul_one]
            simp [h1]
          · simp only [AV.rel, List.getD_eq_getElem?_getD, List.getElem?_eq_getElem hl, Option.getD_some]
            exact h2
        · cases h
    · cases h
  · cases h

end
end Go.Proofs.Hg
