/- Cuts, lengths, conversions. -/
import Derived.Test.YtcicjmhealkigaaA8
set_option linter.unusedVariables false
set_option linter.unusedSimpArgs false
namespace Go.Proofs.Hg
open Go.RowKit

section
variable {P : Program} {c : Ctx} {φ : Names} {m : Mem} {f : StF} {a : Act} {W : World}

theorem addr_block (ad : Addr) (k : Nat) : (ad.add k).block = ad.block := by unfold Addr.add; split <;> rfl

/-! ### cuts -/
def cutL {α : Type} (s : List α) : Option Int → Option Int → List α
  | none, none => s
  | some l, none => s.drop l.toNat
  | none, some h => s.take h.toNat
  | some l, some h => (s.drop l.toNat).take (h.toNat - l.toNat)

theorem cutL_eq {α : Type} (s : List α) (lo hi : Option Int) : cutL s lo hi = (s.drop (lo.getD 0).toNat).take ((hi.getD s.length).toNat - (lo.getD 0).toNat) := by
  cases lo <;> cases hi <;> simp [cutL]
  · rw [List.take_of_length_le (by simp)]

def cutOb (lo hi mx : Option Int) (len cap : Nat) : Prop :=
  0 ≤ lo.getD 0 ∧ lo.getD 0 ≤ hi.getD len ∧ hi.getD len ≤ mx.getD cap ∧ mx.getD cap ≤ cap

def bndI : Option AV → Option (Option Int)
  | none => some none
  | some (.s (.d (.int _ n))) => some (some n)
  | _ => none

def BV : Option Int → Option Value → Prop
  | none, none => True
  | some n, some (.int _ k) => k = n
  | _, _ => False

def optRel (φ : Names) (m : Mem) : Option AV → Option Value → Prop
  | none, none => True
  | some x, some v => x.rel φ m v
  | _, _ => False

theorem bndI_ok {x : Option AV} {b : Option Int} (h : bndI x = some b) {v : Option Value} (hv : optRel φ m x v) : BV b v := by
  unfold bndI at h
  split at h <;> simp only [Option.some.injEq, reduceCtorEq] at h <;> subst h <;> cases v <;> simp_all [BV, optRel]
  rename_i V
  simp only [AV.rel, Sc.rel, D.rel] at hv
  subst hv
  rfl

theorem run_bound {k : IntKind} {n : Int} {y : Nat} {code : BoundsCode} (h0 : 0 ≤ n) (h1 : n ≤ (y : Int)) : (Instr.sliceBound (.int k n) y code).run P W = .ok n.toNat W := by
  simp [Instr.sliceBound, asIntOf, h0, h1]

theorem run_boundI {k : IntKind} {n y : Int} {code : BoundsCode} (h0 : 0 ≤ n) (h1 : n ≤ y) : (Instr.sliceBound (.int k n) y.toNat code).run P W = .ok n.toNat W :=
  run_bound h0 (by omega)

theorem run_bounds {isS : Bool} {len cap : Nat} {lo hi mx : Option Int} {lov hiv mxv : Option Value} (hlo : BV lo lov) (hhi : BV hi hiv) (hmx : BV mx mxv) (hb : cutOb lo hi mx len cap) (hm : mx.isSome = true → hi.isSome = true) :
    (Instr.sliceBounds isS len cap lov hiv mxv).run P W = .ok ((lo.getD 0).toNat, (hi.getD len).toNat, (mx.getD cap).toNat) W := by
  obtain ⟨b1, b2, b3, b4⟩ := hb
  unfold Instr.sliceBounds
  cases mx with
  | none =>
    cases mxv with
    | some _ => exact hmx.elim
    | none =>
      cases hi with
      | none =>
        cases hiv with
        | some _ => exact hhi.elim
        | none =>
          cases lo with
          | none => cases lov <;> first | exact hlo.elim | simp
          | some l =>
            cases lov with
            | none => exact hlo.elim
            | some lv =>
              cases lv <;> first | exact hlo.elim | skip
              simp only [BV] at hlo
              subst hlo
              simp at b1 b2 b3
              simp [run_bound b1 b2]
      | some hh =>
        cases hiv with
        | none => exact hhi.elim
        | some hv =>
          cases hv <;> first | exact hhi.elim | skip
          simp only [BV] at hhi
          subst hhi
          simp at b2 b3
          cases lo with
          | none =>
            cases lov <;> first | exact hlo.elim | skip
            simp at b1 b2
            simp [run_bound b2 b3]
          | some l =>
            cases lov with
            | none => exact hlo.elim
            | some lv =>
              cases lv <;> first | exact hlo.elim | skip
              simp only [BV] at hlo
              subst hlo
              simp at b1 b2
              have h0 : (0 : Int) ≤ _ := Int.le_trans b1 b2
              simp [run_bound h0 b3, run_boundI b1 b2]
  | some mm =>
    cases mxv with
    | none => exact hmx.elim
    | some mv =>
      cases mv <;> first | exact hmx.elim | skip
      simp only [BV] at hmx
      subst hmx
      cases hi with
      | none => simp at hm
      | some hh =>
        cases hiv with
        | none => exact hhi.elim
        | some hv =>
          cases hv <;> first | exact hhi.elim | skip
          simp only [BV] at hhi
          subst hhi
          simp at b2 b3 b4
          cases lo with
          | none =>
            cases lov <;> first | exact hlo.elim | skip
            simp at b1 b2
            have h0 : (0 : Int) ≤ _ := Int.le_trans b2 b3
            simp [run_bound h0 b4, run_boundI b2 b3]
          | some l =>
            cases lov with
            | none => exact hlo.elim
            | some lv =>
              cases lv <;> first | exact hlo.elim | skip
              simp only [BV] at hlo
              subst hlo
              simp at b1 b2
              have h0 : (0 : Int) ≤ _ := Int.le_trans b1 b2
              have h1 : (0 : Int) ≤ _ := Int.le_trans h0 b3
              simp [run_bound h1 b4, run_boundI h0 b3, run_boundI b1 b2]

def capOf (cap : Option Nat) (mx : Option Int) (l : Nat) : Option Nat :=
  match mx with
  | some k => some (k.toNat - l)
  | none => cap.map (· - l)

def loN : Option Int → Nat
  | none => 0
  | some l => l.toNat
def hiN (len : Nat) : Option Int → Nat
  | none => len
  | some h => h.toNat

def evSlice (T : Tab) (t : TypeId) (x : AV) (lo hi mx : Option AV) : Option Res :=
  match lookN t T, bndI lo, bndI hi, bndI mx with
  | some ⟨.str, _, _, _⟩, some lo, some hi, some none => (match x with
    | .s (.d (.str s)) => some (valRes (dv (.str (cutL s lo hi))) (cutOb lo hi none s.length s.length))
    | _ => none)
  | some ⟨.slice e, _, _, _⟩, some lo, some hi, some mx => if mx.isSome && !hi.isSome then none else (match lookN e T with
    | some te => (match x with
      | .s (.row i e' off len cap) => if e' = te.size then some (valRes (.s (.row i e' (off + loN lo) (hiN len hi - loN lo) (capOf cap mx (loN lo)))) (cutOb lo hi mx len len)) else none
      | .s (.d (.slice z e' es)) => if e' = te.size then some (valRes (dv (.slice z e' (cutL es lo hi))) (cutOb lo hi mx es.length es.length)) else none
      | _ => none)
    | none => none)
  | _, _, _, _ => none

theorem loN_eq (lo : Option Int) : loN lo = (lo.getD 0).toNat := by cases lo <;> rfl
theorem hiN_eq (len : Nat) (hi : Option Int) : hiN len hi = (hi.getD (len : Int)).toNat := by cases hi <;> simp [hiN]

theorem relRows_drop_take {es : List (List D)} {b o e : Nat} (h : D.relRows m es b o) (he : ∀ r ∈ es, r.length = e) (k n : Nat) : D.relRows m ((es.drop k).take n) b (o + k * e) := by
  rw [relRows_iff, relCells_iff]
  have hmem : ∀ r ∈ (es.drop k).take n, r.length = e := fun r hr => he r (List.mem_of_mem_drop (List.mem_of_mem_take hr))
  intro i d hi
  have hil := (List.getElem?_eq_some_iff.1 hi).1
  rw [flatten_len hmem] at hil
  rcases Nat.eq_zero_or_pos e with h0 | h0
  · subst h0; simp at hil
  rw [flatten_get h0 hmem hil] at hi
  have hq : i / e < ((es.drop k).take n).length := (Nat.div_lt_iff_lt_mul h0).2 hil
  have hq2 : k + i / e < es.length := by
    simp only [List.length_take, List.length_drop] at hq
    generalize i / e = q at hq ⊢
    omega
  have hcell := relRows_at h he hq2
  rw [relCells_iff] at hcell
  have heq : ((es.drop k).take n).getD (i / e) [] = es.getD (k + i / e) [] := by
    simp only [List.getD_eq_getElem?_getD, List.getElem?_take, List.getElem?_drop]
    rw [if_pos (by simp only [List.length_take, List.length_drop] at hq; generalize i / e = q at hq ⊢; omega)]
  rw [heq] at hi
  obtain ⟨v, h1, h2⟩ := hcell _ d hi
  refine ⟨v, ?_, h2⟩
  rw [← h1]
  congr 1
  have := Nat.div_add_mod i e
  rw [Nat.add_mul, Nat.mul_comm (i / e) e]
  generalize e * (i / e) = q at *
  generalize k * e = q2 at *
  omega

theorem evSlice_ok {T : Tab} (hT : TabOk P T) {t : TypeId} {x : AV} {lo hi mx : Option AV} {r : Res} (h : evSlice T t x lo hi mx = some r) (hob : r.ob) (hc : RelC c φ m f a W) {X : Value} {lov hiv mxv : Option Value}
    (hx : x.rel φ m X) (hlo : optRel φ m lo lov) (hhi : optRel φ m hi hiv)
    (hmx : optRel φ m mx mxv) : Gives P (Instr.sliceAt t X lov hiv mxv) c φ m f a W r := by
  unfold evSlice at h
  split at h
  · rename_i lo' hi' ht elo ehi emx
    have blo := bndI_ok elo hlo
    have bhi := bndI_ok ehi hhi
    have bmx := bndI_ok emx hmx
    have hmn : mxv = none := by cases mxv <;> simp_all [BV]
    subst hmn
    have hu := (hT.at ht).desc (d := .string) (fun d' hd => kindOf_str hd)
    split at h
    · rename_i s
      injection h with h
      subst h
      simp only [AV.rel, Sc.rel, D.rel] at hx
      subst hx
      have hsz : (ByteArray.mk s.toArray).size = s.length := by simp [ByteArray.size]
      have hbd := run_bounds (P := P) (W := W) (isS := false) (len := s.length) (cap := s.length) blo bhi (show BV none none from trivial) hob (by simp)
      refine gives_val hc (V := .string ((ByteArray.mk s.toArray).extract (lo'.getD 0).toNat (hi'.getD s.length).toNat)) ?_ ?_
      · simp only [Instr.sliceAt, Sem.run_bind, run_underlying hu, Result.andThen, Instr.slice, hsz]
        rw [if_neg (by simp)]
        simp only [Sem.run_bind, hbd, Result.andThen, Sem.run_pure]
      · simp only [AV.rel, Sc.rel, D.rel]
        congr 1
        apply ByteArray.ext
        rw [ByteArray.data_extract, cutL_eq]
        apply Array.ext'
        simp
    · cases h
  · rename_i e _ _ _ lo' hi' mx' ht elo ehi emx
    have blo := bndI_ok elo hlo
    have bhi := bndI_ok ehi hhi
    have bmx := bndI_ok emx hmx
    have hu := (hT.at ht).desc (d := .slice e) (fun d' hd => kindOf_slice hd)
    split at h
    · cases h
    · rename_i hmh
      have hmh' : mx'.isSome = true → hi'.isSome = true := by
        intro h1
        cases hi' <;> simp_all
      split at h
      · rename_i te hte
        have hrun : ∀ (ao : Option Addr) (len cap : Nat), cutOb lo' hi' mx' len cap → (Instr.sliceAt t (.slice ao len cap) lov hiv mxv).run P W =
            .ok (.slice (if (mx'.getD cap).toNat = (lo'.getD 0).toNat then ao else ao.map (·.add ((lo'.getD 0).toNat * te.size))) ((hi'.getD len).toNat - (lo'.getD 0).toNat) ((mx'.getD cap).toNat - (lo'.getD 0).toNat)) W := by
          intro ao len cap hb
          have hbd := run_bounds (P := P) (W := W) (isS := true) (len := len) (cap := cap) blo bhi bmx hb hmh'
          simp only [Instr.sliceAt, Sem.run_bind, run_underlying hu, Result.andThen, Instr.slice, hbd, run_sizeOf' (hT.at hte)]
          rfl
        split at h
        · rename_i i e' off len cap
          split at h
          · rename_i hee
            injection h with h
            subst h
            subst hee
            have hob' := hob
            obtain ⟨o1, o2, o3, o4⟩ := hob
            rcases hx with ⟨h1, rfl, rfl, h0, rfl⟩ | ⟨b, C, ad, cc, h1, rfl, h3, h4, h5, h6⟩
            · refine gives_val hc (hrun none 0 0 hob') ?_
              have e1 : loN lo' = 0 := by rw [loN_eq]; cases lo' <;> cases hi' <;> cases mx' <;> simp at o1 o2 o3 o4 ⊢ <;> omega
              have e2 : hiN 0 hi' = 0 := by rw [hiN_eq]; cases lo' <;> cases hi' <;> cases mx' <;> simp at o1 o2 o3 o4 ⊢ <;> omega
              have e3 : (mx'.getD ((0 : Nat) : Int)).toNat = 0 := by cases lo' <;> cases hi' <;> cases mx' <;> simp at o1 o2 o3 o4 ⊢ <;> omega
              refine .inl ⟨h1, by simp [e1], by simp [e1, e2], ?_, ?_⟩
              · unfold capOf
                cases mx' with
                | none => cases cap <;> simp_all
                | some k => simp at e3 ⊢; omega
              · rw [← loN_eq, ← hiN_eq 0 hi', e1, e2, e3]
                rfl
            · have hcc : cutOb lo' hi' mx' len cc := by
                refine ⟨o1, o2, ?_, ?_⟩
                · cases mx' with
                  | none => simp at o3 ⊢; omega
                  | some k => simpa using o3
                · cases mx' with
                  | none => simp
                  | some k => simp at o4 ⊢; omega
              refine gives_val hc (hrun _ _ _ hcc) ?_
              have hl1 : loN lo' ≤ hiN len hi' := by rw [loN_eq, hiN_eq]; omega
              have hl2 : hiN len hi' ≤ (mx'.getD (cc : Int)).toNat := by
                rw [hiN_eq]
                have := hcc.2.2.1
                omega
              have hl3 : (mx'.getD (cc : Int)).toNat ≤ cc := by have := hcc.2.2.2; omega
              refine .inr ⟨b, C, (if (mx'.getD (cc : Int)).toNat = (lo'.getD 0).toNat then ad else ad.add ((lo'.getD 0).toNat * te.size)), (mx'.getD (cc : Int)).toNat - loN lo', h1, ?_, ?_, ?_, ?_, ?_, ?_⟩
              · rw [← loN_eq, ← hiN_eq len hi']
                split <;> rfl
              · unfold capOf
                cases mx' with
                | none =>
                  cases cap with
                  | none => simp at h3 ⊢; omega
                  | some k => simp at h3 ⊢; omega
                | some k => simp
              · omega
              · omega
              · intro hne
                rw [if_neg (by rw [← loN_eq]; omega)]
                rw [h6.1 (by omega), addr_add, ← loN_eq, Nat.add_mul]
              · split
                · exact h6.2
                · rw [addr_block]; exact h6.2
          · cases h
        · rename_i z e' es
          split at h
          · rename_i hee
            injection h with h
            subst h
            subst hee
            have hob' := hob
            obtain ⟨o1, o2, o3, o4⟩ := hob
            simp only [AV.rel, Sc.rel, D.rel] at hx
            rcases hx with ⟨rfl, hz, rfl⟩ | ⟨hz, ad, cc, rfl, h4, h5, h6⟩
            · refine gives_val hc (hrun none 0 0 hob') ?_
              simp only [AV.rel, Sc.rel, D.rel]
              have e1 : loN lo' = 0 := by rw [loN_eq]; cases lo' <;> cases hi' <;> cases mx' <;> simp at o1 o2 o3 o4 ⊢ <;> omega
              have e2 : hiN 0 hi' = 0 := by rw [hiN_eq]; cases lo' <;> cases hi' <;> cases mx' <;> simp at o1 o2 o3 o4 ⊢ <;> omega
              have e3 : (mx'.getD ((0 : Nat) : Int)).toNat = 0 := by cases lo' <;> cases hi' <;> cases mx' <;> simp at o1 o2 o3 o4 ⊢ <;> omega
              refine .inl ⟨by rw [cutL_eq]; simp, hz, ?_⟩
              rw [← loN_eq, ← hiN_eq 0 hi', e1, e2, e3]
              rfl
            · have hcc : cutOb lo' hi' mx' es.length cc := by
                refine ⟨o1, o2, ?_, ?_⟩
                · cases mx' with
                  | none => simp at o3 ⊢; omega
                  | some k => simpa using o3
                · cases mx' with
                  | none => simp
                  | some k => simp at o4 ⊢; omega
              refine gives_val hc (hrun _ _ _ hcc) ?_
              simp only [AV.rel, Sc.rel, D.rel]
              have hl1 : loN lo' ≤ hiN es.length hi' := by rw [loN_eq, hiN_eq]; omega
              have hl2 : hiN es.length hi' ≤ (mx'.getD (cc : Int)).toNat := by
                rw [hiN_eq]
                have := hcc.2.2.1
                omega
              have hl4 : hiN es.length hi' ≤ es.length := by
                rw [hiN_eq]
                omega
              have hlen : (cutL es lo' hi').length = hiN es.length hi' - loN lo' := by
                rw [cutL_eq, ← loN_eq, ← hiN_eq es.length hi']
                simp
                omega
              refine .inr ⟨hz, (if (mx'.getD (cc : Int)).toNat = (lo'.getD 0).toNat then ad else ad.add ((lo'.getD 0).toNat * te.size)), (mx'.getD (cc : Int)).toNat - (lo'.getD 0).toNat, ?_, ?_, ?_, ?_⟩
              · rw [hlen, ← loN_eq, ← hiN_eq es.length hi']
                split <;> rfl
              · rw [hlen, ← loN_eq]; omega
              · intro r hr
                rw [cutL_eq] at hr
                exact h5 r (List.mem_of_mem_drop (List.mem_of_mem_take hr))
              · intro hne
                have hpos : 0 < (cutL es lo' hi').length := List.length_pos_iff.2 hne
                rw [hlen] at hpos
                have hes : es ≠ [] := by
                  intro h0
                  have : es.length = 0 := by rw [h0]; rfl
                  omega
                obtain ⟨hsp, hrow⟩ := h6 hes
                rw [if_neg (by rw [← loN_eq]; omega)]
                obtain ⟨ab, ao, asp⟩ := ad
                simp only at hsp
                subst hsp
                rw [addr_add]
                refine ⟨rfl, ?_⟩
                rw [cutL_eq]
                exact relRows_drop_take hrow h5 _ _
          · cases h
        · cases h
      · cases h
  · cases h

/-! ### lengths -/
def evLen (T : Tab) (t : TypeId) (x : AV) : Option Res :=
  match lookN t T with
  | some ⟨.str, _, _, _⟩ => (match x with
    | .s (.d (.str s)) => some (valRes (dv (.int .i64 (s.length : Int))) True)
    | _ => none)
  | some ⟨.slice e, _, _, _⟩ => (match x with
    | .s (.row _ _ _ len _) => some (valRes (dv (.int .i64 (len : Int))) True)
    | .s (.d (.slice _ _ es)) => some (valRes (dv (.int .i64 (es.length : Int))) True)
    | _ => none)
  | some ⟨.array n e, _, _, _⟩ => some (valRes (dv (.int .i64 (n : Int))) True)
  | _ => none

theorem evLen_ok {T : Tab} (hT : TabOk P T) {t ty : TypeId} {x : AV} {r : Res} (h : evLen T t x = some r) (hc : RelC c φ m f a W) {X : Value} (hx : x.rel φ m X) :
    Gives P (Builtin.len_ #[t] ty #[X]) c φ m f a W r := by
  unfold evLen at h
  split at h
  · rename_i ht
    have hu := (hT.at ht).desc (d := .string) (fun d' hd => kindOf_str hd)
    split at h
    · rename_i s
      injection h with h
      subst h
      simp only [AV.rel, Sc.rel, D.rel] at hx
      subst hx
      refine gives_val hc (V := .int .i64 (s.length : Int)) ?_ (by simp [AV.rel, Sc.rel, D.rel])
      have hsz : (ByteArray.mk s.toArray).size = s.length := by simp [ByteArray.size]
      simp [Builtin.len_, run_underlying hu, goInt, hsz]
    · cases h
  · rename_i e _ _ _ ht
    have hu := (hT.at ht).desc (d := .slice e) (fun d' hd => kindOf_slice hd)
    split at h
    · rename_i i e' off len cap
      injection h with h
      subst h
      refine gives_val hc (V := .int .i64 (len : Int)) ?_ (by simp [AV.rel, Sc.rel, D.rel])
      rcases hx with ⟨h1, rfl, rfl, h0, rfl⟩ | ⟨b, C, ad, cc, h1, rfl, _⟩ <;> simp [Builtin.len_, run_underlying hu, goInt]
    · rename_i z e' es
      injection h with h
      subst h
      refine gives_val hc (V := .int .i64 (es.length : Int)) ?_ (by simp [AV.rel, Sc.rel, D.rel])
      simp only [AV.rel, Sc.rel, D.rel] at hx
      rcases hx with ⟨rfl, hz, rfl⟩ | ⟨hz, ad, cc, rfl, _⟩ <;> simp [Builtin.len_, run_underlying hu, goInt]
    · cases h
  · rename_i n e _ _ _ ht
    have hu := (hT.at ht).desc (d := .array n e) (fun d' hd => kindOf_array hd)
    injection h with h
    subst h
    refine gives_val hc (V := .int .i64 (n : Int)) ?_ (by simp [AV.rel, Sc.rel, D.rel])
    simp [Builtin.len_, run_underlying hu, goInt]
  · cases h

end
end Go.Proofs.Hg
