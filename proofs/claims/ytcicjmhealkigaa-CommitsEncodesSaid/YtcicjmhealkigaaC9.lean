/- A law's arguments as values of the abstract machine. -/
import Derived.Test.YtcicjmhealkigaaC8
import Derived.ChangeSlices
import Derived.OpenShut
set_option linter.unusedVariables false
set_option linter.unusedSimpArgs false
namespace Go.Proofs.Hg
open Go.RowKit

/-- The types of what a law is given. -/
inductive Ty where
  | bool
  | int (k : IntKind)
  | str
  | float (k : FloatKind)
  | slice (e : Ty)
  | struct (fs : List Ty)
  | array (n : Nat) (e : Ty)

mutual
def Ty.size : Ty → Nat
  | .bool => 1
  | .int _ => 1
  | .str => 1
  | .float _ => 1
  | .slice _ => 1
  | .struct fs => Ty.sizes fs
  | .array n e => n * e.size
def Ty.sizes : List Ty → Nat
  | [] => 0
  | t :: ts => t.size + Ty.sizes ts
end

mutual
def Ty.has : Ty → List D → Prop
  | .bool, ds => ∃ b, ds = [.bool b]
  | .int k, ds => ∃ n, ds = [.int k n] ∧ (Lit.int k n).wf = true
  | .str, ds => ∃ s, ds = [.str s] ∧ s.length ≤ maxLen
  | .float k, ds => ∃ b, ds = [.float k b]
  | .slice e, ds => ∃ z es, ds = [.slice z e.size es] ∧ es.length ≤ maxLen ∧ ∀ r ∈ es, e.has r
  | .struct fs, ds => Ty.hasL fs ds
  | .array n e, ds => ∃ rs : List (List D), rs.length = n ∧ ds = rs.flatten ∧ ∀ r ∈ rs, e.has r ∧ r.length = e.size
def Ty.hasL : List Ty → List D → Prop
  | [], ds => ds = []
  | t :: ts, ds => ∃ a b, ds = a ++ b ∧ t.has a ∧ Ty.hasL ts b
end

def tiles (f : TypeId → Option Ty) (P : Program) : Nat → List Field → Nat → Option (List Ty)
  | off, [], tot => if off = tot then some [] else none
  | off, g :: gs, tot => match f g.type with
    | some T => if g.offset = off ∧ P.cellsOf g.type = T.size then (tiles f P (off + T.size) gs tot).map (T :: ·) else none
    | none => none

def tyOf (P : Program) : Nat → TypeId → Option Ty
  | 0, _ => none
  | n + 1, t => match P.underlying t with
    | some .bool => some .bool
    | some (.int k) => some (.int k)
    | some .string => some .str
    | some (.float k) => some (.float k)
    | some (.array m e) => match tyOf P n e with
      | some T => if P.cellsOf e = T.size ∧ P.cellsOf t = m * T.size then some (.array m T) else none
      | none => none
    | some (.slice e) => match tyOf P n e with
      | some T => if 0 < T.size ∧ P.cellsOf e = T.size then some (.slice T) else none
      | none => none
    | some (.struct fs) => (tiles (tyOf P n) P 0 fs.toList (P.cellsOf t)).map .struct
    | _ => none

def heapM (W : World) : Mem := fun b => W.heap[b]?
def relD (m : Mem) (ds : List D) (cs : List Value) : Prop := ∀ (j : Nat) (d : D), ds[j]? = some d → ∃ v, cs[j]? = some v ∧ d.rel m v

theorem relD_one {m : Mem} {d : D} {v : Value} (h : d.rel m v) : relD m [d] [v] := fun j x hj => by
  cases j with
  | zero => simp at hj; subst hj; exact ⟨v, rfl, h⟩
  | succ j => simp at hj

theorem list_of {Q : Nat → List D → Prop} : ∀ (n : Nat), (∀ i, i < n → ∃ r, Q i r) → ∃ es : List (List D), es.length = n ∧ ∀ i, i < n → Q i (es.getD i [])
  | 0, _ => ⟨[], rfl, fun i hi => by omega⟩
  | n + 1, h => by
    obtain ⟨es, h1, h2⟩ := list_of n fun i hi => h i (by omega)
    obtain ⟨r, hr⟩ := h n (by omega)
    refine ⟨es ++ [r], by simp [h1], fun i hi => ?_⟩
    by_cases e : i < n
    · have := h2 i e
      simpa [List.getD_eq_getElem?_getD, List.getElem?_append_left (show i < es.length by omega)] using this
    · have : i = n := by omega
      subst this
      simpa [List.getD_eq_getElem?_getD, ← h1] using hr

section
variable {H : Type} {enc : TypeId × Value → H} {P : Program} {W : World} {base : Nat} {spare : Nat → Bool} {held : Bool}

theorem cell_mem {a : Addr} {v : Value} (h : W.cell? a = some v) : a.spot = none ∧ memCell (heapM W) a.block a.off = some v := by
  unfold World.cell? at h
  unfold memCell heapM
  split at h
  · rename_i c x y hb
    split at h
    · cases h
    · rename_i hs
      rw [hb]
      exact ⟨by simpa using hs, h⟩
  · cases h

theorem Ty.hasL_len : ∀ (ts : List Ty) (ds : List D), (∀ T ∈ ts, ∀ r, T.has r → r.length = T.size) → Ty.hasL ts ds → ds.length = Ty.sizes ts
  | [], ds, _, h => by
    unfold Ty.hasL at h
    subst h
    simp [Ty.sizes]
  | t :: ts, ds, hT, h => by
    unfold Ty.hasL at h
    obtain ⟨a, b, rfl, h1, h2⟩ := h
    simp only [List.length_append, Ty.sizes]
    rw [hT t (List.mem_cons_self ..) a h1, Ty.hasL_len ts b (fun T hm => hT T (List.mem_cons_of_mem _ hm)) h2]

/-- Fields side by side. -/
theorem tiles_has {f : TypeId → Option Ty} {cs : List Value} {n : Nat} (hf : ∀ t T, f t = some T → ∀ (cs : List Value) (x : DataW H × List MemPlace), DataW.trod enc P W base spare held n t cs = some x → ∃ ds, T.has ds ∧ ds.length = T.size ∧ cs.length = T.size ∧ relD (heapM W) ds cs) :
    ∀ (gs : List Field) (off tot : Nat) (Ts : List Ty), tiles f P off gs tot = some Ts → cs.length = tot → (∀ g ∈ gs, ∃ x, DataW.trod enc P W base spare held n g.type ((cs.drop g.offset).take (P.cellsOf g.type)) = some x) →
      ∃ ds, Ty.hasL Ts ds ∧ ds.length = Ty.sizes Ts ∧ off + Ty.sizes Ts = tot ∧ relD (heapM W) ds (cs.drop off)
  | [], off, tot, Ts, ht, hl, _ => by
    simp only [tiles] at ht
    split at ht
    · rename_i e
      injection ht with ht
      subst ht
      exact ⟨[], by unfold Ty.hasL; rfl, by simp [Ty.sizes], by simp [Ty.sizes, e], fun j d hj => by simp at hj⟩
    · cases ht
  | g :: gs, off, tot, Ts, ht, hl, hg => by
    simp only [tiles] at ht
    split at ht
    · rename_i T hT
      split at ht
      · rename_i hc
        simp only [Option.map_eq_some_iff] at ht
        obtain ⟨Ts', h1, rfl⟩ := ht
        obtain ⟨x, hx⟩ := hg g (List.mem_cons_self ..)
        obtain ⟨a, a1, a2, a3, a4⟩ := hf g.type T hT _ x hx
        obtain ⟨b, b1, b2, b3, b4⟩ := tiles_has hf gs (off + T.size) tot Ts' h1 hl (fun g' hg' => hg g' (List.mem_cons_of_mem _ hg'))
        refine ⟨a ++ b, by unfold Ty.hasL; exact ⟨a, b, rfl, a1, b1⟩, by simp [Ty.sizes, a2, b2], by simp only [Ty.sizes]; omega, fun j d hj => ?_⟩
        by_cases e : j < a.length
        · rw [List.getElem?_append_left e] at hj
          obtain ⟨v, v1, v2⟩ := a4 j d hj
          refine ⟨v, ?_, v2⟩
          rw [hc.1, hc.2, List.getElem?_take_of_lt (by omega)] at v1
          exact v1
        · rw [List.getElem?_append_right (by omega)] at hj
          obtain ⟨v, v1, v2⟩ := b4 _ d hj
          refine ⟨v, ?_, v2⟩
          rw [List.getElem?_drop] at v1 ⊢
          rw [← v1]
          congr 1
          omega
      · cases ht
    · cases ht

theorem trod_float {k : FloatKind} {t : TypeId} {fuel : Nat} {cs : List Value} {x : DataW H × List MemPlace} (ht : P.underlying t = some (.float k)) (h : DataW.trod enc P W base spare held fuel t cs = some x) : ∃ b, cs = [.float k b] := by
  cases fuel with
  | zero => simp [DataW.trod] at h
  | succ n =>
    unfold DataW.trod at h
    rw [ht] at h
    split at h <;> simp_all

theorem trod_has : ∀ (k : Nat) (t : TypeId) (T : Ty), tyOf P k t = some T → ∀ (fuel : Nat) (cs : List Value) (x : DataW H × List MemPlace), DataW.trod enc P W base spare held fuel t cs = some x →
    ∃ ds, T.has ds ∧ ds.length = T.size ∧ cs.length = T.size ∧ relD (heapM W) ds cs
  | 0, t, T, hT, _, _, _, _ => by simp [tyOf] at hT
  | k + 1, t, T, hT, fuel, cs, x, hx => by
    simp only [tyOf] at hT
    split at hT
    · rename_i hu
      injection hT with hT
      subst hT
      obtain ⟨b, rfl, _⟩ := DataW.trod_bool hu hx
      exact ⟨[.bool b], by unfold Ty.has; exact ⟨b, rfl⟩, by simp [Ty.size], by simp [Ty.size], relD_one (by unfold D.rel; rfl)⟩
    · rename_i kd hu
      injection hT with hT
      subst hT
      obtain ⟨n, rfl, _, hw⟩ := DataW.trod_int hu hx
      exact ⟨[.int kd n], by unfold Ty.has; exact ⟨n, rfl, hw⟩, by simp [Ty.size], by simp [Ty.size], relD_one (by unfold D.rel; rfl)⟩
    · rename_i hu
      injection hT with hT
      subst hT
      obtain ⟨s, rfl, _, hs⟩ := DataW.trod_string hu hx
      refine ⟨[.str s.data.toList], by unfold Ty.has; exact ⟨_, rfl, by rw [Array.length_toList]; exact hs⟩, by simp [Ty.size], by simp [Ty.size], relD_one (by unfold D.rel; cases s; simp)⟩
    · rename_i kd hu
      injection hT with hT
      subst hT
      obtain ⟨b, rfl⟩ := trod_float hu hx
      exact ⟨[.float kd b], by unfold Ty.has; exact ⟨b, rfl⟩, by simp [Ty.size], by simp [Ty.size], relD_one (by unfold D.rel; rfl)⟩
    · rename_i m e hu
      split at hT
      · rename_i Te hTe
        split at hT
        · rename_i hsz
          injection hT with hT
          subst hT
          obtain ⟨xs, n, _, _, hl, hlen, hf⟩ := DataW.trod_array hu hx
          have hex : ∀ i, i < m → ∃ r, Te.has r ∧ r.length = Te.size ∧ relD (heapM W) r ((cs.drop (i * Te.size)).take Te.size) := by
            intro i hi
            have h1 := hf i hi
            rw [List.getElem?_eq_getElem (by omega), hsz.1] at h1
            obtain ⟨r, r1, r2, r3, r4⟩ := trod_has k e Te hTe n _ _ h1
            exact ⟨r, r1, r2, r4⟩
          obtain ⟨rs, e1, e2⟩ := list_of m hex
          have hrow : ∀ r ∈ rs, Te.has r ∧ r.length = Te.size := by
            intro r hr
            obtain ⟨i, hi, hir⟩ := List.getElem_of_mem hr
            have := e2 i (by omega)
            rw [List.getD_eq_getElem?_getD, List.getElem?_eq_getElem hi, Option.getD_some, hir] at this
            exact ⟨this.1, this.2.1⟩
          have hfl := flatten_len (e := Te.size) (es := rs) fun r hr => (hrow r hr).2
          refine ⟨rs.flatten, by unfold Ty.has; exact ⟨rs, e1, rfl, hrow⟩, by rw [hfl, e1]; rfl, by rw [hl, hsz.2]; rfl, fun j d hj => ?_⟩
          have hj2 := (List.getElem?_eq_some_iff.1 hj).1
          rw [hfl] at hj2
          rcases Nat.eq_zero_or_pos Te.size with h0 | h0
          · rw [h0] at hj2; simp at hj2
          rw [flatten_get h0 (fun r hr => (hrow r hr).2) hj2] at hj
          have hk : j / Te.size < m := by rw [← e1]; exact (Nat.div_lt_iff_lt_mul h0).2 hj2
          obtain ⟨v, v1, v2⟩ := (e2 _ hk).2.2 _ d hj
          have hm := Nat.mod_lt j h0
          rw [List.getElem?_take_of_lt hm, List.getElem?_drop] at v1
          refine ⟨v, ?_, v2⟩
          rw [← v1]
          congr 1
          have := Nat.div_add_mod j Te.size
          rw [Nat.mul_comm] at this
          exact this.symm
        · cases hT
      · cases hT
    · rename_i e hu
      split at hT
      · rename_i Te hTe
        split at hT
        · rename_i hsz
          injection hT with hT
          subst hT
          rcases DataW.trod_slice hu hx with ⟨rfl, _⟩ | ⟨a, len, cap, elems, rest, n, _, rfl, _, hb, hl, hm, hlen, hel, _, _⟩
          · refine ⟨[.slice (some true) Te.size []], by unfold Ty.has; exact ⟨_, [], rfl, Nat.zero_le _, fun r hr => by simp at hr⟩, by simp [Ty.size], by simp [Ty.size], relD_one ?_⟩
            unfold D.rel
            exact .inl ⟨rfl, by simp, rfl⟩
          · have hex : ∀ i, i < len → ∃ r, Te.has r ∧ r.length = Te.size ∧ ∀ (j : Nat) (d : D), r[j]? = some d → ∃ v, W.cell? ((a.add (i * Te.size)).add j) = some v ∧ d.rel (heapM W) v := by
              intro i hi
              have h1 := hel i hi
              rw [List.getElem?_eq_getElem (by omega), hsz.2] at h1
              obtain ⟨cs', c1, c2⟩ := Option.bind_eq_some_iff.1 h1
              obtain ⟨r, r1, r2, r3, r4⟩ := trod_has k e Te hTe n cs' _ c2
              refine ⟨r, r1, r2, fun j d hj => ?_⟩
              obtain ⟨v, v1, v2⟩ := r4 j d hj
              have hj2 := (List.getElem?_eq_some_iff.1 hj).1
              exact ⟨v, by rw [(World.cells?_some c1).2.2 j (by omega)]; exact v1, v2⟩
            obtain ⟨es, e1, e2⟩ := list_of len hex
            have hrow : ∀ r ∈ es, Te.has r ∧ r.length = Te.size := by
              intro r hr
              obtain ⟨i, hi, hir⟩ := List.getElem_of_mem hr
              have := e2 i (by omega)
              rw [List.getD_eq_getElem?_getD, List.getElem?_eq_getElem hi, Option.getD_some, hir] at this
              exact ⟨this.1, this.2.1⟩
            refine ⟨[.slice none Te.size es], by unfold Ty.has; exact ⟨_, es, rfl, by omega, fun r hr => (hrow r hr).1⟩, by simp [Ty.size], by simp [Ty.size], relD_one ?_⟩
            unfold D.rel
            refine .inr ⟨by simp, a, cap, by rw [e1], by omega, fun r hr => (hrow r hr).2, fun hne => ?_⟩
            have hpos : 0 < len := by rw [← e1]; exact List.length_pos_iff.2 hne
            have hsp : a.spot = none := by
              have h0 := e2 0 hpos
              have hl0 : 0 < (es.getD 0 []).length := by rw [h0.2.1]; exact hsz.1
              obtain ⟨v, v1, _⟩ := h0.2.2 0 _ (List.getElem?_eq_getElem hl0)
              simp only [Nat.zero_mul, Addr.add, if_true] at v1
              exact (cell_mem v1).1
            refine ⟨hsp, ?_⟩
            rw [relRows_iff, relCells_iff]
            intro i d hi
            have hfl := flatten_len (e := Te.size) (es := es) fun r hr => (hrow r hr).2
            have hi2 := (List.getElem?_eq_some_iff.1 hi).1
            rw [hfl] at hi2
            rw [flatten_get hsz.1 (fun r hr => (hrow r hr).2) hi2] at hi
            have hk : i / Te.size < len := by rw [← e1]; exact (Nat.div_lt_iff_lt_mul hsz.1).2 hi2
            obtain ⟨v, v1, v2⟩ := (e2 _ hk).2.2 _ d hi
            obtain ⟨ab, ao, asp⟩ := a
            simp only at hsp
            subst hsp
            rw [addr_add, addr_add] at v1
            refine ⟨v, ?_, v2⟩
            have := (cell_mem v1).2
            simp only at this
            rw [← this]
            congr 1
            have := Nat.div_add_mod i Te.size
            rw [Nat.mul_comm] at this
            show ao + i = _
            omega
        · cases hT
      · cases hT
    · rename_i fs hu
      simp only [Option.map_eq_some_iff] at hT
      obtain ⟨Ts, hTs, rfl⟩ := hT
      obtain ⟨xs, n, _, _, hl, hlen, hf⟩ := DataW.trod_struct hu hx
      obtain ⟨ds, d1, d2, d3, d4⟩ := tiles_has (enc := enc) (base := base) (spare := spare) (held := held) (n := n) (cs := cs) (fun t T ht cs x hx => trod_has k t T ht n cs x hx) fs.toList 0 (P.cellsOf t) Ts hTs hl (fun g hg => by
        obtain ⟨i, hi, hig⟩ := List.getElem_of_mem hg
        have h1 := hf i g (by rw [← Array.getElem?_toList, List.getElem?_eq_getElem hi, hig])
        have hi2 : i < xs.length := by rw [hlen]; simpa using hi
        rw [List.getElem?_eq_getElem hi2] at h1
        exact ⟨_, h1⟩)
      exact ⟨ds, by unfold Ty.has; exact d1, by simp [Ty.size, d2], by simp only [Ty.size]; omega, by simpa using d4⟩
    · cases hT

end
end Go.Proofs.Hg
