/- append. -/
import Derived.Test.YtcicjmhealkigaaM1
import Derived.Laws.MakeOwn
import Derived.Lib.UnsafeStr
import Derived.Sort.LoopGhostIn
import Derived.Conc.MuLone
import Derived.Attr
import Derived.ChangeSlices
import Derived.OpenShut
set_option linter.unusedVariables false
set_option linter.unusedSimpArgs false
namespace Go.Proofs.Hg
open Go.RowKit

section
variable {P : Program} {c : Ctx} {φ : Names} {m : Mem} {f : StF} {a : Act} {W : World}

/-- What is appended: its length, its cells, in every world that keeps what is read. -/
structure Src (P : Program) (W : World) (size n : Nat) (x : Value) (news : List Value) : Prop where
  len : ∀ w, (Builtin.lenOf x).run P w = .ok n w
  cells : ∀ w, (∀ a v, W.cell? a = some v → w.cell? a = some v) → (Builtin.firstCells size n x).run P w = .ok news.toArray w
  size : news.length = n * size
  one : ∀ v ∈ news, v.oneCell' = true

/-- The elements that are appended: a slice's or a string's. -/
def srcOf (H : Heap) (x : AV) : Option (List (List D) × Prop × List (Nat × AObj)) :=
  match x with
  | .s (.d (.str s)) => some (brow s, True, [])
  | x => viewOf H x

def nilSz (k : Nat) : Option Bool → List (List D) → Option Nat
  | some true, [] => some k
  | _, _ => none
def srcSz (k : Nat) : AV → Option Nat
  | .s (.d (.str _)) => some 1
  | .s (.d (.slice z e es)) => if e = k then some e else nilSz k z es
  | x => elemSz x

theorem src_str (s : List UInt8) : Src P W 1 s.length (.string ⟨s.toArray⟩) (s.map fun b => Value.int .u8 (b.toNat : Int)) := by
  have hsz : (ByteArray.mk s.toArray).size = s.length := by simp [ByteArray.size]
  refine ⟨fun w => by simp [Builtin.lenOf, hsz], fun w _ => ?_, by simp, fun v hv => by obtain ⟨b, _, rfl⟩ := List.mem_map.1 hv; rfl⟩
  have : (ByteArray.mk s.toArray).extract 0 s.length = ⟨s.toArray⟩ := by
    apply ByteArray.ext
    rw [ByteArray.data_extract]
    apply Array.ext'
    simp
  simp [Builtin.firstCells, this]

theorem shown_src {e : Nat} {V : Value} {es : List (List D)} (h : Shown W e V es m) : ∃ news, Src P W e es.length V news ∧ ∀ (j : Nat) (d : D), es.flatten[j]? = some d → ∃ v : Value, news[j]? = some v ∧ d.rel m v := by
  rcases h.form with ⟨rfl, rfl⟩ | ⟨ad, k, rfl, hcell⟩
  · exact ⟨[], ⟨fun w => by simp [Builtin.lenOf], fun w _ => by simp [Builtin.firstCells], by simp, fun v hv => by simp at hv⟩, fun j d hj => by simp at hj⟩
  · have hfl := flatten_len h.rows
    by_cases hne : es = []
    · subst hne
      refine ⟨[], ⟨fun w => by simp [Builtin.lenOf], fun w _ => ?_, by simp, fun v hv => by simp at hv⟩, fun j d hj => by simp at hj⟩
      have := run_loadCells_list (P := P) w ad [] (fun j v hj => by simp at hj)
      simpa [Builtin.firstCells] using this
    · obtain ⟨hsp, hcell⟩ := hcell hne
      obtain ⟨ab, ao, asp⟩ := ad
      simp only at hsp
      subst hsp
      let news := (List.range es.flatten.length).map fun j => (W.cell? ⟨ab, ao + j, none⟩).getD undef
      have hnew : ∀ j, j < es.flatten.length → W.cell? ⟨ab, ao + j, none⟩ = some (news.getD j undef) := by
        intro j hj
        obtain ⟨v, q1, q2⟩ := hcell j _ (List.getElem?_eq_getElem hj)
        simp only at q1
        rw [q1]
        simp only [news, List.getD_eq_getElem?_getD, List.getElem?_map, List.getElem?_range hj, Option.map_some, Option.getD_some, q1]
      have hl : news.length = es.length * e := by simp [news, ← hfl]
      refine ⟨news, ⟨fun w => by simp [Builtin.lenOf], fun w hw => ?_, hl, fun v hv => ?_⟩, fun j d hj => ?_⟩
      · have := run_loadCells_list (P := P) w ⟨ab, ao, none⟩ news (fun j v hj => by
          rw [addr_add]
          have hjl := (List.getElem?_eq_some_iff.1 hj).1
          rw [hw _ _ (hnew j (by omega))]
          simp [List.getD_eq_getElem?_getD, hj])
        rw [hl] at this
        simpa [Builtin.firstCells] using this
      · obtain ⟨j, hj1, hj2⟩ := List.getElem_of_mem hv
        obtain ⟨v', q1, q2⟩ := hcell j _ (List.getElem?_eq_getElem (by omega))
        have := hnew j (by omega)
        rw [q1] at this
        injection this with this
        rw [List.getD_eq_getElem?_getD, List.getElem?_eq_getElem hj1, Option.getD_some] at this
        rw [← hj2, ← this]
        exact D.rel_one q2
      · have hjl := (List.getElem?_eq_some_iff.1 hj).1
        obtain ⟨v', q1, q2⟩ := hcell j d hj
        refine ⟨v', ?_, q2⟩
        have := hnew j hjl
        rw [q1] at this
        injection this with this
        rw [this, List.getD_eq_getElem?_getD, List.getElem?_eq_getElem (by omega)]
        rfl

theorem src_none (size : Nat) : Src P W size 0 (.slice none 0 0) [] :=
  ⟨fun w => by simp [Builtin.lenOf], fun w _ => by simp [Builtin.firstCells], by simp, fun v hv => by simp at hv⟩

theorem srcOf_ok {H : Heap} {x : AV} {es : List (List D)} {ob : Prop} {rd : List (Nat × AObj)} {k e : Nat} (h : srcOf H x = some (es, ob, rd)) (hob : ob) (he : srcSz k x = some e) (hrd : ∀ p ∈ rd, f (.h p.1) = .o p.2) (hc : RelC c φ m f a W) {V : Value}
    (hx : x.rel φ m V) : (∀ r ∈ es, r.length = e) ∧ ∃ news, Src P W e es.length V news ∧ ∀ (j : Nat) (d : D), es.flatten[j]? = some d → ∃ v : Value, news[j]? = some v ∧ d.rel m v := by
  unfold srcOf at h
  split at h
  · rename_i s
    simp only [srcSz, Option.some.injEq] at he
    subst he
    simp only [Option.some.injEq, Prod.mk.injEq] at h
    obtain ⟨rfl, rfl, rfl⟩ := h
    simp only [AV.rel, Sc.rel, D.rel] at hx
    subst hx
    refine ⟨brow_row s, s.map fun b => Value.int .u8 (b.toNat : Int), by rw [brow_length]; exact src_str s, fun j d hj => ?_⟩
    obtain ⟨v, q1, q2⟩ := brow_rel m s #[] j d hj
    exact ⟨v, by simpa using q1, q2⟩
  · rename_i hns
    by_cases hnil : ∃ e0, x = .s (.d (.slice (some true) e0 []))
    · obtain ⟨e0, rfl⟩ := hnil
      simp only [viewOf, Option.some.injEq, Prod.mk.injEq] at h
      obtain ⟨rfl, rfl, rfl⟩ := h
      have hV : V = .slice none 0 0 := by
        simp only [AV.rel, Sc.rel, D.rel] at hx
        rcases hx with ⟨_, _, hx⟩ | ⟨hx, _⟩
        · exact hx
        · exact absurd rfl hx
      subst hV
      exact ⟨fun r hr => absurd hr (by simp), [], src_none e, fun j d hj => by simp at hj⟩
    have he' : elemSz x = some e := by
      unfold srcSz at he
      split at he
      · rename_i s; exact absurd rfl (hns s)
      · rename_i z e0 es0
        split at he
        · exact he
        · unfold nilSz at he
          split at he
          · exact absurd ⟨_, rfl⟩ hnil
          · cases he
      · exact he
    have := viewOf_ok h hob he' hrd hc hx
    exact ⟨this.rows, shown_src this⟩

def srcD (d : TypeDesc) : Prop := d = .string ∨ ∃ e, d = .slice e

/-- append that changes nothing: nothing is appended. -/
theorem run_append_zero {t u ty e : TypeId} {te : TI} (hu : P.underlying t = some (.slice e)) (hte : TIOk P e te) {du : TypeDesc} (hx : P.underlying u = some du) (hd : srcD du)
    {base : Option Addr} {sLen sCap : Nat} (hcap : sLen ≤ sCap) {x : Value} {news : List Value} (hs : Src P W te.size 0 x news) :
    (Builtin.append_ #[t, u] ty #[.slice base sLen sCap, x]).run P W = .ok (.slice base sLen sCap) W := by
  have h0 : news = [] := by have := hs.size; simp at this; exact List.eq_nil_of_length_eq_zero (by simpa using this)
  subst h0
  have hcells := hs.cells W (fun _ _ h => h)
  rcases hd with rfl | ⟨e', rfl⟩ <;>
    (simp [Builtin.append_, run_underlying hu, run_underlying hx, run_sizeOf' hte, hs.len, hcap, hcells]; cases base <;> simp [storeCells])

/-- append with room: in place. -/
theorem run_append_room' {t u ty e : TypeId} {te : TI} (hu : P.underlying t = some (.slice e)) (hte : TIOk P e te) {du : TypeDesc} (hx : P.underlying u = some du) (hd : srcD du)
    {b o sLen sCap n : Nat} (hcap : sLen + n ≤ sCap) {x : Value} {news : List Value} (hs : Src P W te.size n x news) {cs : Array Value} {ety : TypeId} {fr : Nat × Nat}
    (hb : W.heap[b]? = some (.cells cs ety fr)) (hf : FrOk cs.size fr) (hfit : o + (sLen + n) * te.size ≤ cs.size) :
    (Builtin.append_ #[t, u] ty #[.slice (some ⟨b, o, none⟩) sLen sCap, x]).run P W = .ok (.slice (some ⟨b, o, none⟩) (sLen + n) sCap) (W.setCells b (o + sLen * te.size) news) := by
  have hcells := hs.cells W (fun _ _ h => h)
  have hnl := hs.size
  have hin : o + sLen * te.size + news.length ≤ cs.size := by rw [hnl]; rw [Nat.add_mul] at hfit; omega
  have h2 := run_storeCells_cells (P := P) b (o + sLen * te.size) news 0 W (fun j hj => by
      rw [cell_heap hb, Array.getElem?_eq_getElem (by omega)]
      rfl) (fun j hj => frozen_heap hb hf (by omega)) hs.one
  rw [Nat.add_zero] at h2
  rcases hd with rfl | ⟨e', rfl⟩ <;>
    (simp [Builtin.append_, run_underlying hu, run_underlying hx, run_sizeOf' hte, hs.len, hcap, hcells, addr_add, h2])

/-- append that must grow: a new row. -/
theorem run_append_grow' {t u ty e : TypeId} {te : TI} (hu : P.underlying t = some (.slice e)) (hte : TIOk P e te) {du : TypeDesc} (hx : P.underlying u = some du) (hd : srcD du)
    {base : Option Addr} {sLen sCap n : Nat} (hcap : sCap < sLen + n) (hlc : sLen ≤ sCap) {x : Value} {news olds : List Value} (hs : Src P W te.size n x news) (ho : Src P W te.size sLen (.slice base sLen sCap) olds)
    (hbig : (sLen + n) * te.bytes ≤ 140737488355328) (hbig2 : sLen + n ≤ 140737488355328) :
    (Builtin.append_ #[t, u] ty #[.slice base sLen sCap, x]).run P W =
      .ok (.slice (some ⟨W.heap.size, 0, none⟩) (sLen + n) (grownCap W (sLen + n) sCap e))
        (W.drew.alloc (.cells (olds.toArray ++ (news.toArray ++ Builtin.zeroCells te.zeroVal.cells (grownCap W (sLen + n) sCap e - (sLen + n)))) e)) := by
  have hn : ¬ (sLen + n ≤ sCap) := by omega
  have h63 : ¬ (9223372036854775807 < ((sLen : Int) + (n : Int))) := by omega
  have hfit := growslice_fits (bytes := te.bytes) hcap hbig
  have h48 : ¬ (281474976710656 < Builtin.nextslicecap (sLen + n) sCap * te.bytes) := by omega
  have hc1 := hs.cells W.drew (fun a v h => h)
  have hc2 := ho.cells W.drew (fun a v h => h)
  obtain ⟨x1, hi, hi2, hi3, hi4⟩ := hte.info'
  rcases hd with rfl | ⟨e', rfl⟩ <;>
    (simp [Builtin.append_, run_underlying hu, run_underlying hx, run_sizeOf' hte, hs.len, hn, typeInfo, hi, hi3, h63, h48, Question.forced, hc1, hc2, run_zero' hte, newRow, grownCap])

def srcK : TK → Bool
  | .str => true
  | .slice _ => true
  | _ => false

def evAppRow (fresh : Nat) (te : TI) (e : TypeId) (H : Heap) (dst : AV) (es2 : List (List D)) (ob2 : Prop) (rd2 : List (Nat × AObj)) : Option Res :=
  match dst with
  | .s (.d (.slice (some true) _ [])) => some ⟨.one (.s (.row fresh te.size 0 es2.length none)), rd2, true, [(fresh, .o (.row es2 e))], ob2 ∧ es2.length * te.bytes ≤ 140737488355328 ∧ es2.length ≤ 140737488355328⟩
  | .s (.row i e' off len none) => (match H i with
    | some (.row es ty) => if e' = te.size ∧ ty = e then some ⟨.one (.s (.row fresh te.size 0 (es.length + es2.length) none)), (i, .row es ty) :: rd2, true, [(fresh, .o (.row (es ++ es2) e)), (i, .none)],
        off = 0 ∧ len = es.length ∧ ob2 ∧ (es.length + es2.length) * te.bytes ≤ 140737488355328 ∧ es.length + es2.length ≤ 140737488355328⟩ else none
    | _ => none)
  | _ => none

def evAppend (T : Tab) (fresh : Nat) (H : Heap) (t u : TypeId) (dst src : AV) : Option Res :=
  match lookN t T, lookN u T with
  | some ⟨.slice e, _, _, _⟩, some tu => if srcK tu.kind then (match lookN e T, srcOf H src, (match lookN e T with | some te => srcSz te.size src | none => none) with
    | some te, some (es2, ob2, rd2), some e2 => if e2 = te.size then evAppRow fresh te e H dst es2 ob2 rd2 else none
    | _, _, _ => none) else none
  | _, _ => none

theorem zeroCells_size {e : TypeId} {te : TI} (h : TIOk P e te) (n : Nat) : (Builtin.zeroCells te.zeroVal.cells n).size = n * te.size := by
  rw [zeroVal_cells h]
  simp [Builtin.zeroCells, h.len]

/-- What lies in a grown row. -/
theorem grown_row {es es2 : List (List D)} {k : Nat} (he : ∀ r ∈ es, r.length = k) (he2 : ∀ r ∈ es2, r.length = k) {olds news : List Value} (hol : olds.length = es.length * k)
    (h1 : ∀ (j : Nat) (d : D), es.flatten[j]? = some d → ∃ v : Value, olds[j]? = some v ∧ d.rel m v) (h2 : ∀ (j : Nat) (d : D), es2.flatten[j]? = some d → ∃ v : Value, news[j]? = some v ∧ d.rel m v) (rest : Array Value) :
    relRow m (es ++ es2) (olds.toArray ++ (news.toArray ++ rest)) := by
  intro j d hj
  rw [List.flatten_append] at hj
  have hfl := flatten_len he
  by_cases hjl : j < es.flatten.length
  · rw [List.getElem?_append_left hjl] at hj
    obtain ⟨v, q1, q2⟩ := h1 j d hj
    have hl := (List.getElem?_eq_some_iff.1 q1).1
    exact ⟨v, by rw [Array.getElem?_append_left (by simpa using hl)]; simpa using q1, q2⟩
  · rw [List.getElem?_append_right (by omega)] at hj
    obtain ⟨v, q1, q2⟩ := h2 _ d hj
    have hl := (List.getElem?_eq_some_iff.1 q1).1
    refine ⟨v, ?_, q2⟩
    have hos : olds.toArray.size = es.flatten.length := by rw [List.size_toArray, hol, hfl]
    rw [Array.getElem?_append_right (by rw [hos]; omega)]
    rw [Array.getElem?_append_left (by rw [hos, List.size_toArray]; exact hl)]
    have hx : j - olds.toArray.size = j - es.flatten.length := by rw [hos]
    rw [hx]
    simpa using q1

theorem srcD_of {k : TK} (h : srcK k = true) {d : TypeDesc} (hd : kindOf d = k) : srcD d := by
  subst hd
  cases d <;> simp [kindOf, srcK] at h
  · exact .inl rfl
  · exact .inr ⟨_, rfl⟩

theorem evAppend_ok {T : Tab} (hT : TabOk P T) {fresh : Nat} {H : Heap} {t u ty : TypeId} {dst src : AV} {r : Res} (h : evAppend T fresh H t u dst src = some r) (hob : r.ob) (hrd : r.Reads fresh f)
    (hc : RelC c φ m f a W) {X Y : Value} (hx : dst.rel φ m X) (hy : src.rel φ m Y) : Gives P (Builtin.append_ #[t, u] ty #[X, Y]) c φ m f a W r := by
  unfold evAppend at h
  split at h
  · rename_i e _ _ _ tu ht htu
    split at h
    · rename_i hk
      split at h
      · rename_i te es2 ob2 rd2 e2 hte hsrc hsz
        rw [hte] at hsz
        simp only at hsz
        split at h
        · rename_i hee
          subst hee
          have hu := (hT.at ht).desc (d := .slice e) (fun d' hd => kindOf_slice hd)
          obtain ⟨du, hxu, hkd⟩ := (hT.at htu).und'
          have hd := srcD_of hk hkd
          have hteo := hT.at hte
          unfold evAppRow at h
          split at h
          · -- onto nil
            injection h with h
            subst h
            obtain ⟨o1, o2, o3⟩ := hob
            obtain ⟨hrows, news, hs, hnews⟩ := srcOf_ok hsrc o1 hsz (fun p hp => hrd.1 p hp) hc hy
            have hX : X = .slice none 0 0 := by
              simp only [AV.rel, Sc.rel, D.rel] at hx
              rcases hx with ⟨_, _, hx⟩ | ⟨hx, _⟩
              · exact hx
              · exact absurd rfl hx
            subst hX
            have hfree := hrd.2 rfl
            have hn := hc.free _ hfree
            by_cases h0 : es2.length = 0
            · have hnil : es2 = [] := List.eq_nil_of_length_eq_zero h0
              subst hnil
              have hrun := run_append_zero (ty := ty) hu hteo hxu hd (base := none) (Nat.le_refl 0) hs
              refine ⟨updN φ fresh .nil, m, W, .slice none 0 0, ?_, updN_le _ hn, MemLe.refl m, hrun, .inl ⟨updN_self _ _ _, rfl, rfl, rfl, rfl⟩⟩
              rw [wrApp_cons, wrApp_nil]
              exact hc.allocNil hfree
            · have hrun := run_append_grow' (ty := ty) hu hteo hxu hd (base := none) (sLen := 0) (sCap := 0) (n := es2.length) (by omega) (Nat.le_refl _) hs (src_none te.size) (by simpa using o2) (by simpa using o3)
              simp only [Nat.zero_add] at hrun
              obtain ⟨g1, g2⟩ := grownCap_bounds (w := W) (need := es2.length) (old := 0) (e := e) (by omega)
              generalize grownCap W es2.length 0 e = cap at *
              have hcs : (([] : List Value).toArray ++ (news.toArray ++ Builtin.zeroCells te.zeroVal.cells (cap - es2.length))).size = cap * te.size := by
                have hz := zeroCells_size hteo (cap - es2.length)
                have hl := hs.size
                simp only [Array.size_append, List.size_toArray, List.length_nil, hz, hl]
                rw [Nat.zero_add, ← Nat.add_mul]
                congr 1
                omega
              refine ⟨updN φ fresh (.blk W.heap.size cap te.size), m, _, .slice (some ⟨W.heap.size, 0, none⟩) es2.length cap, ?_, updN_le _ hn, MemLe.refl m, hrun, ?_⟩
              · rw [wrApp_cons, wrApp_nil]
                refine hc.drew.alloc hfree (.inr ⟨W.heap.size, cap, te.size, _, (0, 0), updN_self _ _ _, heap_new _ _, FrOk.zero _, hcs, by omega, g2, hrows, ?_⟩)
                have := grown_row (m := m) (es := []) (es2 := es2) (k := te.size) (fun r hr => by simp at hr) hrows (olds := []) (by simp) (fun j d hj => by simp at hj) hnews (Builtin.zeroCells te.zeroVal.cells (cap - es2.length))
                simpa using this
              · exact .inr ⟨W.heap.size, cap, ⟨W.heap.size, 0, none⟩, cap, updN_self _ _ _, rfl, by simp, by omega, g1, fun _ => by simp, rfl⟩
          · rename_i i e' off len
            split at h
            · rename_i es ety hH
              split at h
              · rename_i hcond
                injection h with h
                subst h
                obtain ⟨rfl, rfl⟩ := hcond
                obtain ⟨rfl, rfl, o1, o2, o3⟩ := hob
                obtain ⟨hrows, news, hs, hnews⟩ := srcOf_ok hsrc o1 hsz (fun p hp => hrd.1 p (List.mem_cons_of_mem _ hp)) hc hy
                have hi := hrd.1 _ (List.mem_cons_self ..)
                simp only at hi
                have hfree := hrd.2 rfl
                have hn := hc.free _ hfree
                have hif : i ≠ fresh := by rintro rfl; rw [hi] at hfree; cases hfree
                have hfree2 : upd f (.h i) .none (.h fresh) = .free := by rw [upd_other (by simpa using fun e => hif e.symm)]; exact hfree
                rcases hx with ⟨h1, _, h2, _, rfl⟩ | ⟨b, C, ad, cc, h1, rfl, h3, h4, h5, h6⟩
                · -- a row that is nil
                  have hnil : es = [] := List.eq_nil_of_length_eq_zero h2
                  subst hnil
                  by_cases h0 : es2.length = 0
                  · have hnil : es2 = [] := List.eq_nil_of_length_eq_zero h0
                    subst hnil
                    have hrun := run_append_zero (ty := ty) hu hteo hxu hd (base := none) (Nat.le_refl 0) hs
                    refine ⟨updN φ fresh .nil, m, W, .slice none 0 0, ?_, updN_le _ hn, MemLe.refl m, hrun, .inl ⟨updN_self _ _ _, rfl, rfl, rfl, rfl⟩⟩
                    rw [wrApp_cons, wrApp_cons, wrApp_nil]
                    exact (hc.kill (.h i)).allocNil hfree2
                  · have hrun := run_append_grow' (ty := ty) hu hteo hxu hd (base := none) (sLen := 0) (sCap := 0) (n := es2.length) (by omega) (Nat.le_refl _) hs (src_none te.size) (by simpa using o2) (by simpa using o3)
                    simp only [Nat.zero_add] at hrun
                    simp only [List.length_nil, Nat.zero_add] at o3
                    obtain ⟨g1, g2⟩ := grownCap_bounds (w := W) (need := es2.length) (old := 0) (e := ety) (by omega)
                    generalize grownCap W es2.length 0 ety = cap at *
                    have hcs : (([] : List Value).toArray ++ (news.toArray ++ Builtin.zeroCells te.zeroVal.cells (cap - es2.length))).size = cap * te.size := by
                      have hz := zeroCells_size hteo (cap - es2.length)
                      have hl := hs.size
                      simp only [Array.size_append, List.size_toArray, List.length_nil, hz, hl]
                      rw [Nat.zero_add, ← Nat.add_mul]
                      congr 1
                      omega
                    refine ⟨updN φ fresh (.blk W.heap.size cap te.size), m, _, .slice (some ⟨W.heap.size, 0, none⟩) es2.length cap, ?_, updN_le _ hn, MemLe.refl m, hrun, ?_⟩
                    · rw [wrApp_cons, wrApp_cons, wrApp_nil]
                      refine (hc.kill (.h i)).drew.alloc hfree2 (.inr ⟨W.heap.size, cap, te.size, _, (0, 0), updN_self _ _ _, heap_new _ _, FrOk.zero _, hcs, by simpa using g1, g2, by simpa using hrows, ?_⟩)
                      exact grown_row (m := m) (es := []) (es2 := es2) (k := te.size) (fun r hr => by simp at hr) hrows (olds := []) (by simp) (fun j d hj => by simp at hj) hnews _
                    · exact .inr ⟨W.heap.size, cap, ⟨W.heap.size, 0, none⟩, cap, updN_self _ _ _, by simp, by simp, by omega, by simpa using g1, fun _ => by simp, rfl⟩
                · obtain ⟨cs, fr, q2, q3, q4, q5, q6, q7, q8, _⟩ := row_cell hc hi h1
                  have hcC : cc = C := by simpa using h3
                  subst hcC
                  by_cases h0 : es2.length = 0
                  · have hnil : es2 = [] := List.eq_nil_of_length_eq_zero h0
                    subst hnil
                    have hrun := run_append_zero (ty := ty) hu hteo hxu hd (base := some ad) h5 hs
                    refine ⟨updN φ fresh (.blk b cc te.size), m, W, .slice (some ad) es.length cc, ?_, updN_le _ hn, MemLe.refl m, hrun, ?_⟩
                    · rw [wrApp_cons, wrApp_cons, wrApp_nil]
                      refine hc.rename hi hfree h1 rfl rfl rfl rfl (fun _ _ => rfl) (.inr ⟨b, cc, te.size, cs, fr, updN_self _ _ _, q2, q3, q4, by simpa using q5, q6, by simpa using q7, by simpa using q8⟩)
                    · exact .inr ⟨b, cc, ad, cc, updN_self _ _ _, by simp, by simp, by omega, by simpa using h5, h6⟩
                  · by_cases hfit : es.length + es2.length ≤ cc
                    · have had := h6.1 (by omega)
                      simp only [Nat.zero_mul] at had
                      subst had
                      have hrun := run_append_room' (ty := ty) hu hteo hxu hd hfit hs q2 q3 (by rw [q4, Nat.zero_add]; exact Nat.mul_le_mul_right _ hfit)
                      obtain ⟨g1, g2, g3, g4, g5, g6⟩ := setCells_heap news b (0 + es.length * te.size) W cs ety fr q2
                      refine ⟨updN φ fresh (.blk b cc te.size), m, _, _, ?_, updN_le _ hn, MemLe.refl m, hrun, ?_⟩
                      · rw [wrApp_cons, wrApp_cons, wrApp_nil]
                        refine hc.rename hi hfree h1 g4 g5 g6 g3 g2 (.inr ⟨b, cc, te.size, _, fr, updN_self _ _ _, g1, by rw [splA_size]; exact q3, by rw [splA_size]; exact q4, by simpa using hfit, q6, fun r hr => ?_, ?_⟩)
                        · rcases List.mem_append.1 hr with hr | hr
                          · exact q7 r hr
                          · exact hrows r hr
                        · intro j d hj
                          rw [List.flatten_append] at hj
                          have hfl := flatten_len q7
                          have hnl := hs.size
                          have hsp := splA_get news cs (0 + es.length * te.size) j (by rw [q4, hnl, Nat.zero_add, ← Nat.add_mul]; exact Nat.mul_le_mul_right _ hfit)
                          rw [hsp]
                          by_cases hjl : j < es.flatten.length
                          · rw [List.getElem?_append_left hjl] at hj
                            rw [if_neg (by omega)]
                            exact q8 j d hj
                          · rw [List.getElem?_append_right (by omega)] at hj
                            obtain ⟨v, r1, r2⟩ := hnews _ d hj
                            have hl := (List.getElem?_eq_some_iff.1 r1).1
                            rw [if_pos (by omega)]
                            refine ⟨v, ?_, r2⟩
                            rw [← r1]
                            congr 1
                            omega
                      · exact .inr ⟨b, cc, _, cc, updN_self _ _ _, rfl, by simp, by omega, hfit, fun _ => by simp, rfl⟩
                    · -- it must grow
                      have hsh : Shown W te.size (.slice (some ad) es.length cc) es m := by
                        refine ⟨q7, .inr ⟨ad, cc, rfl, fun hne => ?_⟩⟩
                        have : 0 < es.length := List.length_pos_iff.2 hne
                        rw [h6.1 (by omega)]
                        refine ⟨rfl, fun j d hj => ?_⟩
                        obtain ⟨v, r1, r2⟩ := q8 j d hj
                        exact ⟨v, by rw [cell_heap q2]; simpa using r1, r2⟩
                      obtain ⟨olds, ho, holds⟩ := shown_src (P := P) hsh
                      have hrun := run_append_grow' (ty := ty) hu hteo hxu hd (by omega) h5 hs ho o2 o3
                      obtain ⟨g1, g2⟩ := grownCap_bounds (w := W) (need := es.length + es2.length) (old := cc) (e := ety) (by omega)
                      generalize grownCap W (es.length + es2.length) cc ety = cap at *
                      have hcs : (olds.toArray ++ (news.toArray ++ Builtin.zeroCells te.zeroVal.cells (cap - (es.length + es2.length)))).size = cap * te.size := by
                        have hz := zeroCells_size hteo (cap - (es.length + es2.length))
                        have hl := hs.size
                        have hl2 := ho.size
                        simp only [Array.size_append, List.size_toArray, hz, hl, hl2]
                        rw [← Nat.add_mul, ← Nat.add_mul]
                        congr 1
                        omega
                      refine ⟨updN φ fresh (.blk W.heap.size cap te.size), m, _, _, ?_, updN_le _ hn, MemLe.refl m, hrun, ?_⟩
                      · rw [wrApp_cons, wrApp_cons, wrApp_nil]
                        refine (hc.kill (.h i)).drew.alloc hfree2 (.inr ⟨W.heap.size, cap, te.size, _, (0, 0), updN_self _ _ _, heap_new _ _, FrOk.zero _, hcs, by simpa using g1, g2, fun r hr => ?_, ?_⟩)
                        · rcases List.mem_append.1 hr with hr | hr
                          · exact q7 r hr
                          · exact hrows r hr
                        · exact grown_row q7 hrows ho.size holds hnews _
                      · exact .inr ⟨W.heap.size, cap, ⟨W.heap.size, 0, none⟩, cap, updN_self _ _ _, rfl, by simp, by omega, g1, fun _ => by simp, rfl⟩
              · cases h
            · cases h
          · cases h
        · cases h
      · cases h
    · cases h
  · cases h

end
end Go.Proofs.Hg

/- Small operations: tests of nil, function values, parts of tuples, builtins on numbers. -/
set_option linter.unusedVariables false
set_option linter.unusedSimpArgs false
namespace Go.Proofs.Hg
open Go.RowKit

section
variable {P : Program} {c : Ctx} {φ : Names} {m : Mem} {f : StF} {a : Act} {W : World}

def evNilCheck (x : AV) : Option Res :=
  match x with
  | .s (.ptr i off) => some (valRes x True)
  | .s (.eptr i k fo) => some (valRes x True)
  | .s (.d (.ptr cs)) => some (valRes x True)
  | .s (.func f caps) => some (valRes x True)
  | .s (.yield l) => some (valRes x True)
  | _ => none

/-- What nilCheck hands on. -/
def nilSem (v : Value) : Sem Next :=
  match v with
  | .pointer none | .nilIface | .nilFunc => runtimePanic .nilDeref
  | .func (.method name) first captured =>
    match (first[0]? : Option Value) with
    | some .nilIface => runtimePanic .nilDeref
    | some (.iface t w) => do
      if (← nilAhead ((← program).types.size + Made.depth) t w name) != some false then
        unsupported (.noEntry "op/nilCheck.the method's receiver behind this interface value is a nil pointer, or cannot be seen to be none, and the arguments act or may panic (ledger 612)")
      pure (.value (.func (.method name) first captured))
    | _ => pure (.value (.func (.method name) first captured))
  | x => pure (.value x)

theorem evNilCheck_ok {x : AV} {r : Res} (h : evNilCheck x = some r) {V : Value} (hx : x.rel φ m V) : r = valRes x True ∧ (nilSem V).run P W = .ok (.value V) W := by
  unfold evNilCheck at h
  split at h <;> simp only [Option.some.injEq, reduceCtorEq] at h <;> refine ⟨h.symm, ?_⟩
  · obtain ⟨b, C, e, _, rfl⟩ := hx; rfl
  · obtain ⟨b, C, e, _, rfl⟩ := hx; rfl
  · simp only [AV.rel, Sc.rel, D.rel] at hx; obtain ⟨b, o, rfl, _⟩ := hx; rfl
  · obtain ⟨vs, rfl, _⟩ := hx; rfl
  · obtain ⟨b, C, e, _, rfl⟩ := hx; rfl

def capsOf : List AV → Option (List (Nat × Nat))
  | [] => some []
  | .s (.ptr i off) :: r => (capsOf r).map ((i, off) :: ·)
  | _ :: _ => none

def evMakeFunc (f : FuncId) (caps : List AV) : Option Res := (capsOf caps).map fun l => valRes (.s (.func f l)) True

theorem capsOf_ok : ∀ (xs : List AV) (l : List (Nat × Nat)), capsOf xs = some l → l.length = xs.length ∧ ∀ (j i off : Nat), l[j]? = some (i, off) → xs[j]? = some (.s (.ptr i off))
  | [], l, h => by simp [capsOf] at h; subst h; exact ⟨rfl, fun j i off hj => by simp at hj⟩
  | .s (.ptr i off) :: r, l, h => by
    simp only [capsOf, Option.map_eq_some_iff] at h
    obtain ⟨l', h1, rfl⟩ := h
    obtain ⟨h2, h3⟩ := capsOf_ok r l' h1
    refine ⟨by simp [h2], fun j i' off' hj => ?_⟩
    cases j with
    | zero => simp at hj; obtain ⟨rfl, rfl⟩ := hj; rfl
    | succ j => simpa using h3 j i' off' (by simpa using hj)
  | .s (.d _) :: _, _, h => by simp [capsOf] at h
  | .s (.eptr _ _ _) :: _, _, h => by simp [capsOf] at h
  | .s (.row _ _ _ _ _) :: _, _, h => by simp [capsOf] at h
  | .s (.func _ _) :: _, _, h => by simp [capsOf] at h
  | .s (.yield _) :: _, _, h => by simp [capsOf] at h
  | .s (.map _) :: _, _, h => by simp [capsOf] at h
  | .s (.upt _ _ _ _) :: _, _, h => by simp [capsOf] at h
  | .s .junk :: _, _, h => by simp [capsOf] at h
  | .agg _ :: _, _, h => by simp [capsOf] at h

theorem evMakeFunc_ok {fn : FuncId} {xs : List AV} {r : Res} (h : evMakeFunc fn xs = some r) (hc : RelC c φ m f a W) {vs : List Value} (hl : vs.length = xs.length)
    (hv : ∀ (j : Nat) (x : AV), xs[j]? = some x → ∃ V : Value, vs[j]? = some V ∧ x.rel φ m V) : Gives P (Instr.makeFunc (.func fn) #[] vs.toArray) c φ m f a W r := by
  unfold evMakeFunc at h
  cases hcap : capsOf xs with
  | none => simp [hcap] at h
  | some l =>
    simp [hcap] at h
    subst h
    obtain ⟨h1, h2⟩ := capsOf_ok xs l hcap
    refine gives_val hc (V := .func (.func fn) #[] vs.toArray) rfl ?_
    refine ⟨vs, rfl, by omega, fun j i off hj => ?_⟩
    obtain ⟨V, h3, b, C, e, h4, rfl⟩ := hv j _ (h2 j i off hj)
    exact ⟨b, C, e, h4, h3⟩

def evExtract (x : AVal) (i : Nat) : Option Res :=
  match x with
  | .tup xs => (xs[i]?).map fun y => valRes y True
  | _ => none

theorem evExtract_ok {x : AVal} {i : Nat} {r : Res} (h : evExtract x i = some r) (hc : RelC c φ m f a W) {V : Value} (hx : x.rel φ m V) : Gives P (Instr.extract V i) c φ m f a W r := by
  unfold evExtract at h
  split at h
  · rename_i xs
    obtain ⟨vs, rfl, hl, hv⟩ := hx
    cases hxi : xs[i]? with
    | none => simp [hxi] at h
    | some y =>
      simp [hxi] at h
      subst h
      obtain ⟨v, h1, h2⟩ := hv i y hxi
      exact gives_val hc (V := v) (by simp [Instr.extract, h1]) h2
  · cases h

def evMin (x y : AV) : Option Res :=
  match x, y with
  | .s (.d (.int k a)), .s (.d (.int k' b)) => some (valRes (dv (.int k (if b < a then b else a))) True)
  | _, _ => none

theorem evMin_ok {x y : AV} {r : Res} (h : evMin x y = some r) (hc : RelC c φ m f a W) {X Y : Value} (hx : x.rel φ m X) (hy : y.rel φ m Y) (ts : Array TypeId) (ty : TypeId) : Gives P (Builtin.min_ ts ty #[X, Y]) c φ m f a W r := by
  unfold evMin at h
  split at h
  · rename_i k p k' q
    injection h with h
    subst h
    simp only [AV.rel, Sc.rel, D.rel] at hx hy
    subst hx; subst hy
    exact gives_val hc (V := .int k (if q < p then q else p)) (by simp [Builtin.min_, Builtin.min2]) (by simp [AV.rel, Sc.rel, D.rel])
  · cases h

def evReal (x : AV) : Option Res := match x with | .s (.d (.complex k a b)) => some (valRes (dv (.float k a)) True) | _ => none
def evImag (x : AV) : Option Res := match x with | .s (.d (.complex k a b)) => some (valRes (dv (.float k b)) True) | _ => none
def evComplex (x y : AV) : Option Res := match x, y with | .s (.d (.float k a)), .s (.d (.float k' b)) => if k = k' then some (valRes (dv (.complex k a b)) True) else none | _, _ => none

theorem evReal_ok {x : AV} {r : Res} (h : evReal x = some r) (hc : RelC c φ m f a W) {X : Value} (hx : x.rel φ m X) (ts : Array TypeId) (ty : TypeId) : Gives P (Builtin.real_ ts ty #[X]) c φ m f a W r := by
  unfold evReal at h
  split at h <;> simp only [Option.some.injEq, reduceCtorEq] at h
  subst h
  simp only [AV.rel, Sc.rel, D.rel] at hx
  subst hx
  exact gives_val hc (V := .float _ _) rfl (by simp [AV.rel, Sc.rel, D.rel])
theorem evImag_ok {x : AV} {r : Res} (h : evImag x = some r) (hc : RelC c φ m f a W) {X : Value} (hx : x.rel φ m X) (ts : Array TypeId) (ty : TypeId) : Gives P (Builtin.imag_ ts ty #[X]) c φ m f a W r := by
  unfold evImag at h
  split at h <;> simp only [Option.some.injEq, reduceCtorEq] at h
  subst h
  simp only [AV.rel, Sc.rel, D.rel] at hx
  subst hx
  exact gives_val hc (V := .float _ _) rfl (by simp [AV.rel, Sc.rel, D.rel])
theorem evComplex_ok {x y : AV} {r : Res} (h : evComplex x y = some r) (hc : RelC c φ m f a W) {X Y : Value} (hx : x.rel φ m X) (hy : y.rel φ m Y) (ts : Array TypeId) (ty : TypeId) : Gives P (Builtin.complex_ ts ty #[X, Y]) c φ m f a W r := by
  unfold evComplex at h
  split at h
  · split at h
    · rename_i e
      subst e
      injection h with h
      subst h
      simp only [AV.rel, Sc.rel, D.rel] at hx hy
      subst hx; subst hy
      exact gives_val hc (V := .complex _ _ _) (run_complex W ts ty _ _ _) (by simp [AV.rel, Sc.rel, D.rel])
    · cases h
  · cases h

/-! ### new rows of noughts -/
def evMakeSlice (T : Tab) (fresh : Nat) (t : TypeId) (x y : AV) : Option Res :=
  match lookN t T, x, y with
  | some ⟨.slice e, _, _, _⟩, .s (.d (.int kl n)), .s (.d (.int kc k)) => (match lookN e T with
    | some te => some ⟨.one (.s (.row fresh te.size 0 n.toNat none)), [], true, [(fresh, .o (.row (List.replicate n.toNat te.zero) e))], n = k ∧ 0 ≤ n ∧ (te.bytes : Int) * n ≤ 281474976710656 ∧ n ≤ 9223372036854775807⟩
    | none => none)
  | _, _, _ => none

theorem evMakeSlice_ok {T : Tab} (hT : TabOk P T) {fresh : Nat} {t : TypeId} {x y : AV} {r : Res} (h : evMakeSlice T fresh t x y = some r) (hob : r.ob) (hrd : r.Reads fresh f) (hc : RelC c φ m f a W) {X Y : Value}
    (hx : x.rel φ m X) (hy : y.rel φ m Y) : Gives P (Instr.makeSlice t X Y) c φ m f a W r := by
  unfold evMakeSlice at h
  split at h
  · rename_i e _ _ _ kl n kc k ht
    simp only [AV.rel, Sc.rel, D.rel] at hx hy
    subst hx; subst hy
    split at h
    · rename_i te hte
      injection h with h
      subst h
      obtain ⟨rfl, o1, o2, o3⟩ := hob
      have hu := (hT.at ht).desc (d := .slice e) (fun d' hd => kindOf_slice hd)
      obtain ⟨i, i1, i2, i3, i4⟩ := (hT.at hte).info'
      have hz := zeroVal_cells (hT.at hte)
      have hzl := (hT.at hte).len
      have hrun := run_make (P := P) W t e i te.zeroVal hu i1 i4 kl kc n n o1 (Int.le_refl _) (by rw [i3]; exact o2) o3
      have hfree := hrd.2 rfl
      have hn := hc.free _ hfree
      have hp : NamesLe φ (updN φ fresh (.blk W.heap.size n.toNat te.size)) := updN_le _ hn
      have hsz : (madeCells te.zeroVal.cells (n.toNat * i.size)).size = n.toNat * te.size := by rw [size_madeCells, i2]
      refine ⟨updN φ fresh (.blk W.heap.size n.toNat te.size), m, _, _, ?_, hp, MemLe.refl m, hrun, ?_⟩
      · rw [wrApp_cons, wrApp_nil]
        refine hc.alloc hfree (.inr ⟨W.heap.size, n.toNat, te.size, _, (0, 0), updN_self _ _ _, heap_new _ _, FrOk.zero _, hsz, by simp, by omega, fun r hr => by rw [List.eq_of_mem_replicate hr]; exact hzl, ?_⟩)
        intro j d hj
        have hrows : ∀ r ∈ List.replicate n.toNat te.zero, r.length = te.size := fun r hr => by rw [List.eq_of_mem_replicate hr]; exact hzl
        have hjl := (List.getElem?_eq_some_iff.1 hj).1
        rw [flatten_len hrows, List.length_replicate] at hjl
        rcases Nat.eq_zero_or_pos te.size with h0 | h0
        · rw [h0] at hjl; simp at hjl
        rw [flatten_get h0 hrows (by simpa using hjl)] at hj
        have hk : j / te.size < n.toNat := (Nat.div_lt_iff_lt_mul h0).2 hjl
        have hrep : (List.replicate n.toNat te.zero).getD (j / te.size) [] = te.zero := by
          rw [List.getD_eq_getElem?_getD, List.getElem?_replicate, if_pos hk]; rfl
        rw [hrep] at hj
        obtain ⟨v, v1, v2⟩ := (zero_rel (hT.at hte) φ m).2 (j % te.size) (.d d) (by rw [List.getElem?_map, hj]; rfl)
        refine ⟨v, ?_, v2⟩
        have hzs : te.zeroVal.cells.size = te.size := by rw [hz]; simpa using hzl
        simp only [madeCells]
        rw [Array.getElem?_map, Array.getElem?_range, if_pos (by rw [i2]; exact hjl)]
        simp only [Option.map_some, hzs, Option.some.injEq]
        rw [hz]
        have hml : j % te.size < (te.zero.map D.val).length := (List.getElem?_eq_some_iff.1 v1).1
        rw [getElem!_pos (te.zero.map D.val).toArray (j % te.size) (by simpa using hml)]
        have := (List.getElem?_eq_some_iff.1 v1).2
        simpa using this
      · exact .inr ⟨W.heap.size, n.toNat, ⟨W.heap.size, 0, none⟩, n.toNat, updN_self _ _ _, rfl, by simp, by omega, Nat.le_refl _, fun _ => by simp, rfl⟩
    · cases h
  · cases h

/-! ### a string over a row's bytes, which nobody writes any more -/
def evSliceData (T : Tab) (H : Heap) (t : TypeId) (x : AV) : Option Res :=
  match lookN t T, x with
  | some ⟨.slice _, _, _, _⟩, .s (.row i e off len cap) => (match H i with
    | some (.row es ty) => some ⟨.one (.s (.upt i e off len)), [(i, .row es ty)], false, [], True⟩
    | _ => none)
  | _, _ => none

def evUStr (T : Tab) (H : Heap) (pt : TypeId) (x y : AV) : Option Res :=
  match lookN pt T, x, y with
  | some ⟨.ptr e, _, _, _⟩, .s (.upt i ee off len), .s (.d (.int .i64 n)) => (match lookN e T, H i with
    | some ⟨.int .u8, 1, _, _⟩, some (.row es ty) => if ty = e then some ⟨.one (dv (.str (unb es))), [(i, .row es ty)], false, [(i, .none)], ee = 1 ∧ off = 0 ∧ len = es.length ∧ n = es.length ∧ es = brow (unb es)⟩ else none
    | _, _ => none)
  | _, _, _ => none

theorem evSliceData_ok {T : Tab} (hT : TabOk P T) {fresh : Nat} {H : Heap} {t ty : TypeId} {eb : TypeId} (htu : P.underlying ty = some (.pointer eb)) {x : AV} {r : Res} (h : evSliceData T H t x = some r) (hrd : r.Reads fresh f) (hc : RelC c φ m f a W) {X : Value} (hx : x.rel φ m X) :
    Gives P (Builtin.unsafeSliceData_ #[t] ty #[X]) c φ m f a W r := by
  unfold evSliceData at h
  split at h
  · rename_i el _ _ _ i e off len cap ht
    split at h
    · rename_i es ety hH
      injection h with h
      subst h
      have hi := hrd.1 _ (List.mem_cons_self ..)
      rcases hx with ⟨h1, rfl, rfl, _, rfl⟩ | ⟨b, C, ad, k, h1, rfl, h3, h4, h5, h6⟩
      · exact ⟨φ, m, W, _, hc, NamesLe.refl φ, MemLe.refl m, Lib.run_unsafeSliceData_nil (P := P) (w := W) _ _ 0 0, _, _, h1, rfl, fun h0 => absurd h0 (Nat.lt_irrefl _)⟩
      · by_cases hk : k = 0
        · subst hk
          obtain ⟨cs, fr, g2, _⟩ := row_cell hc hi h1
          have hl0 : len = 0 := by omega
          subst hl0
          have hsh : W.shape? ad.block = some (ety, cs.size) := by rw [h6.2]; simp [World.shape?, g2]
          have hbel := hc.step (f' := f) (W' := W.alloc (.view ad eb)) (fun _ => False) rfl rfl rfl (by simp) (NamesLe.refl φ) (MemLe.refl m) (fun b hb _ => Below.heap_alloc W _ b hb) (fun _ _ x => x.elim) (fun _ _ x => .inl x)
            (fun i o hi => .inl ⟨hi, fun b C e hb => ⟨id, (hc.own i o b C e hi hb).2.1⟩⟩) hc.inj hc.free (fun _ _ x => x)
          exact ⟨φ, m, _, _, hbel, NamesLe.refl φ, MemLe.refl m, Lib.run_unsafeSliceData_zero (P := P) W _ _ eb htu ad 0 _ hsh, _, _, h1, rfl, fun h0 => absurd h0 (Nat.lt_irrefl _)⟩
        · refine ⟨φ, m, W, _, hc, NamesLe.refl φ, MemLe.refl m, Lib.run_unsafeSliceData_row (P := P) (w := W) _ _ ad len k hk, _, _, h1, rfl, fun _ => ⟨b, C, rfl, by rw [h6.1 hk]⟩⟩
    · cases h
  · cases h

theorem freeze_same {w : World} {a : Addr} {n k : Nat} (h : k ≠ a.block) : (w.freeze a n).heap[k]? = w.heap[k]? := by
  unfold World.freeze
  split
  · rfl
  · simp only [Array.getElem?_modify]
    rw [if_neg (fun e => h e.symm)]

theorem freeze_keeps (w : World) (a : Addr) (n : Nat) : (w.freeze a n).os = w.os ∧ (w.freeze a n).output = w.output ∧ (w.freeze a n).tape = w.tape ∧ (w.freeze a n).heap.size = w.heap.size := by
  unfold World.freeze
  split
  · exact ⟨rfl, rfl, rfl, rfl⟩
  · exact ⟨rfl, rfl, rfl, by simp⟩

theorem RelC.freezeRow (hc : RelC c φ m f a W) {i : Nat} {o : AObj} (hi : f (.h i) = .o o) {b C e : Nat} (hb : φ i = some (.blk b C e)) (ad : Addr) (had : ad.block = b) (n : Nat) : RelC c φ m (upd f (.h i) .none) a (W.freeze ad n) := by
  obtain ⟨k1, k2, k3, k4⟩ := freeze_keeps W ad n
  have hown := hc.own i o b C e hi hb
  refine hc.step (fun k => k = b) k1 k2 k3 (by omega) (NamesLe.refl φ) (MemLe.refl m) (fun k _ hk => freeze_same (by rw [had]; exact hk)) (fun k _ hk => by subst hk; exact ⟨hown.1, hown.2.1⟩) (fun _ _ x => .inl x) ?_ ?_ ?_ ?_
  · intro j o1 hj
    by_cases ej : j = i
    · subst ej; rw [upd_self] at hj; cases hj
    · rw [upd_other (by simpa using ej)] at hj
      refine .inl ⟨hj, fun b1 C1 e1 h1 => ⟨?_, (hc.own j o1 b1 C1 e1 hj h1).2.1⟩⟩
      rintro rfl
      exact ej (hc.inj j i o1 o b1 C1 e1 C e hj hi h1 hb)
  · intro x y o1 o2 b1 C1 e1 C2 e2 hx hy bx by_
    by_cases ex : x = i
    · subst ex; rw [upd_self] at hx; cases hx
    · by_cases ey : y = i
      · subst ey; rw [upd_self] at hy; cases hy
      · rw [upd_other (by simpa using ex)] at hx
        rw [upd_other (by simpa using ey)] at hy
        exact hc.inj x y o1 o2 b1 C1 e1 C2 e2 hx hy bx by_
  · intro j hj
    by_cases ej : j = i
    · subst ej; rw [upd_self] at hj; cases hj
    · rw [upd_other (by simpa using ej)] at hj; exact hc.free j hj
  · intro t v ht
    rwa [upd_other (by simp)] at ht

theorem evUStr_ok {T : Tab} (hT : TabOk P T) {fresh : Nat} {H : Heap} {pt it ty : TypeId} {x y : AV} {r : Res} (h : evUStr T H pt x y = some r) (hob : r.ob) (hrd : r.Reads fresh f) (hc : RelC c φ m f a W) {X Y : Value} (hx : x.rel φ m X) (hy : y.rel φ m Y) :
    Gives P (Builtin.unsafeString_ #[pt, it] ty #[X, Y]) c φ m f a W r := by
  unfold evUStr at h
  split at h
  · rename_i e _ _ _ i ee off len n ht
    split at h
    · rename_i by_ zz es ety hte hH
      split at h
      · rename_i hty
        injection h with h
        subst h
        subst hty
        obtain ⟨rfl, rfl, rfl, rfl, o5⟩ := hob
        simp only [AV.rel, Sc.rel, D.rel] at hy
        subst hy
        obtain ⟨s, p, h1, rfl, h3⟩ := hx
        have hi := hrd.1 _ (List.mem_cons_self ..)
        simp only at hi
        by_cases h0 : es.length = 0
        · have hes : es = [] := List.eq_nil_of_length_eq_zero h0
          subst hes
          refine ⟨φ, m, W, .string .empty, ?_, NamesLe.refl φ, MemLe.refl m, Lib.run_unsafeString_none (P := P) W pt it ty p, ?_⟩
          · rw [wrApp_cons, wrApp_nil]; exact hc.kill _
          · simp [AVal.rel, AV.rel, Sc.rel, D.rel, unb]; rfl
        · obtain ⟨b, C, rfl, rfl⟩ := h3 (by omega)
          obtain ⟨cs, fr, g2, g3, g4, g5, g6, g7, g8, g9⟩ := row_cell hc hi h1
          have hu := (hT.at ht).desc (d := .pointer ety) (fun d' hd => kindOf_ptr hd)
          obtain ⟨j, j1, j2, _⟩ := (hT.at hte).info'
          have hcell : P.cellsOf ety = 1 := by simp [Program.cellsOf, j1, j2]
          have hlen : es.length = (unb es).length := by simp [unb]
          have hrun := Lib.run_unsafeString_row (P := P) W pt it ty ety hu hcell b cs.size (by simp [World.shape?, g2]) (unb es) (fun hz => h0 (by rw [hlen, hz]; rfl)) (by rw [← hlen, g4, Nat.mul_one]; exact g5) (by rw [← hlen]; exact Nat.le_trans g5 g6) (by
            intro j x hj
            have hjl := (List.getElem?_eq_some_iff.1 hj).1
            rw [addr_add]
            have hfl : es.flatten = (unb es).map fun b => D.int .u8 (b.toNat : Int) := by
              conv => lhs; rw [o5]
              exact brow_flat _
            obtain ⟨v, q1, q2⟩ := g8 j (.int .u8 (x.toNat : Int)) (by rw [hfl, List.getElem?_map, hj]; rfl)
            simp only [D.rel] at q2
            rw [cell_heap g2, Nat.zero_add, q1, q2])
          rw [← hlen] at hrun
          refine ⟨φ, m, _, .string ⟨(unb es).toArray⟩, ?_, NamesLe.refl φ, MemLe.refl m, by simpa using hrun, ?_⟩
          · rw [wrApp_cons, wrApp_nil]
            exact hc.freezeRow hi h1 _ (by simp) _
          · simp [AVal.rel, AV.rel, Sc.rel, D.rel]
      · cases h
    · cases h
  · cases h

/-! ### '&&' and '||' -/
def asB : AVal → Option (Bool × Prop)
  | .one (.s (.d (.bool b))) => some (b, True)
  | .opt g (.s (.d (.bool b))) => some (b, g = true)
  | _ => none

def evPick (gc : Bool) (x y z : AVal) : Option Res :=
  match asB x, asB y, asB z with
  | some (b, p), some (u, q), some (v, s) => some (valRes (dv (.bool (bif b then u else v))) ((gc = true → p) ∧ (b = true → gc = true → q) ∧ (b = false → gc = true → s)))
  | _, _, _ => none

theorem asB_ok {x : AVal} {b : Bool} {p : Prop} (h : asB x = some (b, p)) (hp : p) {V : Value} (hx : x.rel φ m V) : V = .bool b := by
  unfold asB at h
  split at h <;> simp only [Option.some.injEq, Prod.mk.injEq, reduceCtorEq] at h <;> obtain ⟨rfl, rfl⟩ := h
  · simpa [AVal.rel, AV.rel, Sc.rel, D.rel] using hx
  · have := hx.1 hp
    simpa [AV.rel, Sc.rel, D.rel] using this

theorem evPick_ok {gc : Bool} (hg : gc = true) {x y z : AVal} {r : Res} (h : evPick gc x y z = some r) (hob : r.ob) (hc : RelC c φ m f a W) {X Y Z : Value} (hx : x.rel φ m X) (hy : y.rel φ m Y) (hz : z.rel φ m Z) :
    Gives P (do pure (if ← asBool X then Y else Z)) c φ m f a W r := by
  unfold evPick at h
  split at h
  · rename_i b p u q v s h1 h2 h3
    injection h with h
    subst h
    obtain ⟨o1, o2, o3⟩ := hob
    have := asB_ok h1 (o1 hg) hx
    subst this
    cases b with
    | true =>
      have := asB_ok h2 (o2 rfl hg) hy
      subst this
      exact gives_val hc (V := .bool u) (by simp [asBool]) (by simp [AV.rel, Sc.rel, D.rel])
    | false =>
      have := asB_ok h3 (o3 rfl hg) hz
      subst this
      exact gives_val hc (V := .bool v) (by simp [asBool]) (by simp [AV.rel, Sc.rel, D.rel])
  · cases h

end
end Go.Proofs.Hg

/- One operation of a region, whatever it is; a region's operations in a row. -/
set_option linter.unusedVariables false
set_option linter.unusedSimpArgs false
namespace Go.Proofs.Hg
open Go.RowKit

/-- A state of the abstract machine, written out. -/
structure St where
  env : List (Nat × AVal)
  heap : List (Nat × AObj)
  nxt : Nat

def St.fn (S : St) : StF
  | .t n => match lookN n S.env with
    | some v => .v v
    | none => .none
  | .h n => match lookN n S.heap with
    | some o => .o o
    | none => if S.nxt ≤ n then .free else .none

def eraseN {α : Type} (i : Nat) : List (Nat × α) → List (Nat × α)
  | [] => []
  | (a, b) :: r => if a = i then eraseN i r else (a, b) :: eraseN i r

def wrHeap : List (Nat × Ent) → List (Nat × AObj) → List (Nat × AObj)
  | [], h => h
  | (i, .o o) :: r, h => (i, o) :: eraseN i (wrHeap r h)
  | (i, _) :: r, h => eraseN i (wrHeap r h)

/-- What functions are known to do: a Go function's number, a fresh name, the heap, the arguments. -/
abbrev Know := Nat → Nat → Heap → List AV → Option Res

def CallGives (P : Program) (g : FuncId) (vals : Array Value) (c : Ctx) (φ : Names) (m : Mem) (f : StF) (a : Act) (W : World) (r : Res) : Prop :=
  ∀ (ro : Option Nat) (n : Nat), CallsIn (wideR ro) n P g vals W fun e W' => ∃ φ' m' V, e = .returned V ∧ RelC c φ' m' (wrApp r.wr f) a W' ∧ NamesLe φ φ' ∧ MemLe m m' ∧ r.val.rel φ' m' V

/-- A call that answers at once (a function without a Go body). -/
def CallNow (P : Program) (g : FuncId) (vals : Array Value) (c : Ctx) (φ : Names) (m : Mem) (f : StF) (a : Act) (W : World) (r : Res) : Prop :=
  ∃ φ' m' W' V, (callFunc g vals).run P W = .ok (.value V) W' ∧ RelC c φ' m' (wrApp r.wr f) a W' ∧ NamesLe φ φ' ∧ MemLe m m' ∧ r.val.rel φ' m' V

def KnowOk (P : Program) (K : Know) : Prop :=
  ∀ (g fresh : Nat) (H : Heap) (args : List AV) (r : Res), K g fresh H args = some r → r.ob → ∀ (c : Ctx) (φ : Names) (m : Mem) (f : StF) (a : Act) (W : World) (vals : List Value), r.Reads fresh f → RelC c φ m f a W →
    vals.length = args.length → (∀ (j : Nat) (x : AV), args[j]? = some x → ∃ V : Value, vals[j]? = some V ∧ x.rel φ m V) →
    ((∀ w, (callFunc g vals.toArray).run P w = .ok (.enter g vals.toArray) w) ∧ CallGives P g vals.toArray c φ m f a W r) ∨ CallNow P g vals.toArray c φ m f a W r

def ofVal : Value → Option AVal
  | .bool b => some (.one (dv (.bool b)))
  | .int k n => some (.one (dv (.int k n)))
  | .float k n => some (.one (dv (.float k n)))
  | .complex k x y => some (.one (dv (.complex k x y)))
  | .string s => some (.one (dv (.str s.data.toList)))
  | .pointer none => some (.one (dv .nilp))
  | .slice none 0 0 => some (.one (dv (.slice (some true) 0 [])))
  | .nilFunc => some (.one (dv .nilf))
  | .map none => some (.one (dv .nilm))
  | .nilIface => some (.one (dv .nili))
  | _ => none

theorem ofVal_ok {v : Value} {x : AVal} (h : ofVal v = some x) (φ : Names) (m : Mem) : x.rel φ m v := by
  unfold ofVal at h
  split at h <;> simp only [Option.some.injEq, reduceCtorEq] at h <;> subst h <;> simp [AVal.rel, AV.rel, Sc.rel, D.rel]

def St.opnd (S : St) : Operand → Option AVal
  | .tmp t => lookN t S.env
  | .const v => ofVal v
  | .func f => some (.one (.s (.func f [])))
  | .global _ => none

/-- An operand's value, where the operation's condition holds. -/
def use (gc : Bool) : AVal → Option (AV × Prop)
  | .one x => some (x, True)
  | .opt g x => some (x, gc = true → g = true)
  | _ => none

def arg (S : St) (gc : Bool) (x : Operand) : Option (AV × Prop) := (S.opnd x).bind (use gc)

def withOb (p : Prop) (r : Res) : Res := { r with ob := p ∧ r.ob }

def arg1 (S : St) (gc : Bool) (x : Operand) (k : AV → Option Res) : Option Res :=
  match arg S gc x with
  | some q => (k q.1).map (withOb q.2)
  | none => none
def arg2 (S : St) (gc : Bool) (x y : Operand) (k : AV → AV → Option Res) : Option Res := arg1 S gc x fun u => arg1 S gc y fun v => k u v
def argO (S : St) (gc : Bool) (x : Option Operand) (k : Option AV → Option Res) : Option Res :=
  match x with
  | none => k none
  | some x => arg1 S gc x fun u => k (some u)
def argL (S : St) (gc : Bool) : List Operand → (List AV → Option Res) → Option Res
  | [], k => k []
  | x :: xs, k => arg1 S gc x fun u => argL S gc xs fun us => k (u :: us)

def St.H (S : St) : Heap := fun i => lookN i S.heap

def evBuiltin (T : Tab) (S : St) (ty : TypeId) (b : Builtin) (argTypes : List TypeId) (args : List AV) : Option Res :=
  match b, argTypes, args with
  | .append, [t, u], [x, y] => evAppend T S.nxt S.H t u x y
  | .len, [t], [x] => evLen T t x
  | .min, _, [x, y] => evMin x y
  | .real, _, [x] => evReal x
  | .imag, _, [x] => evImag x
  | .complex, _, [x, y] => evComplex x y
  | .unsafeSliceData, [t], [x] => match lookN ty T with
    | some ⟨.ptr _, _, _, _⟩ => evSliceData T S.H t x
    | _ => none
  | .unsafeString, [pt, _], [x, y] => evUStr T S.H pt x y
  | _, _, _ => none

def evCall (K : Know) (S : St) (g : AV) (args : List AV) : Option Res :=
  match g with
  | .s (.func f caps) => K f S.nxt S.H (args ++ caps.map fun p => .s (.ptr p.1 p.2))
  | _ => none

def evOp (T : Tab) (K : Know) (S : St) (gc : Bool) (ty : TypeId) (op : Op) : Option Res :=
  match op with
  | .move x => (S.opnd x).map fun v => ⟨v, [], false, [], True⟩
  | .assign x => (S.opnd x).map fun v => ⟨v, [], false, [], True⟩
  | .pick c a b => match S.opnd c, S.opnd a, S.opnd b with
    | some x, some y, some z => evPick gc x y z
    | _, _, _ => none
  | .alloc e => evAlloc T S.nxt e
  | .box e x => arg1 S gc x (evBox S.nxt e)
  | .build t ps => argL S gc (ps.toList.map (·.2)) fun us => evBuild T t ((ps.toList.map (·.1)).zip us)
  | .buildSlice t len ps => argL S gc (ps.toList.map (·.2)) fun us => evBuildSlice T S.nxt S.H t len ((ps.toList.map (·.1)).zip us)
  | .load t p => arg1 S gc p (evLoad T S.H t)
  | .store t p v => arg2 S gc p v (evStore T S.H t)
  | .makeSlice t l k => arg2 S gc l k (evMakeSlice T S.nxt t)
  | .nilCheck x => arg1 S gc x evNilCheck
  | .binOp op t x y _ => arg2 S gc x y (evBinOp T op t)
  | .unOp op _ x => arg1 S gc x (evUn op)
  | .convert s d x => arg1 S gc x (evConvert T S.nxt S.H s d)
  | .makeFunc (.func f) first caps => if first.toList.isEmpty then argL S gc caps.toList (evMakeFunc f) else none
  | .slice t x lo hi mx => arg1 S gc x fun u => argO S gc lo fun l => argO S gc hi fun h => argO S gc mx fun k => evSlice T t u l h k
  | .fieldAddr t x fld => arg1 S gc x fun u => evFieldAddr T t u fld
  | .field t x fld => arg1 S gc x fun u => evField T t u fld
  | .indexAddr t x i => arg2 S gc x i (evIndexAddr T t)
  | .index t x i => arg2 S gc x i (evIndex T t)
  | .extract x i => (S.opnd x).bind fun v => evExtract v i
  | .call { callee := .builtin b, args, argTypes } => argL S gc args.toList (evBuiltin T S ty b argTypes.toList)
  | .call { callee := .value g, args, .. } => arg1 S gc g fun u => argL S gc args.toList (evCall K S u)
  | _ => none

/-- The operands of an operation that the step looks at. -/
def opndsOf : Op → List Operand
  | .call { callee := .value g, args, .. } => g :: args.toList
  | .call { callee := .builtin _, args, .. } => args.toList
  | op => op.operands.toList

def preOf (S : St) (xs : List Operand) : List (Key × Ent) :=
  xs.filterMap fun x => match x with
    | .tmp t => (lookN t S.env).map fun v => (Key.t t, Ent.v v)
    | _ => none

/-- What an operation is found to do. -/
def StepOk (P : Program) (o : Oper) (c : Ctx) (φ : Names) (m : Mem) (f : StF) (a : Act) (W : World) (r : Res) : Prop :=
  (∀ d, o.op ≠ .defer d) ∧
  ((∃ φ' m' W', RelC c φ' m' (wrApp r.wr f) a W' ∧ NamesLe φ φ' ∧ MemLe m m' ∧
      ((∃ V, (execOp a.eval o).run P W = .ok (.value V) W' ∧ r.val.rel φ' m' V) ∨ ((execOp a.eval o).run P W = .ok .skip W' ∧ o.dst = none))) ∨
   (∃ g vals, (execOp a.eval o).run P W = .ok (.enter g vals) W ∧ CallGives P g vals c φ m f a W r))

section
variable {P : Program} {c : Ctx} {φ : Names} {m : Mem} {f : StF} {a : Act} {W : World}

theorem stepOk_gives {o : Oper} {s : Sem Value} {r : Res} (hd : ∀ d, o.op ≠ .defer d) (he : execOp a.eval o = (do pure (Next.value (← s)))) (h : Gives P s c φ m f a W r) : StepOk P o c φ m f a W r := by
  obtain ⟨φ', m', W', V, h1, h2, h3, h4, h5⟩ := h
  refine ⟨hd, .inl ⟨φ', m', W', h1, h2, h3, .inl ⟨V, ?_, h5⟩⟩⟩
  rw [he]
  simp [h4]

/-- The state is what the relation speaks of, as far as the operands go. -/
def Sees (S : St) (xs : List Operand) (f : StF) : Prop := ∀ x ∈ xs, ∀ t v, x = .tmp t → lookN t S.env = some v → f (.t t) = .v v

theorem opnd_ok {S : St} {xs : List Operand} (hs : Sees S xs f) (hc : RelC c φ m f a W) {x : Operand} (hx : x ∈ xs) {v : AVal} (h : S.opnd x = some v) : v.rel φ m (a.eval x) := by
  cases x with
  | tmp t =>
    have := hs _ hx t v rfl h
    obtain ⟨V, h1, h2⟩ := hc.env t v this
    simp [Act.eval, h1]
    exact h2
  | const w => exact ofVal_ok h φ m
  | func g =>
    simp only [St.opnd, Option.some.injEq] at h
    subst h
    exact ⟨[], rfl, rfl, fun j i off hj => by simp at hj⟩
  | global g => simp [St.opnd] at h

theorem use_ok {gc : Bool} (hg : gc = true) {x : AVal} {u : AV} {p : Prop} (h : use gc x = some (u, p)) (hp : p) {V : Value} (hx : x.rel φ m V) : u.rel φ m V := by
  unfold use at h
  split at h <;> simp only [Option.some.injEq, Prod.mk.injEq, reduceCtorEq] at h <;> obtain ⟨rfl, rfl⟩ := h
  · exact hx
  · exact hx.1 (hp hg)

theorem arg_ok {S : St} {gc : Bool} (hg : gc = true) {xs : List Operand} (hs : Sees S xs f) (hc : RelC c φ m f a W) {x : Operand} (hx : x ∈ xs) {u : AV} {p : Prop} (h : arg S gc x = some (u, p)) (hp : p) : u.rel φ m (a.eval x) := by
  unfold arg at h
  cases hv : S.opnd x with
  | none => simp [hv] at h
  | some v =>
    simp [hv] at h
    exact use_ok hg h hp (opnd_ok hs hc hx hv)

theorem arg1_ok {S : St} {gc : Bool} (hg : gc = true) {xs : List Operand} (hs : Sees S xs f) (hc : RelC c φ m f a W) {x : Operand} (hx : x ∈ xs) {k : AV → Option Res} {r : Res} (h : arg1 S gc x k = some r) (hob : r.ob) :
    ∃ u r', k u = some r' ∧ r'.ob ∧ u.rel φ m (a.eval x) ∧ r'.val = r.val ∧ r'.rd = r.rd ∧ r'.fr = r.fr ∧ r'.wr = r.wr := by
  unfold arg1 at h
  cases hv : arg S gc x with
  | none => simp [hv] at h
  | some q =>
    simp only [hv, Option.map_eq_some_iff] at h
    obtain ⟨r', h1, rfl⟩ := h
    exact ⟨q.1, r', h1, hob.2, arg_ok hg hs hc hx (p := q.2) hv hob.1, rfl, rfl, rfl, rfl⟩

theorem argL_ok {S : St} {gc : Bool} (hg : gc = true) {xs : List Operand} (hs : Sees S xs f) (hc : RelC c φ m f a W) : ∀ (l : List Operand), (∀ x ∈ l, x ∈ xs) → ∀ {k : List AV → Option Res} {r : Res}, argL S gc l k = some r → r.ob →
    ∃ us r', k us = some r' ∧ r'.ob ∧ us.length = l.length ∧ (∀ (j : Nat) (x : AV), us[j]? = some x → ∃ y, l[j]? = some y ∧ x.rel φ m (a.eval y)) ∧ r'.val = r.val ∧ r'.rd = r.rd ∧ r'.fr = r.fr ∧ r'.wr = r.wr
  | [], _, k, r, h, hob => ⟨[], r, h, hob, rfl, fun j x hj => by simp at hj, rfl, rfl, rfl, rfl⟩
  | x :: l, hx, k, r, h, hob => by
    obtain ⟨u, r', h1, h2, h3, e1, e2, e3, e4⟩ := arg1_ok hg hs hc (hx x (List.mem_cons_self ..)) h hob
    obtain ⟨us, r2, g1, g2, g3, g4, f1, f2, f3, f4⟩ := argL_ok hg hs hc l (fun y hy => hx y (List.mem_cons_of_mem _ hy)) h1 h2
    refine ⟨u :: us, r2, g1, g2, by simp [g3], fun j y hj => ?_, f1.trans e1, f2.trans e2, f3.trans e3, f4.trans e4⟩
    cases j with
    | zero => simp at hj; subst hj; exact ⟨x, rfl, h3⟩
    | succ j => simpa using g4 j y (by simpa using hj)

theorem argO_ok {S : St} {gc : Bool} (hg : gc = true) {xs : List Operand} (hs : Sees S xs f) (hc : RelC c φ m f a W) {x : Option Operand} (hx : ∀ y, x = some y → y ∈ xs) {k : Option AV → Option Res} {r : Res} (h : argO S gc x k = some r) (hob : r.ob) :
    ∃ u r', k u = some r' ∧ r'.ob ∧ optRel φ m u (x.map a.eval) ∧ r'.val = r.val ∧ r'.rd = r.rd ∧ r'.fr = r.fr ∧ r'.wr = r.wr := by
  cases x with
  | none => exact ⟨none, r, h, hob, trivial, rfl, rfl, rfl, rfl⟩
  | some x =>
    obtain ⟨u, r', h1, h2, h3, e⟩ := arg1_ok hg hs hc (hx x rfl) (k := fun u => k (some u)) h hob
    exact ⟨some u, r', h1, h2, h3, e⟩

end
end Go.Proofs.Hg

/- Every operation that the abstract machine takes is one that the model carries out so. -/
set_option linter.unusedVariables false
set_option linter.unusedSimpArgs false
namespace Go.Proofs.Hg
open Go.RowKit

section
variable {P : Program} {c : Ctx} {φ : Names} {m : Mem} {f : StF} {a : Act} {W : World}

theorem gives_re {s : Sem Value} {r r' : Res} (h : Gives P s c φ m f a W r') (e1 : r'.val = r.val) (e4 : r'.wr = r.wr) : Gives P s c φ m f a W r := by
  obtain ⟨φ', m', W', V, h1, h2, h3, h4, h5⟩ := h
  exact ⟨φ', m', W', V, e4 ▸ h1, h2, h3, h4, e1 ▸ h5⟩

theorem reads_re {r r' : Res} {fr : Nat} (h : r.Reads fr f) (e2 : r'.rd = r.rd) (e3 : r'.fr = r.fr) : r'.Reads fr f := ⟨fun p hp => h.1 p (e2 ▸ hp), fun hf => h.2 (e3 ▸ hf)⟩

theorem callGives_re {g : FuncId} {vals : Array Value} {r r' : Res} (h : CallGives P g vals c φ m f a W r') (e1 : r'.val = r.val) (e4 : r'.wr = r.wr) : CallGives P g vals c φ m f a W r := by
  intro ro n
  refine (h ro n).mono ?_
  rintro e W' ⟨φ', m', V, h1, h2, h3, h4, h5⟩
  exact ⟨φ', m', V, h1, e4 ▸ h2, h3, h4, e1 ▸ h5⟩

theorem opndsOf_eq {op : Op} (h : ∀ c, op ≠ .call c) : opndsOf op = op.operands.toList := by
  cases op <;> first | rfl | exact absurd rfl (h _)

theorem zip_parts {ps : List (Nat × Operand)} {us : List AV} (hl : us.length = (ps.map (·.2)).length) (hu : ∀ (j : Nat) (x : AV), us[j]? = some x → ∃ y, (ps.map (·.2))[j]? = some y ∧ x.rel φ m (a.eval y)) :
    (ps.map fun p => (p.1, a.eval p.2)).length = ((ps.map (·.1)).zip us).length ∧
    ∀ (j : Nat) (p : Nat × AV), ((ps.map (·.1)).zip us)[j]? = some p → ∃ V : Value, (ps.map fun p => (p.1, a.eval p.2))[j]? = some (p.1, V) ∧ p.2.rel φ m V := by
  refine ⟨by simp at hl ⊢; omega, fun j p hj => ?_⟩
  rw [List.getElem?_zip_eq_some] at hj
  obtain ⟨h1, h2⟩ := hj
  obtain ⟨y, h3, h4⟩ := hu j p.2 h2
  rw [List.getElem?_map] at h1 h3
  cases hp : ps[j]? with
  | none => simp [hp] at h1
  | some q =>
    simp [hp] at h1 h3
    exact ⟨a.eval q.2, by simp [hp, h1], h3 ▸ h4⟩

theorem eqGuard_plain {b : BinOp} {t : TypeId} {x y : Operand} {X Y : Value} (h1 : ∀ xs ys, ¬ (X = .agg xs ∧ Y = .agg ys)) (h2 : ¬ (X = .nilIface ∧ Y = .nilIface)) : (eqGuard b t x y X Y).run P W = .ok () W := by
  cases b <;> first | rfl | (cases X <;> cases Y <;> first | rfl | exact absurd ⟨rfl, rfl⟩ h2 | exact absurd ⟨rfl, rfl⟩ (h1 _ _))

theorem evBinOp_nili (T : Tab) (op : BinOp) (t : TypeId) (x : Sc) : evBinOp T op t (.s x) (.s (.d .nili)) = none := by
  have h0 : evBinOp T op t (.s x) (.s (.d .nili)) = (match lookN t T with
    | some ⟨.bool, _, _, _⟩ => none
    | some ⟨.ptr _, _, _, _⟩ => none
    | some ⟨.slice _, _, _, _⟩ => none
    | _ => none) := by
    have hb : evBinD op x .nili = none := by
      cases x <;> try rfl
      rename_i d
      cases d <;> rfl
    cases x <;> (simp only [evBinOp, hb, litP, litS, Bool.false_eq_true, if_false]; (repeat' split) <;> first | rfl | simp_all)
  rw [h0]
  (repeat' split) <;> rfl

theorem evOp_ok {T : Tab} (hT : TabOk P T) {K : Know} (hK : KnowOk P K) {S : St} {gc : Bool} (hg : gc = true) {o : Oper} {r : Res} (h : evOp T K S gc o.type o.op = some r) (hob : r.ob) (hrd : r.Reads S.nxt f)
    (hs : Sees S (opndsOf o.op) f) (hc : RelC c φ m f a W) (hdst : (∃ t p v, o.op = .store t p v) → o.dst = none) : StepOk P o c φ m f a W r := by
  obtain ⟨dst, op, type, pos, after, guard⟩ := o
  simp only at h hs hdst
  cases op <;> simp only [evOp, reduceCtorEq] at h
  case move x =>
    cases hv : S.opnd x with
    | none => simp [hv] at h
    | some v =>
      simp [hv] at h
      subst h
      exact stepOk_gives (s := pure (a.eval x)) (by simp) rfl ⟨φ, m, W, _, hc, NamesLe.refl φ, MemLe.refl m, rfl, opnd_ok hs hc (by simp [opndsOf, Op.operands]) hv⟩
  case assign x =>
    cases hv : S.opnd x with
    | none => simp [hv] at h
    | some v =>
      simp [hv] at h
      subst h
      exact stepOk_gives (s := pure (a.eval x)) (by simp) rfl ⟨φ, m, W, _, hc, NamesLe.refl φ, MemLe.refl m, rfl, opnd_ok hs hc (by simp [opndsOf, Op.operands]) hv⟩
  case pick x y z =>
    split at h
    · rename_i u v w h1 h2 h3
      have hx := opnd_ok hs hc (x := x) (by simp [opndsOf, Op.operands]) h1
      have hy := opnd_ok hs hc (x := y) (by simp [opndsOf, Op.operands]) h2
      have hz := opnd_ok hs hc (x := z) (by simp [opndsOf, Op.operands]) h3
      have hgv := evPick_ok (P := P) hg h hob hc hx hy hz
      refine stepOk_gives (by simp) ?_ hgv
      simp only [execOp]
      cases hb : a.eval x <;> simp [asBool] <;> rfl
    · cases h
  case alloc e => exact stepOk_gives (by simp) rfl (evAlloc_ok hT h hrd hc)
  case box e x =>
    obtain ⟨u, r', h1, h2, h3, e1, e2, e3, e4⟩ := arg1_ok hg hs hc (by simp [opndsOf, Op.operands]) h hob
    exact stepOk_gives (by simp) rfl (gives_re (evBox_ok h1 (reads_re hrd e2 e3) hc h3) e1 e4)
  case build t ps =>
    obtain ⟨us, r', h1, h2, h3, h4, e1, e2, e3, e4⟩ := argL_ok hg hs hc _ (fun x hx => by simpa [opndsOf, Op.operands] using hx) h hob
    obtain ⟨z1, z2⟩ := zip_parts h3 h4
    refine stepOk_gives (by simp) ?_ (gives_re (evBuild_ok hT h1 h2 hc z1 z2) e1 e4)
    simp only [execOp]
    congr 2
    apply Array.ext'
    simp
  case buildSlice t len ps =>
    obtain ⟨us, r', h1, h2, h3, h4, e1, e2, e3, e4⟩ := argL_ok hg hs hc _ (fun x hx => by simpa [opndsOf, Op.operands] using hx) h hob
    obtain ⟨z1, z2⟩ := zip_parts h3 h4
    refine stepOk_gives (by simp) ?_ (gives_re (evBuildSlice_ok hT h1 h2 (reads_re hrd e2 e3) hc z1 z2) e1 e4)
    simp only [execOp]
    congr 2
    apply Array.ext'
    simp
  case load t p =>
    obtain ⟨u, r', h1, h2, h3, e1, e2, e3, e4⟩ := arg1_ok hg hs hc (by simp [opndsOf, Op.operands]) h hob
    exact stepOk_gives (by simp) rfl (gives_re (evLoad_ok hT h1 h2 (reads_re hrd e2 e3) hc h3) e1 e4)
  case store t p v =>
    obtain ⟨u, r1, h1, h2, h3, e1, e2, e3, e4⟩ := arg1_ok hg hs hc (by simp [opndsOf, Op.operands]) h hob
    obtain ⟨u2, r2, g1, g2, g3, d1, d2, d3, d4⟩ := arg1_ok hg hs hc (by simp [opndsOf, Op.operands]) h1 h2
    obtain ⟨φ', m', W', k1, k2, k3, k4, k5⟩ := evStore_ok (P := P) hT g1 g2 (reads_re hrd (d2.trans e2) (d3.trans e3)) hc h3 g3
    refine ⟨by simp, .inl ⟨φ', m', W', (d4.trans e4) ▸ k1, k2, k3, .inr ⟨?_, hdst ⟨t, p, v, rfl⟩⟩⟩⟩
    simp only [execOp, Sem.run_bind, k4, Result.andThen]
    rfl
  case makeSlice t l k =>
    obtain ⟨u, r1, h1, h2, h3, e1, e2, e3, e4⟩ := arg1_ok hg hs hc (by simp [opndsOf, Op.operands]) h hob
    obtain ⟨u2, r2, g1, g2, g3, d1, d2, d3, d4⟩ := arg1_ok hg hs hc (by simp [opndsOf, Op.operands]) h1 h2
    exact stepOk_gives (by simp) rfl (gives_re (evMakeSlice_ok hT g1 g2 (reads_re hrd (d2.trans e2) (d3.trans e3)) hc h3 g3) (d1.trans e1) (d4.trans e4))
  case nilCheck x =>
    obtain ⟨u, r', h1, h2, h3, e1, e2, e3, e4⟩ := arg1_ok hg hs hc (by simp [opndsOf, Op.operands]) h hob
    obtain ⟨k1, k2⟩ := evNilCheck_ok (P := P) (W := W) h1 h3
    subst k1
    refine ⟨by simp, .inl ⟨φ, m, W, ?_, NamesLe.refl φ, MemLe.refl m, .inl ⟨a.eval x, k2, ?_⟩⟩⟩
    · rw [← e4]; exact hc
    · rw [← e1]; exact h3
  case binOp b t x y ty =>
    obtain ⟨u, r1, h1, h2, h3, e1, e2, e3, e4⟩ := arg1_ok hg hs hc (by simp [opndsOf, Op.operands]) h hob
    obtain ⟨u2, r2, g1, g2, g3, d1, d2, d3, d4⟩ := arg1_ok hg hs hc (by simp [opndsOf, Op.operands]) h1 h2
    have hgv := evBinOp_ok (P := P) hT g1 g2 hc h3 g3
    refine stepOk_gives (s := (do eqGuard b t x y (a.eval x) (a.eval y); binOp b t (a.eval x) (a.eval y))) (by simp) rfl (gives_re ?_ (d1.trans e1) (d4.trans e4))
    obtain ⟨φ', m', W', V, k1, k2, k3, k4, k5⟩ := hgv
    refine ⟨φ', m', W', V, k1, k2, k3, ?_, k5⟩
    have heq : (eqGuard b t x y (a.eval x) (a.eval y)).run P W = .ok () W := by
      have g0 := g1
      unfold evBinOp at g1
      split at g1
      · obtain ⟨_, _, _, _, hy⟩ := g3
        refine eqGuard_plain ?_ ?_
        · rintro xs ys ⟨_, h9⟩
          rw [h9] at hy
          cases hy
        · rintro ⟨_, h9⟩
          rw [h9] at hy
          cases hy
      · split at g1
        · rename_i fs _ _ _ ht
          obtain ⟨vs, hX, _⟩ := h3
          obtain ⟨us, hY, _⟩ := g3
          have hext := (hT.at ht).ext
          simp only [extraOk, Bool.and_eq_true, Bool.not_eq_true'] at hext
          rw [hX, hY]
          exact run_eqGuard_agg W b t x y _ _ hext.2.1.2
        · cases g1
      · rename_i p q
        change q.rel m _ at g3
        refine eqGuard_plain ?_ ?_
        · rintro xs ys ⟨_, hy⟩
          rw [hy] at g3
          cases q <;> simp [D.rel] at g3
        · rintro ⟨hx9, hy⟩
          rw [hy] at g3
          cases q <;> simp [D.rel] at g3
          rw [evBinOp_nili] at g0
          cases g0
      · cases g1
    simp only [Sem.run_bind, heq, Result.andThen, k4]
  case unOp b t x =>
    obtain ⟨u, r', h1, h2, h3, e1, e2, e3, e4⟩ := arg1_ok hg hs hc (by simp [opndsOf, Op.operands]) h hob
    exact stepOk_gives (by simp) rfl (gives_re (evUn_ok h1 h2 hc h3) e1 e4)
  case convert s d x =>
    obtain ⟨u, r', h1, h2, h3, e1, e2, e3, e4⟩ := arg1_ok hg hs hc (by simp [opndsOf, Op.operands]) h hob
    exact stepOk_gives (by simp) rfl (gives_re (evConvert_ok hT h1 h2 (reads_re hrd e2 e3) hc h3) e1 e4)
  case makeFunc fn first caps =>
    cases fn <;> simp only [reduceCtorEq] at h
    rename_i g
    split at h
    · rename_i hfi
      obtain ⟨us, r', h1, h2, h3, h4, e1, e2, e3, e4⟩ := argL_ok hg hs hc _ (fun x hx => by simp [opndsOf, Op.operands]; exact .inr (by simpa using hx)) h hob
      have hf0 : first = #[] := by
        have : first.toList = [] := by simpa using hfi
        simpa using this
      subst hf0
      refine stepOk_gives (s := Instr.makeFunc (.func g) #[] (caps.toList.map a.eval).toArray) (by simp) ?_ (gives_re (evMakeFunc_ok h1 hc (by simp [h3]) (fun j x hj => ?_)) e1 e4)
      · have hm : caps.map a.eval = (caps.toList.map a.eval).toArray := by apply Array.ext'; simp
        have h0 : (#[] : Array Operand).map a.eval = #[] := by simp
        simp only [execOp, hm, h0]
      · obtain ⟨y, hy1, hy2⟩ := h4 j x hj
        exact ⟨a.eval y, by rw [List.getElem?_map, hy1]; rfl, hy2⟩
    · cases h
  case slice t x lo hi mx =>
    obtain ⟨u, r1, h1, h2, h3, e1, e2, e3, e4⟩ := arg1_ok hg hs hc (by simp [opndsOf, Op.operands]) h hob
    obtain ⟨u2, r2, g1, g2, g3, d1, d2, d3, d4⟩ := argO_ok hg hs hc (fun y hy => by subst hy; simp [opndsOf, Op.operands]) h1 h2
    obtain ⟨u3, r3, i1, i2, i3, b1, b2, b3, b4⟩ := argO_ok hg hs hc (fun y hy => by subst hy; simp [opndsOf, Op.operands]) g1 g2
    obtain ⟨u4, r4, j1, j2, j3, c1, c2, c3, c4⟩ := argO_ok hg hs hc (fun y hy => by subst hy; simp [opndsOf, Op.operands]) i1 i2
    exact stepOk_gives (by simp) rfl (gives_re (evSlice_ok hT j1 j2 hc h3 g3 i3 j3) (c1.trans (b1.trans (d1.trans e1))) (c4.trans (b4.trans (d4.trans e4))))
  case fieldAddr t x fld =>
    obtain ⟨u, r', h1, h2, h3, e1, e2, e3, e4⟩ := arg1_ok hg hs hc (by simp [opndsOf, Op.operands]) h hob
    exact stepOk_gives (by simp) rfl (gives_re (evFieldAddr_ok hT h1 hc h3) e1 e4)
  case field t x fld =>
    obtain ⟨u, r', h1, h2, h3, e1, e2, e3, e4⟩ := arg1_ok hg hs hc (by simp [opndsOf, Op.operands]) h hob
    exact stepOk_gives (by simp) rfl (gives_re (evField_ok hT h1 h2 hc h3) e1 e4)
  case indexAddr t x i =>
    obtain ⟨u, r1, h1, h2, h3, e1, e2, e3, e4⟩ := arg1_ok hg hs hc (by simp [opndsOf, Op.operands]) h hob
    obtain ⟨u2, r2, g1, g2, g3, d1, d2, d3, d4⟩ := arg1_ok hg hs hc (by simp [opndsOf, Op.operands]) h1 h2
    exact stepOk_gives (by simp) rfl (gives_re (evIndexAddr_ok hT g1 g2 hc h3 g3) (d1.trans e1) (d4.trans e4))
  case index t x i =>
    obtain ⟨u, r1, h1, h2, h3, e1, e2, e3, e4⟩ := arg1_ok hg hs hc (by simp [opndsOf, Op.operands]) h hob
    obtain ⟨u2, r2, g1, g2, g3, d1, d2, d3, d4⟩ := arg1_ok hg hs hc (by simp [opndsOf, Op.operands]) h1 h2
    exact stepOk_gives (by simp) rfl (gives_re (evIndex_ok hT g1 g2 hc h3 g3) (d1.trans e1) (d4.trans e4))
  case extract x i =>
    cases hv : S.opnd x with
    | none => simp [hv] at h
    | some v =>
      simp [hv] at h
      exact stepOk_gives (by simp) rfl (evExtract_ok h hc (opnd_ok hs hc (by simp [opndsOf, Op.operands]) hv))
  case call cl =>
    obtain ⟨callee, args, argTypes⟩ := cl
    cases callee <;> simp only [reduceCtorEq] at h
    case builtin b =>
      obtain ⟨us, r', h1, h2, h3, h4, e1, e2, e3, e4⟩ := argL_ok hg hs hc _ (fun x hx => by simpa [opndsOf] using hx) h hob
      have hargs : args.map a.eval = (args.toList.map a.eval).toArray := by apply Array.ext'; simp
      unfold evBuiltin at h1
      split at h1
      · rename_i t u x y hat
        obtain ⟨y1, hy1, hy2⟩ := h4 0 x rfl
        obtain ⟨y2, hz1, hz2⟩ := h4 1 y rfl
        have hl : args.toList = [y1, y2] := by
          match hq : args.toList, h3, hy1, hz1 with
          | [p, q], _, hy1, hz1 => simp [hq] at hy1 hz1; rw [hy1, hz1]
        have hat' : argTypes = #[t, u] := by rw [← Array.toArray_toList (xs := argTypes), hat]
        refine stepOk_gives (s := Builtin.append_ #[t, u] type #[a.eval y1, a.eval y2]) (by simp) ?_ (gives_re (evAppend_ok hT h1 h2 (reads_re hrd e2 e3) hc hy2 hz2) e1 e4)
        simp only [execOp, resolve, hargs, hl, hat']
        rfl
      · rename_i t x hat
        obtain ⟨y1, hy1, hy2⟩ := h4 0 x rfl
        have hl : args.toList = [y1] := by
          match hq : args.toList, h3, hy1 with
          | [p], _, hy1 => simp [hq] at hy1; rw [hy1]
        have hat' : argTypes = #[t] := by rw [← Array.toArray_toList (xs := argTypes), hat]
        refine stepOk_gives (s := Builtin.len_ #[t] type #[a.eval y1]) (by simp) ?_ (gives_re (evLen_ok hT h1 hc hy2) e1 e4)
        simp only [execOp, resolve, hargs, hl, hat']
        rfl
      · rename_i x y
        obtain ⟨y1, hy1, hy2⟩ := h4 0 x rfl
        obtain ⟨y2, hz1, hz2⟩ := h4 1 y rfl
        have hl : args.toList = [y1, y2] := by
          match hq : args.toList, h3, hy1, hz1 with
          | [p, q], _, hy1, hz1 => simp [hq] at hy1 hz1; rw [hy1, hz1]
        refine stepOk_gives (s := Builtin.min_ argTypes type #[a.eval y1, a.eval y2]) (by simp) ?_ (gives_re (evMin_ok h1 hc hy2 hz2 _ _) e1 e4)
        simp only [execOp, resolve, hargs, hl]
        rfl
      · rename_i x
        obtain ⟨y1, hy1, hy2⟩ := h4 0 x rfl
        have hl : args.toList = [y1] := by
          match hq : args.toList, h3, hy1 with
          | [p], _, hy1 => simp [hq] at hy1; rw [hy1]
        refine stepOk_gives (s := Builtin.real_ argTypes type #[a.eval y1]) (by simp) ?_ (gives_re (evReal_ok h1 hc hy2 _ _) e1 e4)
        simp only [execOp, resolve, hargs, hl]
        rfl
      · rename_i x
        obtain ⟨y1, hy1, hy2⟩ := h4 0 x rfl
        have hl : args.toList = [y1] := by
          match hq : args.toList, h3, hy1 with
          | [p], _, hy1 => simp [hq] at hy1; rw [hy1]
        refine stepOk_gives (s := Builtin.imag_ argTypes type #[a.eval y1]) (by simp) ?_ (gives_re (evImag_ok h1 hc hy2 _ _) e1 e4)
        simp only [execOp, resolve, hargs, hl]
        rfl
      · rename_i x y
        obtain ⟨y1, hy1, hy2⟩ := h4 0 x rfl
        obtain ⟨y2, hz1, hz2⟩ := h4 1 y rfl
        have hl : args.toList = [y1, y2] := by
          match hq : args.toList, h3, hy1, hz1 with
          | [p, q], _, hy1, hz1 => simp [hq] at hy1 hz1; rw [hy1, hz1]
        refine stepOk_gives (s := Builtin.complex_ argTypes type #[a.eval y1, a.eval y2]) (by simp) ?_ (gives_re (evComplex_ok h1 hc hy2 hz2 _ _) e1 e4)
        simp only [execOp, resolve, hargs, hl]
        rfl
      · rename_i t x hat
        obtain ⟨y1, hy1, hy2⟩ := h4 0 x rfl
        have hl : args.toList = [y1] := by
          match hq : args.toList, h3, hy1 with
          | [p], _, hy1 => simp [hq] at hy1; rw [hy1]
        have hat' : argTypes = #[t] := by rw [← Array.toArray_toList (xs := argTypes), hat]
        split at h1
        · rename_i eb _ _ _ hty
          refine stepOk_gives (s := Builtin.unsafeSliceData_ #[t] type #[a.eval y1]) (by simp) ?_ (gives_re (evSliceData_ok hT ((hT.at hty).desc (d := .pointer eb) (fun d' hd => kindOf_ptr hd)) h1 (reads_re hrd e2 e3) hc hy2) e1 e4)
          simp only [execOp, resolve, hargs, hl, hat']
          rfl
        · cases h1
      · rename_i pt it x y hat
        obtain ⟨y1, hy1, hy2⟩ := h4 0 x rfl
        obtain ⟨y2, hz1, hz2⟩ := h4 1 y rfl
        have hl : args.toList = [y1, y2] := by
          match hq : args.toList, h3, hy1, hz1 with
          | [p, q], _, hy1, hz1 => simp [hq] at hy1 hz1; rw [hy1, hz1]
        have hat' : argTypes = #[pt, it] := by rw [← Array.toArray_toList (xs := argTypes), hat]
        refine stepOk_gives (s := Builtin.unsafeString_ #[pt, it] type #[a.eval y1, a.eval y2]) (by simp) ?_ (gives_re (evUStr_ok hT h1 h2 (reads_re hrd e2 e3) hc hy2 hz2) e1 e4)
        simp only [execOp, resolve, hargs, hl, hat']
        rfl
      · cases h1
    case value g =>
      obtain ⟨u, r1, h1, h2, h3, e1, e2, e3, e4⟩ := arg1_ok hg hs hc (x := g) (by simp [opndsOf]) h hob
      obtain ⟨us, r2, g1, g2, g3, g4, d1, d2, d3, d4⟩ := argL_ok hg hs hc _ (fun x hx => by simp only [opndsOf, List.mem_cons]; exact .inr hx) h1 h2
      unfold evCall at g1
      have hasz : args.toList.length = args.size := by simp
      split at g1
      · rename_i fn caps
        obtain ⟨vs, hv, hvl, hvc⟩ := h3
        have hcall := hK fn S.nxt S.H _ r2 g1 g2 c φ m f a W (args.toList.map a.eval ++ vs) (reads_re hrd (d2.trans e2) (d3.trans e3)) hc (by simp [g3, hvl]) (fun j x hj => by
          rw [List.getElem?_append] at hj
          split at hj
          · rename_i hjl
            obtain ⟨y, hy1, hy2⟩ := g4 j x hj
            refine ⟨a.eval y, ?_, hy2⟩
            rw [List.getElem?_append_left (by simp; omega), List.getElem?_map, hy1]
            rfl
          · rename_i hjl
            rw [List.getElem?_map] at hj
            cases hcap : caps[j - us.length]? with
            | none => simp [hcap] at hj
            | some p =>
              simp [hcap] at hj
              subst hj
              obtain ⟨b, C, e, hb, hvj⟩ := hvc (j - us.length) p.1 p.2 (by simpa using hcap)
              refine ⟨_, ?_, b, C, e, hb, rfl⟩
              rw [List.getElem?_append_right (by simp; omega)]
              simp only [List.length_map]
              rw [← g3]
              exact hvj)
        have hargs : args.map a.eval = (args.toList.map a.eval).toArray := by apply Array.ext'; simp
        have hex : ∀ w, (execOp a.eval ⟨dst, .call { callee := .value g, args, argTypes }, type, pos, after, guard⟩).run P w = (callFunc fn (args.toList.map a.eval ++ vs).toArray).run P w := by
          intro w
          simp only [execOp, resolve, Deferred.ofValue, hv, hargs, Sem.run_bind, Sem.run_pure, Result.andThen, invoke, List.append_toArray, List.nil_append, Array.empty_append]
        rcases hcall with ⟨k1, k2⟩ | ⟨φ', m', W', V, k1, k2, k3, k4, k5⟩
        · exact ⟨by simp, .inr ⟨fn, _, (hex W).trans (k1 W), callGives_re k2 (d1.trans e1) (d4.trans e4)⟩⟩
        · exact ⟨by simp, .inl ⟨φ', m', W', (d4.trans e4) ▸ k2, k3, k4, .inl ⟨V, (hex W).trans k1, (d1.trans e1) ▸ k5⟩⟩⟩
      · cases g1

end
end Go.Proofs.Hg

/- A region of the abstract machine: its operations in the text's order, the steps that they take, what is owed. -/
set_option linter.unusedVariables false
set_option linter.unusedSimpArgs false
namespace Go.Proofs.Hg
open Go.RowKit

/-- Under which condition is an operation carried out? -/
def guardOf (S : St) (gd : Nat → Option Tmp) : Option (Nat × Bool) → Option (Bool × Option (Key × Ent))
  | none => some (true, none)
  | some (j, want) => match gd j with
    | some t => (match lookN t S.env with
      | some (.one (.s (.d (.bool b)))) => some (bif want then b else !b, some (.t t, .v (.one (.s (.d (.bool b))))))
      | some (.opt g (.s (.d (.bool b)))) => some (g && (bif want then b else !b), some (.t t, .v (.opt g (.s (.d (.bool b))))))
      | _ => none)
    | none => none

/-- A value that is there only where the condition holds. -/
def under (guarded : Bool) (gc : Bool) (v : AVal) : AVal :=
  if guarded then (match v with
    | .one x => .opt gc x
    | .opt g x => .opt (gc && g) x
    | _ => .junk)
  else v

def obUnder (guarded : Bool) (gc : Bool) (wr : List (Nat × Ent)) (ob : Prop) : Prop :=
  if guarded then (match wr with
    | [] => gc = true → ob
    | _ => gc = true ∧ ob)
  else ob

def dstPost (dst : Option Tmp) (v : AVal) : List (Key × Ent) :=
  match dst with
  | some d => [(.t d, .v v)]
  | none => []

def isStore : Op → Bool
  | .store _ _ _ => true
  | _ => false

structure Step where
  lt : LT
  next : St
  ob : Prop

def freeIf (b : Bool) (n : Nat) : List (Key × Ent) := if b then [(.h n, .free)] else []
def nxtIf (b : Bool) (n : Nat) : Nat := if b then n + 1 else n
def guardPre : Option (Key × Ent) → List (Key × Ent)
  | some e => [e]
  | none => []

def stepOp (T : Tab) (K : Know) (N : Nat) (gd : Nat → Option Tmp) (S : St) (o : Oper) : Option Step :=
  match guardOf S gd o.guard with
  | none => none
  | some (gc, gk) => match evOp T K S gc o.type o.op with
    | none => none
    | some r =>
      let v := under gk.isSome gc r.val
      if (isStore o.op && o.dst.isSome) || !(o.dst.all (fun d => decide (d < N))) || (lookN S.nxt S.heap).isSome then none else
      some { lt := ⟨guardPre gk ++ preOf S (opndsOf o.op) ++ r.rd.map (fun p => (Key.h p.1, Ent.o p.2)) ++ freeIf r.fr S.nxt, dstPost o.dst v ++ wrPost r.wr⟩
             next := ⟨match o.dst with | some d => (d, v) :: S.env | none => S.env, wrHeap r.wr S.heap, nxtIf r.fr S.nxt⟩
             ob := obUnder gk.isSome gc r.wr r.ob ∧ (∀ p ∈ r.rd, lookN p.1 S.heap = some p.2) ∧ ∀ p ∈ r.wr, p.1 < nxtIf r.fr S.nxt }

def runOps (T : Tab) (K : Know) (N : Nat) (gd : Nat → Option Tmp) : List Oper → St → Option (List LT × St × Prop)
  | [], S => some ([], S, True)
  | o :: os, S => match stepOp T K N gd S o with
    | none => none
    | some s => match runOps T K N gd os s.next with
      | none => none
      | some q => some (s.lt :: q.1, q.2.1, s.ob ∧ q.2.2)

section
variable {P : Program} {c : Ctx} {φ : Names} {m : Mem} {f : StF} {a : Act} {W : World}

theorem yielded_undef {ops : Array Oper} {tmps : Array Value} {j : Nat} {t : Tmp} (h1 : (ops[j]?).bind (·.dst) = some t) (h2 : tmps[t]? = some undef) : yielded ops tmps j = none := by
  simp [yielded, h1, h2, undef]
theorem yielded_bool {ops : Array Oper} {tmps : Array Value} {j : Nat} {t : Tmp} {b : Bool} (h1 : (ops[j]?).bind (·.dst) = some t) (h2 : tmps[t]? = some (.bool b)) : yielded ops tmps j = some b := by
  simp [yielded, h1, h2]

theorem guard_wanted {S : St} {ops : Array Oper} {gd : Nat → Option Tmp} (hgd : ∀ j t, gd j = some t → (ops[j]?).bind (·.dst) = some t) {o : Oper} {gc : Bool} {gk : Option (Key × Ent)} (h : guardOf S gd o.guard = some (gc, gk))
    (hf : ∀ p ∈ guardPre gk, f p.1 = p.2) (hc : RelC c φ m f a W) : Region.wanted o (yielded ops a.tmps) = gc := by
  unfold guardOf at h
  split at h
  · rename_i hg
    simp only [Option.some.injEq, Prod.mk.injEq] at h
    rw [← h.1]
    simp [Region.wanted, hg]
  · rename_i j want hg
    split at h
    · rename_i t ht
      split at h
      · rename_i b hb
        simp only [Option.some.injEq, Prod.mk.injEq] at h
        obtain ⟨rfl, rfl⟩ := h
        have := hf _ (List.mem_cons_self ..)
        obtain ⟨V, h1, h2⟩ := hc.env t _ this
        simp only [AVal.rel, AV.rel, Sc.rel, D.rel] at h2
        subst h2
        simp only [Region.wanted, hg, yielded_bool (hgd j t ht) h1]
        cases want <;> cases b <;> rfl
      · rename_i g b hb
        simp only [Option.some.injEq, Prod.mk.injEq] at h
        obtain ⟨rfl, rfl⟩ := h
        have := hf _ (List.mem_cons_self ..)
        obtain ⟨V, h1, h2, h3⟩ := hc.env t _ this
        cases g with
        | true =>
          have := h2 rfl
          simp only [AV.rel, Sc.rel, D.rel] at this
          subst this
          simp only [Region.wanted, hg, yielded_bool (hgd j t ht) h1]
          cases want <;> cases b <;> rfl
        | false =>
          have := h3 rfl
          subst this
          simp only [Region.wanted, hg, yielded_undef (hgd j t ht) h1]
          rfl
      · cases h
    · cases h

theorem app_post (pre : List (Key × Ent)) (post : List (Key × Ent)) (f : StF) : LT.app ⟨pre, post⟩ f = LT.app ⟨[], post⟩ f := rfl

theorem under_rel {g gc : Bool} {v : AVal} {V : Value} (h : v.rel φ m V) (hg : gc = true) : (under g gc v).rel φ m V := by
  unfold under
  split
  · cases v with
    | one x => exact ⟨fun _ => h, fun e => by rw [hg] at e; cases e⟩
    | opt g' x =>
      subst hg
      refine ⟨fun e => h.1 (by simpa using e), fun e => h.2 (by simpa using e)⟩
    | tup xs => trivial
    | junk => trivial
  · exact h

theorem under_undef {gc : Bool} {v : AVal} (hg : gc = false) : (under true gc v).rel φ m undef := by
  unfold under
  simp only [if_true]
  cases v with
  | one x => exact ⟨fun e => (by rw [hg] at e; cases e), fun _ => rfl⟩
  | opt g' x => exact ⟨fun e => (by subst hg; simp at e), fun _ => rfl⟩
  | tup xs => trivial
  | junk => trivial

theorem sees_of {S : St} {xs : List Operand} (h : ∀ p ∈ preOf S xs, f p.1 = p.2) : Sees S xs f := by
  rintro x hx t v rfl ht
  have := h (.t t, .v v) (List.mem_filterMap.2 ⟨.tmp t, hx, by simp [ht]⟩)
  exact this

theorem stepOp_sound {T : Tab} (hT : TabOk P T) {K : Know} (hK : KnowOk P K) {N : Nat} {gd : Nat → Option Tmp} {ops : Array Oper} (hgd : ∀ j t, gd j = some t → (ops[j]?).bind (·.dst) = some t) {S : St} {i : Nat} {o : Oper}
    (ho : ops[i]? = some o) {s : Step} (h : stepOp T K N gd S o = some s) (hob : s.ob) : SoundAt P N ops i s.lt := by
  intro ro n c φ m f a W Q Kc hN hc hfit hk
  unfold stepOp at h
  split at h
  · cases h
  · rename_i gc gk hgo
    split at h
    · cases h
    · rename_i r hev
      simp only at h
      split at h
      · cases h
      · rename_i hcond
        injection h with h
        subst h
        simp only [Bool.or_eq_true, not_or, Bool.not_eq_true] at hcond
        obtain ⟨⟨hst, hdn⟩, hfresh⟩ := hcond
        simp only [LT.fits] at hfit
        have hf1 : ∀ p ∈ guardPre gk, f p.1 = p.2 := fun p hp => hfit p (by simp [hp])
        have hf2 : ∀ p ∈ preOf S (opndsOf o.op), f p.1 = p.2 := fun p hp => hfit p (by simp [hp])
        have hf3 : r.Reads S.nxt f := by
          refine ⟨fun p hp => ?_, fun hb => ?_⟩
          · exact hfit (Key.h p.1, Ent.o p.2) (List.mem_append_left _ (List.mem_append_right _ (List.mem_map.2 ⟨p, hp, rfl⟩)))
          · exact hfit (Key.h S.nxt, Ent.free) (List.mem_append_right _ (by simp [freeIf, hb]))
        have hwant := guard_wanted hgd hgo hf1 hc
        have hdst : ∀ d, o.dst = some d → d < c.nt := by
          intro d hd
          rw [hd] at hdn
          simp at hdn
          rw [hN]
          exact hdn
        -- the world goes on, the value is put
        have key : ∀ φ' m' a' W' V, RelC c φ' m' (wrApp r.wr f) a' W' → (under gk.isSome gc r.val).rel φ' m' V → a' = a →
            RelC c φ' m' (LT.app ⟨guardPre gk ++ preOf S (opndsOf o.op) ++ r.rd.map (fun p => (Key.h p.1, Ent.o p.2)) ++ freeIf r.fr S.nxt, dstPost o.dst (under gk.isSome gc r.val) ++ wrPost r.wr⟩ f) (a'.put o.dst V) W' := by
          intro φ' m' a' W' V h1 h2 _
          cases hd : o.dst with
          | none => exact h1
          | some d =>
            have := h1.put (hdst d hd) h2
            rw [app_post]
            simp only [dstPost, List.cons_append, List.nil_append]
            rw [app_cons]
            exact this
        unfold wpOpIn
        rw [ho]
        simp only [hwant]
        cases hgc : gc with
        | false =>
          simp only [Bool.false_eq_true, if_false]
          refine ⟨fun _ _ => trivial, ?_⟩
          -- passed over: nothing is written
          have hguard : gk.isSome = true := by
            cases gk with
            | some _ => rfl
            | none =>
              unfold guardOf at hgo
              split at hgo
              · simp at hgo; rw [hgc] at hgo; cases hgo
              · split at hgo
                · split at hgo <;> simp at hgo
                · cases hgo
          have hwr : r.wr = [] := by
            have h0 := hob.1
            rw [hguard] at h0
            unfold obUnder at h0
            simp only [if_true] at h0
            split at h0
            · assumption
            · rw [hgc] at h0; cases h0.1
          refine hk φ m _ W (key φ m a W undef (by rw [hwr]; exact hc) (by rw [hguard]; exact under_undef hgc) rfl) ?_
          cases o.dst <;> rfl
        | true =>
          simp only [if_true]
          have hrob : r.ob := by
            have h0 := hob.1
            unfold obUnder at h0
            split at h0
            · split at h0
              · exact h0 hgc
              · exact h0.2
            · exact h0
          have hok := evOp_ok (a := a) hT hK hgc hev hrob hf3 (sees_of hf2) hc (fun ⟨t, p, v, hs⟩ => by
            have : isStore o.op = true := by rw [hs]; rfl
            rw [this] at hst
            simpa using hst)
          obtain ⟨hnd, hok⟩ := hok
          refine ⟨fun _ _ => trivial, ?_⟩
          have hsem : o.semAt (wideR ro).round a.eval = execOp a.eval o := Oper.semAt_eq _ _ _ hnd
          rw [hsem]
          rcases hok with ⟨φ', m', W', h1, h2, h3, h4⟩ | ⟨g, vals, h4, hcall⟩
          · rcases h4 with ⟨V, h4, h5⟩ | ⟨h4, h5⟩
            · rw [h4]
              refine hk φ' m' _ W' (key φ' m' a W' V h1 (under_rel h5 hgc) rfl) ?_
              cases o.dst <;> rfl
            · rw [h4]
              refine hk φ' m' _ W' ?_ (by rw [h5]; rfl)
              have hj := key φ' m' a W' undef
              rw [h5] at hj ⊢
              simp only [dstPost, List.nil_append, Act.put]
              exact h1
          · rw [h4]
            refine ⟨fun hx => by simp [wideR, Fence.wide] at hx, ?_⟩
            refine (hcall ro (n - 1)).mono ?_
            rintro e W' ⟨φ', m', V, rfl, h1, h2, h3, h5⟩
            refine hk φ' m' _ W' (key φ' m' a W' V h1 (under_rel h5 hgc) rfl) ?_
            cases o.dst <;> rfl

end
end Go.Proofs.Hg

/- A region's run, and the rule for it. -/
set_option linter.unusedVariables false
set_option linter.unusedSimpArgs false
namespace Go.Proofs.Hg
open Go.RowKit

section
variable {P : Program} {c : Ctx} {φ : Names} {m : Mem} {f : StF} {a : Act} {W : World}

theorem StLe.get {f g : StF} (h : StLe g f) {k : Key} {e : Ent} (hk : g k = e) (hne : e ≠ .none) : f k = e := by
  rcases h k with h1 | h1
  · rw [h1] at hk; exact absurd hk.symm hne
  · rw [← h1]; exact hk

theorem fn_t {S : St} {t : Nat} {v : AVal} (h : lookN t S.env = some v) : S.fn (.t t) = .v v := by simp [St.fn, h]
theorem fn_h {S : St} {i : Nat} {o : AObj} (h : lookN i S.heap = some o) : S.fn (.h i) = .o o := by simp [St.fn, h]

theorem lookN_erase {α : Type} (i n : Nat) : ∀ (l : List (Nat × α)), lookN n (eraseN i l) = if n = i then none else lookN n l
  | [] => by simp [eraseN, lookN]
  | (k, b) :: r => by
    simp only [eraseN]
    split
    · rename_i e
      subst e
      rw [lookN_erase]
      by_cases h : n = k
      · simp [h]
      · simp only [if_neg h, lookN]
        rw [if_neg (fun x => h x.symm)]
    · rename_i e
      simp only [lookN]
      split
      · rename_i e2
        subst e2
        rw [if_neg e]
      · rw [lookN_erase]

theorem wrHeap_spec : ∀ (wr : List (Nat × Ent)) (h : List (Nat × AObj)) (f : StF), (∀ n o, lookN n h = some o → f (.h n) = .o o) →
    ∀ n o, lookN n (wrHeap wr h) = some o → wrApp wr f (.h n) = .o o
  | [], h, f, hf, n, o, hn => hf n o hn
  | (i, e) :: r, h, f, hf, n, o, hn => by
    rw [wrApp_cons]
    by_cases hi : n = i
    · subst hi
      rw [upd_self]
      cases e <;> simp only [wrHeap, lookN, lookN_erase, if_true, reduceCtorEq] at hn
      injection hn with hn
      rw [hn]
    · rw [upd_other (by simpa using hi)]
      refine wrHeap_spec r h f hf n o ?_
      cases e <;> simp only [wrHeap, lookN, lookN_erase, if_neg hi, if_neg (fun x => hi (Eq.symm x))] at hn <;> exact hn

theorem wrHeap_none : ∀ (wr : List (Nat × Ent)) (h : List (Nat × AObj)) (n : Nat), (∀ p ∈ wr, p.1 ≠ n) → lookN n (wrHeap wr h) = lookN n h
  | [], h, n, _ => rfl
  | (i, e) :: r, h, n, hne => by
    have hi : i ≠ n := hne (i, e) (List.mem_cons_self ..)
    have ih := wrHeap_none r h n (fun p hp => hne p (List.mem_cons_of_mem _ hp))
    cases e <;> simp only [wrHeap, lookN, lookN_erase, if_neg (fun x => hi (Eq.symm x)), if_neg hi] <;> exact ih

theorem wrApp_t (wr : List (Nat × Ent)) (f : StF) (t : Nat) : wrApp wr f (.t t) = f (.t t) := by
  induction wr with
  | nil => rfl
  | cons p r ih => rw [wrApp_cons, upd_other (by simp)]; exact ih

theorem guardOf_key {S : St} {gd : Nat → Option Tmp} {g : Option (Nat × Bool)} {gc : Bool} {gk : Option (Key × Ent)} (h : guardOf S gd g = some (gc, gk)) : ∀ p ∈ guardPre gk, S.fn p.1 = p.2 ∧ p.2 ≠ .none := by
  unfold guardOf at h
  split at h
  · simp only [Option.some.injEq, Prod.mk.injEq] at h
    rw [← h.2]
    intro p hp
    simp [guardPre] at hp
  · split at h
    · split at h
      · rename_i b hb
        simp only [Option.some.injEq, Prod.mk.injEq] at h
        rw [← h.2]
        intro p hp
        simp [guardPre] at hp
        subst hp
        exact ⟨fn_t hb, by simp⟩
      · rename_i g b hb
        simp only [Option.some.injEq, Prod.mk.injEq] at h
        rw [← h.2]
        intro p hp
        simp [guardPre] at hp
        subst hp
        exact ⟨fn_t hb, by simp⟩
      · cases h
    · cases h

theorem stepOp_run {T : Tab} {K : Know} {N : Nat} {gd : Nat → Option Tmp} {S : St} {o : Oper} {s : Step} (h : stepOp T K N gd S o = some s) (hob : s.ob) (hf : StLe S.fn f) : s.lt.fits f ∧ StLe s.next.fn (s.lt.app f) := by
  unfold stepOp at h
  split at h
  · cases h
  · rename_i gc gk hgo
    split at h
    · cases h
    · rename_i r hev
      simp only at h
      split at h
      · cases h
      · rename_i hcond
        injection h with h
        subst h
        simp only [Bool.or_eq_true, not_or, Bool.not_eq_true] at hcond
        obtain ⟨⟨hst, hdn⟩, hfresh⟩ := hcond
        have hfr : lookN S.nxt S.heap = none := by
          cases hl : lookN S.nxt S.heap with
          | none => rfl
          | some x => rw [hl] at hfresh; cases hfresh
        obtain ⟨_, hrd, hwr⟩ := hob
        constructor
        · intro p hp
          simp only [List.mem_append] at hp
          rcases hp with ((hp | hp) | hp) | hp
          · obtain ⟨h1, h2⟩ := guardOf_key hgo p hp
            exact hf.get h1 h2
          · simp only [preOf, List.mem_filterMap] at hp
            obtain ⟨x, hx, hxp⟩ := hp
            cases x with
            | tmp t =>
              simp only [Option.map_eq_some_iff] at hxp
              obtain ⟨v, hv, rfl⟩ := hxp
              exact hf.get (fn_t hv) (by simp)
            | const v => simp at hxp
            | global v => simp at hxp
            | func v => simp at hxp
          · obtain ⟨q, hq, rfl⟩ := List.mem_map.1 hp
            exact hf.get (fn_h (hrd q hq)) (by simp)
          · unfold freeIf at hp
            split at hp
            · simp at hp
              subst hp
              exact hf.get (by simp [St.fn, hfr]) (by simp)
            · simp at hp
        · intro k
          rw [app_post]
          cases k with
          | t n =>
            have hw : LT.app ⟨[], wrPost r.wr⟩ f (.t n) = f (.t n) := wrApp_t r.wr f n
            cases hd : o.dst with
            | none =>
              simp only [dstPost, List.nil_append, hw]
              exact hf (.t n)
            | some d =>
              simp only [dstPost, List.cons_append, List.nil_append]
              rw [app_cons]
              by_cases e : n = d
              · subst e
                right
                simp [St.fn, lookN]
              · rw [upd_other (by simpa using e), hw]
                have : St.fn ⟨(d, under gk.isSome gc r.val) :: S.env, wrHeap r.wr S.heap, nxtIf r.fr S.nxt⟩ (.t n) = S.fn (.t n) := by
                  simp only [St.fn, lookN]
                  rw [if_neg (fun x => e x.symm)]
                rw [this]
                exact hf (.t n)
          | h n =>
            have hw : LT.app ⟨[], dstPost o.dst (under gk.isSome gc r.val) ++ wrPost r.wr⟩ f (.h n) = wrApp r.wr f (.h n) := by
              cases hd : o.dst with
              | none => rfl
              | some d =>
                simp only [dstPost, List.cons_append, List.nil_append]
                rw [app_cons, upd_other (by simp)]
                rfl
            rw [hw]
            simp only [St.fn]
            cases hl : lookN n (wrHeap r.wr S.heap) with
            | some ob =>
              right
              exact (wrHeap_spec r.wr S.heap f (fun n o hn => hf.get (fn_h hn) (by simp)) n ob hl).symm
            | none =>
              simp only
              split
              · rename_i hn
                right
                have hne : ∀ p ∈ r.wr, p.1 ≠ n := fun p hp e => by have := hwr p hp; omega
                rw [wrHeap_none _ _ _ hne] at hl
                rw [wrApp_ne hne]
                have hS : S.nxt ≤ n := by
                  unfold nxtIf at hn
                  split at hn <;> omega
                exact (hf.get (k := .h n) (e := .free) (by simp [St.fn, hl, hS]) (by simp)).symm
              · left; rfl

theorem runOps_ok {T : Tab} (hT : TabOk P T) {K : Know} (hK : KnowOk P K) {N : Nat} {gd : Nat → Option Tmp} {ops : Array Oper} (hgd : ∀ j t, gd j = some t → (ops[j]?).bind (·.dst) = some t) :
    ∀ (os : List Oper) (i0 : Nat) (S : St) (q : List LT × St × Prop), (∀ (k : Nat) (o : Oper), os[k]? = some o → ops[i0 + k]? = some o) → runOps T K N gd os S = some q → q.2.2 → ∀ f, StLe S.fn f →
      q.1.length = os.length ∧ (∀ (k : Nat) (t : LT), q.1[k]? = some t → SoundAt P N ops (i0 + k) t) ∧ ∃ g, RunL q.1 f g ∧ StLe q.2.1.fn g
  | [], i0, S, q, _, h, _, f, hf => by
    simp only [runOps, Option.some.injEq] at h
    subst h
    exact ⟨rfl, fun k t hk => by simp at hk, f, rfl, hf⟩
  | o :: os, i0, S, q, hops, h, hob, f, hf => by
    simp only [runOps] at h
    cases hs : stepOp T K N gd S o with
    | none => simp [hs] at h
    | some s =>
      cases hr : runOps T K N gd os s.next with
      | none => simp [hs, hr] at h
      | some q2 =>
        simp [hs, hr] at h
        subst h
        obtain ⟨o1, o2⟩ := hob
        obtain ⟨h1, h2⟩ := stepOp_run hs o1 hf
        have ho : ops[i0]? = some o := by simpa using hops 0 o rfl
        obtain ⟨h3, h4, g, h5, h6⟩ := runOps_ok hT hK hgd os (i0 + 1) s.next q2 (fun k o' hk => by have := hops (k + 1) o' (by simpa using hk); rwa [show i0 + (k + 1) = i0 + 1 + k by omega] at this) hr o2 (s.lt.app f) h2
        refine ⟨by simp [h3], fun k t hk => ?_, g, ⟨h1, h5⟩, h6⟩
        cases k with
        | zero =>
          simp at hk
          subst hk
          exact stepOp_sound hT hK hgd ho hs o1
        | succ k =>
          have := h4 k t (by simpa using hk)
          rwa [show i0 + 1 + k = i0 + (k + 1) by omega] at this

def gdOf (ops : Array Oper) (j : Nat) : Option Tmp := (ops[j]?).bind (·.dst)

/-- **A REGION.** -/
theorem region_rule {T : Tab} (hT : TabOk P T) {K : Know} (hK : KnowOk P K) (hm : P.follows .mixedOrders = true) {ro : Option Nat} {n id : Nat} {ops : Array Oper} {draw : Bool} {S S' : St} {lts : List LT} {ob : Prop}
    {Q : Exit → Act → World → Prop} (hrun : runOps T K c.nt (gdOf ops) ops.toList S = some (lts, S', ob)) (hob : ob) (hord : draw = true → (edgesOk ops && orderOk ops lts) = true) (hc : RelC c φ m S.fn a W)
    (hq : ∀ φ' m' a' W', RelC c φ' m' S'.fn a' W' → a'.defers = a.defers → Q .normal a' W') : (Code.region id ops draw).wpIn (wideR ro) n P Q a W := by
  obtain ⟨h1, h2, g, h3, h4⟩ := runOps_ok (ops := ops) hT hK (fun _ _ h => h) ops.toList 0 S (lts, S', ob) (fun k o hk => by simpa using hk) hrun hob S.fn (fun k => .inr rfl)
  exact wp_region (N := c.nt) hm lts rfl (by simpa using h1) (fun i t hi => by simpa using h2 i t hi) h3 hord hc (fun φ' m' a' W' hc' hd => hq φ' m' a' W' (hc'.weaken h4) hd)

end
end Go.Proofs.Hg

/- Code of the abstract machine: rules for regions, sequences, branches, blocks, loops; states that say the same. -/
set_option linter.unusedVariables false
set_option linter.unusedSimpArgs false
namespace Go.Proofs.Hg
open Go.RowKit

/-- What code does from a state: in every context whose handed objects bear the names below h. -/
def AWp (P : Program) (N h : Nat) (code : Code) (S : St) (Q : Exit → St → Prop) : Prop :=
  ∀ (c : Ctx) (ro : Option Nat) (n : Nat) (φ : Names) (m : Mem) (a : Act) (W : World), c.nt = N → (∀ i, h ≤ i → c.φ0 i = none) → RelC c φ m S.fn a W →
    code.wpIn (wideR ro) n P (fun e a' W' => ∃ φ' m' S', RelC c φ' m' S'.fn a' W' ∧ a'.defers = a.defers ∧ Q e S') a W

/-- Whatever stands in the one state stands in the other. -/
def Conv (N h : Nat) (S S' : St) : Prop :=
  ∀ (c : Ctx) (φ : Names) (m : Mem) (a : Act) (W : World), c.nt = N → (∀ i, h ≤ i → c.φ0 i = none) → RelC c φ m S.fn a W → ∃ φ' m', RelC c φ' m' S'.fn a W

def thenA (next : St → Prop) (Q : Exit → St → Prop) : Exit → St → Prop
  | .normal, S => next S
  | e, S => Q e S
def inBlockA (id : Nat) (Q : Exit → St → Prop) : Exit → St → Prop
  | .exit i, S => if i = id then Q .normal S else Q (.exit i) S
  | e, S => Q e S

section
variable {P : Program} {N h : Nat} {S S' : St} {Q Q' : Exit → St → Prop}

theorem Conv.refl (S : St) : Conv N h S S := fun c φ m a W _ _ hc => ⟨φ, m, hc⟩
theorem Conv.trans {S1 S2 S3 : St} (h1 : Conv N h S1 S2) (h2 : Conv N h S2 S3) : Conv N h S1 S3 := fun c φ m a W hN h0 hc =>
  let ⟨φ1, m1, c1⟩ := h1 c φ m a W hN h0 hc
  h2 c φ1 m1 a W hN h0 c1

theorem AWp.conv {code : Code} (hv : Conv N h S S') (hw : AWp P N h code S' Q) : AWp P N h code S Q := fun c ro n φ m a W hN h0 hc =>
  let ⟨φ1, m1, c1⟩ := hv c φ m a W hN h0 hc
  hw c ro n φ1 m1 a W hN h0 c1

theorem AWp.mono {code : Code} (hw : AWp P N h code S Q) (hq : ∀ e S', Q e S' → ∃ S'', Conv N h S' S'' ∧ Q' e S'') : AWp P N h code S Q' := fun c ro n φ m a W hN h0 hc => by
  refine wpIn_mono (hw c ro n φ m a W hN h0 hc) ?_
  rintro e a' W' ⟨φ1, m1, S1, c1, d1, q1⟩
  obtain ⟨S2, v2, q2⟩ := hq e S1 q1
  obtain ⟨φ2, m2, c2⟩ := v2 c φ1 m1 a' W' hN h0 c1
  exact ⟨φ2, m2, S2, c2, d1, q2⟩

theorem AWp.skip (hq : Q .normal S) : AWp P N h .skip S Q := fun c ro n φ m a W hN h0 hc => wpIn_skip ⟨φ, m, S, hc, rfl, hq⟩
theorem AWp.label {l : Nat} (hq : Q .normal S) : AWp P N h (.label l) S Q := fun c ro n φ m a W hN h0 hc => wpIn_label ⟨φ, m, S, hc, rfl, hq⟩
theorem AWp.exit {i : Nat} (hq : Q (.exit i) S) : AWp P N h (.exit i) S Q := fun c ro n φ m a W hN h0 hc => wpIn_exit ⟨φ, m, S, hc, rfl, hq⟩
theorem AWp.goto {l : Nat} (hq : Q (.goto l) S) : AWp P N h (.goto l) S Q := fun c ro n φ m a W hN h0 hc => wpIn_goto ⟨φ, m, S, hc, rfl, hq⟩
theorem AWp.ret (hq : Q .ret S) : AWp P N h .ret S Q := fun c ro n φ m a W hN h0 hc => wpIn_ret ⟨φ, m, S, hc, rfl, hq⟩

theorem AWp.seq {x y : Code} (hx : AWp P N h x S (thenA (fun S1 => AWp P N h y S1 Q) Q)) : AWp P N h (.seq x y) S Q := fun c ro n φ m a W hN h0 hc => by
  refine wpIn_seq (wpIn_mono (hx c ro n φ m a W hN h0 hc) ?_)
  rintro e a' W' ⟨φ1, m1, S1, c1, d1, q1⟩
  cases e with
  | normal =>
    refine wpIn_mono (q1 c ro n φ1 m1 a' W' hN h0 c1) ?_
    rintro e2 a2 W2 ⟨φ2, m2, S2, c2, d2, q2⟩
    exact ⟨φ2, m2, S2, c2, d2.trans d1, q2⟩
  | exit i => exact ⟨φ1, m1, S1, c1, d1, q1⟩
  | goto l => exact ⟨φ1, m1, S1, c1, d1, q1⟩
  | ret => exact ⟨φ1, m1, S1, c1, d1, q1⟩
  | panic x => exact ⟨φ1, m1, S1, c1, d1, q1⟩
  | outgrown => exact ⟨φ1, m1, S1, c1, d1, q1⟩

theorem AWp.block {i : Nat} {x : Code} (hx : AWp P N h x S (inBlockA i Q)) : AWp P N h (.block i x) S Q := fun c ro n φ m a W hN h0 hc => by
  refine wpIn_block (wpIn_mono (hx c ro n φ m a W hN h0 hc) ?_)
  rintro e a' W' ⟨φ1, m1, S1, c1, d1, q1⟩
  cases e with
  | normal => exact ⟨φ1, m1, S1, c1, d1, q1⟩
  | exit j =>
    simp only [Exit.inBlock]
    simp only [inBlockA] at q1
    split
    · rename_i e; rw [if_pos e] at q1; exact ⟨φ1, m1, S1, c1, d1, q1⟩
    · rename_i e; rw [if_neg e] at q1; exact ⟨φ1, m1, S1, c1, d1, q1⟩
  | goto l => exact ⟨φ1, m1, S1, c1, d1, q1⟩
  | ret => exact ⟨φ1, m1, S1, c1, d1, q1⟩
  | panic x => exact ⟨φ1, m1, S1, c1, d1, q1⟩
  | outgrown => exact ⟨φ1, m1, S1, c1, d1, q1⟩

theorem opnd_at {c : Ctx} {φ : Names} {m : Mem} {a : Act} {W : World} (hc : RelC c φ m S.fn a W) {x : Operand} {v : AVal} (hx : S.opnd x = some v) : v.rel φ m (a.eval x) :=
  opnd_ok (S := S) (xs := [x]) (fun y hy t v hyt hl => fn_t hl) hc (List.mem_cons_self ..) hx

theorem AWp.cond {o : Operand} {x y : Code} {b : Bool} (ho : S.opnd o = some (.one (dv (.bool b)))) (ht : b = true → AWp P N h x S Q) (hf : b = false → AWp P N h y S Q) : AWp P N h (.cond o x y) S Q :=
  fun c ro n φ m a W hN h0 hc =>
  have hv : a.eval o = .bool b := opnd_at hc ho
  wpIn_cond_split hv (fun e => ht e c ro n φ m a W hN h0 hc) (fun e => hf e c ro n φ m a W hN h0 hc)

theorem AWp.loop {x : Code} (I : Nat → St → Prop) (k : Nat) (h0 : I k S) (round : ∀ k S, I k S → AWp P N h x S (thenA (fun S' => ∃ k' S'', k' < k ∧ Conv N h S' S'' ∧ I k' S'') Q)) : AWp P N h (.loop x) S Q :=
  fun c ro n φ m a W hN hφ hc => by
  refine wpIn_loop_ghost (fun k a' W' => ∃ φ' m' S', RelC c φ' m' S'.fn a' W' ∧ a'.defers = a.defers ∧ I k S') k ⟨φ, m, S, hc, rfl, h0⟩ ?_
  rintro k a1 W1 ⟨φ1, m1, S1, c1, d1, i1⟩
  refine wpIn_mono (round k S1 i1 c ro n φ1 m1 a1 W1 hN hφ c1) ?_
  rintro e a' W' ⟨φ2, m2, S2, c2, d2, q2⟩
  cases e with
  | normal =>
    obtain ⟨k', S3, hk, hv, i3⟩ := q2
    obtain ⟨φ3, m3, c3⟩ := hv c φ2 m2 a' W' hN hφ c2
    exact ⟨k', hk, φ3, m3, S3, c3, d2.trans d1, i3⟩
  | exit i => exact ⟨φ2, m2, S2, c2, d2.trans d1, q2⟩
  | goto l => exact ⟨φ2, m2, S2, c2, d2.trans d1, q2⟩
  | ret => exact ⟨φ2, m2, S2, c2, d2.trans d1, q2⟩
  | panic x => exact ⟨φ2, m2, S2, c2, d2.trans d1, q2⟩
  | outgrown => exact ⟨φ2, m2, S2, c2, d2.trans d1, q2⟩

/-! ### regions, their steps left out -/
def stepS (T : Tab) (K : Know) (N : Nat) (gd : Nat → Option Tmp) (S : St) (o : Oper) : Option (St × Prop) :=
  match guardOf S gd o.guard with
  | none => none
  | some (gc, gk) => match evOp T K S gc o.type o.op with
    | none => none
    | some r =>
      if (isStore o.op && o.dst.isSome) || !(o.dst.all (fun d => decide (d < N))) || (lookN S.nxt S.heap).isSome then none else
      some (⟨match o.dst with | some d => (d, under gk.isSome gc r.val) :: S.env | none => S.env, wrHeap r.wr S.heap, nxtIf r.fr S.nxt⟩,
        obUnder gk.isSome gc r.wr r.ob ∧ (∀ p ∈ r.rd, lookN p.1 S.heap = some p.2) ∧ ∀ p ∈ r.wr, p.1 < nxtIf r.fr S.nxt)

def runS (T : Tab) (K : Know) (N : Nat) (gd : Nat → Option Tmp) : List Oper → St → Option (St × Prop)
  | [], S => some (S, True)
  | o :: os, S => match stepS T K N gd S o with
    | none => none
    | some s => match runS T K N gd os s.1 with
      | none => none
      | some q => some (q.1, s.2 ∧ q.2)

theorem stepS_eq (T : Tab) (K : Know) (N : Nat) (gd : Nat → Option Tmp) (S : St) (o : Oper) : stepS T K N gd S o = (stepOp T K N gd S o).map fun s => (s.next, s.ob) := by
  unfold stepS stepOp
  cases hg : guardOf S gd o.guard with
  | none => rfl
  | some p =>
    obtain ⟨gc, gk⟩ := p
    simp only
    cases he : evOp T K S gc o.type o.op with
    | none => rfl
    | some r =>
      simp only
      by_cases hb : (isStore o.op && o.dst.isSome || !Option.all (fun d => decide (d < N)) o.dst || (lookN S.nxt S.heap).isSome) = true
      · rw [if_pos hb, if_pos hb]; rfl
      · rw [if_neg hb, if_neg hb]; rfl

theorem runS_eq (T : Tab) (K : Know) (N : Nat) (gd : Nat → Option Tmp) : ∀ (os : List Oper) (S : St), runS T K N gd os S = (runOps T K N gd os S).map (·.2)
  | [], S => rfl
  | o :: os, S => by
    simp only [runS, runOps, stepS_eq]
    cases hs : stepOp T K N gd S o with
    | none => rfl
    | some s =>
      simp only [Option.map_some, runS_eq T K N gd os s.next]
      cases hr : runOps T K N gd os s.next with
      | none => rfl
      | some q => rfl

theorem runS_ops {T : Tab} {K : Know} {gd : Nat → Option Tmp} {os : List Oper} {q : St × Prop} (hr : runS T K N gd os S = some q) : ∃ lts, runOps T K N gd os S = some (lts, q.1, q.2) := by
  rw [runS_eq] at hr
  simp only [Option.map_eq_some_iff] at hr
  obtain ⟨q', h1, h2⟩ := hr
  exact ⟨q'.1, by rw [h1, ← h2]⟩

/-- A REGION in the text's order. -/
theorem AWp.region {T : Tab} (hT : TabOk P T) {K : Know} (hK : KnowOk P K) (hm : P.follows .mixedOrders = true) {id : Nat} {ops : Array Oper} {ob : Prop}
    (hrun : runS T K N (gdOf ops) ops.toList S = some (S', ob)) (hob : ob) (hq : Q .normal S') : AWp P N h (.region id ops false) S Q := fun c ro n φ m a W hN h0 hc => by
  obtain ⟨lts, hl⟩ := runS_ops hrun
  subst hN
  exact region_rule hT hK hm hl hob (by simp) hc (fun φ' m' a' W' c' d' => ⟨φ', m', S', c', d', hq⟩)

/-- A REGION in any order. -/
theorem AWp.draws {T : Tab} (hT : TabOk P T) {K : Know} (hK : KnowOk P K) (hm : P.follows .mixedOrders = true) {id : Nat} {ops : Array Oper} {lts : List LT} {ob : Prop}
    (hrun : runOps T K N (gdOf ops) ops.toList S = some (lts, S', ob)) (hord : (edgesOk ops && orderOk ops lts) = true) (hob : ob) (hq : Q .normal S') : AWp P N h (.region id ops true) S Q := fun c ro n φ m a W hN h0 hc => by
  subst hN
  exact region_rule hT hK hm hrun hob (fun _ => hord) hc (fun φ' m' a' W' c' d' => ⟨φ', m', S', c', d', hq⟩)

end
end Go.Proofs.Hg

/- States that say the same: less kept, a row that becomes a value, other names. -/
set_option linter.unusedVariables false
set_option linter.unusedSimpArgs false
namespace Go.Proofs.Hg
open Go.RowKit

section
variable {N h : Nat} {S S' : St}

theorem Conv.weaken (hw : StLe S'.fn S.fn) : Conv N h S S' := fun c φ m a W _ _ hc => ⟨φ, m, hc.weaken hw⟩

def keepE {α : Type} (ts : List Nat) (l : List (Nat × α)) : List (Nat × α) := ts.filterMap fun t => (lookN t l).map fun v => (t, v)
def St.keep (ts hs : List Nat) (S : St) : St := ⟨keepE ts S.env, keepE hs S.heap, S.nxt⟩

theorem lookN_keepE {α : Type} (l : List (Nat × α)) (n : Nat) : ∀ (ts : List Nat), lookN n (keepE ts l) = if n ∈ ts then lookN n l else none
  | [] => rfl
  | t :: ts => by
    have ih := lookN_keepE l n ts
    simp only [keepE, List.filterMap_cons] at ih ⊢
    cases hl : lookN t l with
    | none =>
      simp only [Option.map_none]
      rw [ih]
      by_cases hn : n = t
      · subst hn; simp [hl]
      · simp [hn]
    | some v =>
      simp only [Option.map_some, lookN]
      by_cases hn : t = n
      · subst hn; simp [hl]
      · rw [if_neg hn, ih]
        have hn' : ¬ n = t := fun x => hn (Eq.symm x)
        simp [hn']

theorem Conv.keep (ts hs : List Nat) (hall : (S.heap.all fun p => decide (p.1 < S.nxt)) = true) : Conv N h S (S.keep ts hs) := by
  refine Conv.weaken fun k => ?_
  cases k with
  | t n =>
    simp only [St.fn, St.keep, lookN_keepE]
    by_cases hn : n ∈ ts
    · simp [hn]
    · simp [hn]
  | h n =>
    simp only [St.fn, St.keep, lookN_keepE]
    by_cases hn : n ∈ hs
    · simp only [if_pos hn]; exact .inr rfl
    · simp only [if_neg hn]
      by_cases hx : S.nxt ≤ n
      · right
        simp only [if_pos hx]
        have : lookN n S.heap = none := by
          cases hl : lookN n S.heap with
          | none => rfl
          | some o =>
            have := List.all_eq_true.1 hall _ (lookN_mem hl)
            simp at this
            omega
        simp [this, hx]
      · left; simp [hx]

/-! ### a row that becomes a value -/
theorem freeze_all {c : Ctx} {φ : Names} {m : Mem} {f : StF} {a : Act} {W : World} (hc : RelC c φ m f a W) {j : Nat} {es : List (List D)} {ty : TypeId} (hj : f (.h j) = .o (.row es ty)) :
    ∃ m', RelC c φ m' (upd f (.h j) .none) a W ∧ MemLe m m' ∧ ∀ e X, (Sc.row j e 0 es.length none).rel φ m X → (D.slice none e es).rel m' X := by
  rcases hc.obj j _ hj with ⟨h1, h2⟩ | ⟨b, C, e, cs, fr, h1, _⟩
  · refine ⟨m, hc.kill _, MemLe.refl m, fun e X hx => ?_⟩
    subst h2
    rcases hx with ⟨_, _, _, _, rfl⟩ | ⟨b, C, ad, k, q, _⟩
    · unfold D.rel; exact .inl ⟨rfl, by simp, rfl⟩
    · rw [h1] at q; cases q
  · obtain ⟨cs, fr, g2, g3, g4, g5, g6, g7, g8, _⟩ := row_cell hc hj h1
    have hm : MemLe m (fun k => if k = b then some (.cells cs ty fr) else m k) := by
      have hown := hc.own j _ b C e hj h1
      intro k o1 hk
      by_cases ek : k = b
      · subst ek; rw [hown.2.1] at hk; cases hk
      · simp only [if_neg ek]; exact hk
    refine ⟨_, hc.freeze hj h1 g2, hm, fun e' X hx => ?_⟩
    rcases hx with ⟨q, _⟩ | ⟨b', C', ad, k, q, rfl, h3, h4, h5, h6⟩
    · rw [h1] at q; cases q
    · rw [h1] at q
      injection q with q
      injection q with q1 q2 q3
      subst q1 q2 q3
      simp only [D.rel]
      refine .inr ⟨by simp, ad, k, rfl, by omega, g7, fun hne => ?_⟩
      have hk0 : k ≠ 0 := by
        have : 0 < es.length := List.length_pos_iff.2 hne
        omega
      rw [h6.1 hk0]
      refine ⟨rfl, ?_⟩
      rw [relRows_iff, relCells_iff]
      intro i d hi
      obtain ⟨v, q1, q2⟩ := g8 i d hi
      refine ⟨v, ?_, D.rel_le hm d v q2⟩
      simp [memCell, q1]

/-- The row j in the temporary t becomes a value. -/
def St.freezeAt (S : St) (t j e : Nat) (es : List (List D)) : St := ⟨(t, .one (dv (.slice none e es))) :: S.env, eraseN j S.heap, S.nxt⟩

theorem Conv.freezeAt (t j : Nat) {e len : Nat} {es : List (List D)} {ty : TypeId} (hj : lookN j S.heap = some (.row es ty)) (hlt : j < S.nxt) (ht : lookN t S.env = some (.one (.s (.row j e 0 len none)))) (hl : len = es.length) :
    Conv N h S (S.freezeAt t j e es) := by
  intro c φ m a W _ _ hc
  subst hl
  obtain ⟨m', h1, h2, h3⟩ := freeze_all hc (fn_h hj)
  obtain ⟨V, v1, v2⟩ := hc.env t _ (fn_t ht)
  have hput : RelC c φ m' (upd (upd S.fn (.h j) .none) (.t t) (.v (.one (dv (.slice none e es))))) a W :=
    { os := h1.os, out := h1.out, tape := h1.tape, size := h1.size, frame := h1.frame, mem := h1.mem, m0 := h1.m0, mnew := h1.mnew, ext := h1.ext
      obj := fun i o hi => h1.obj i o (by rwa [upd_other (by simp)] at hi)
      own := fun i o b C e hi => h1.own i o b C e (by rwa [upd_other (by simp)] at hi)
      inj := fun i j o o' b C e C' e' hi hj => h1.inj i j o o' b C e C' e' (by rwa [upd_other (by simp)] at hi) (by rwa [upd_other (by simp)] at hj)
      free := fun i hi => h1.free i (by rwa [upd_other (by simp)] at hi)
      env := fun s v hs => by
        by_cases e1 : s = t
        · subst e1
          rw [upd_self] at hs
          injection hs with hs
          subst hs
          exact ⟨V, v1, h3 _ V v2⟩
        · rw [upd_other (by simpa using e1)] at hs
          exact h1.env s v hs
      nt := h1.nt }
  refine ⟨φ, m', hput.weaken fun k => ?_⟩
  cases k with
  | t n =>
    right
    by_cases e1 : n = t
    · subst e1; rw [upd_self]; simp [St.fn, St.freezeAt, lookN]
    · rw [upd_other (by simpa using e1), upd_other (by simp)]
      simp only [St.fn, St.freezeAt, lookN]
      rw [if_neg (fun x => e1 x.symm)]
  | h n =>
    rw [upd_other (by simp)]
    by_cases e1 : n = j
    · subst e1
      left
      simp only [St.fn, St.freezeAt, lookN_erase, if_true]
      have hx : ¬ S.nxt ≤ n := by omega
      simp [hx]
    · right
      rw [upd_other (by simpa using e1)]
      simp only [St.fn, St.freezeAt, lookN_erase, if_neg e1]
      rfl

/-! ### other names -/
def Sc.ren (g : Nat → Nat) : Sc → Sc
  | .ptr i off => .ptr (g i) off
  | .eptr i k fo => .eptr (g i) k fo
  | .row i e off len cap => .row (g i) e off len cap
  | .func f caps => .func f (caps.map fun p => (g p.1, p.2))
  | .yield l => .yield (g l)
  | .map i => .map (g i)
  | .upt i e off len => .upt (g i) e off len
  | x => x
def AV.ren (g : Nat → Nat) : AV → AV
  | .s x => .s (x.ren g)
  | .agg xs => .agg (xs.map (·.ren g))
def AVal.ren (g : Nat → Nat) : AVal → AVal
  | .one x => .one (x.ren g)
  | .tup xs => .tup (xs.map (·.ren g))
  | .opt b x => .opt b (x.ren g)
  | .junk => .junk
def AObj.ren (g : Nat → Nat) : AObj → AObj
  | .cells vs ty => .cells (vs.map (·.ren g)) ty
  | .row es ty => .row es ty
  | .other o => .other o

/-- Names that a value speaks of. -/
def Sc.ids : Sc → List Nat
  | .ptr i _ => [i]
  | .eptr i _ _ => [i]
  | .row i _ _ _ _ => [i]
  | .func _ caps => caps.map (·.1)
  | .yield l => [l]
  | .map i => [i]
  | .upt i _ _ _ => [i]
  | _ => []
def AV.ids : AV → List Nat
  | .s x => x.ids
  | .agg xs => xs.flatMap (·.ids)
def AVal.ids : AVal → List Nat
  | .one x => x.ids
  | .tup xs => xs.flatMap (·.ids)
  | .opt _ x => x.ids
  | .junk => []
def AObj.ids : AObj → List Nat
  | .cells vs _ => vs.flatMap (·.ids)
  | _ => []

/-- The one naming's names are the other's, under g. -/
def Through (g : Nat → Nat) (φ φ' : Names) (is : List Nat) : Prop := ∀ i ∈ is, φ' i = φ (g i)

theorem Sc.rel_ren {g : Nat → Nat} {φ φ' : Names} {m : Mem} {x : Sc} (hi : Through g φ φ' x.ids) {V : Value} (hx : (x.ren g).rel φ m V) : x.rel φ' m V := by
  cases x with
  | d x => exact hx
  | ptr i off => obtain ⟨b, C, e, q, r⟩ := hx; exact ⟨b, C, e, by rw [hi i (by simp [Sc.ids])]; exact q, r⟩
  | eptr i k fo => obtain ⟨b, C, e, q, r⟩ := hx; exact ⟨b, C, e, by rw [hi i (by simp [Sc.ids])]; exact q, r⟩
  | row i e off len cap =>
    rcases hx with ⟨q, r⟩ | ⟨b, C, ad, k, q, r⟩
    · exact .inl ⟨by rw [hi i (by simp [Sc.ids])]; exact q, r⟩
    · exact .inr ⟨b, C, ad, k, by rw [hi i (by simp [Sc.ids])]; exact q, r⟩
  | func f caps =>
    obtain ⟨vs, q, r, s⟩ := hx
    refine ⟨vs, q, by simpa using r, fun j i off hj => ?_⟩
    obtain ⟨b, C, e, t, u⟩ := s j (g i) off (by simp [hj])
    exact ⟨b, C, e, by rw [hi i (by simp only [Sc.ids]; exact List.mem_map.2 ⟨_, List.mem_of_getElem? hj, rfl⟩)]; exact t, u⟩
  | yield l => obtain ⟨b, C, e, q, r⟩ := hx; exact ⟨b, C, e, by rw [hi l (by simp [Sc.ids])]; exact q, r⟩
  | map i => obtain ⟨b, C, e, q, r⟩ := hx; exact ⟨b, C, e, by rw [hi i (by simp [Sc.ids])]; exact q, r⟩
  | upt i e off len =>
    obtain ⟨s, p, q, r⟩ := hx
    exact ⟨s, p, by rw [hi i (by simp [Sc.ids])]; exact q, r⟩
  | junk => trivial

theorem relAll_ren {g : Nat → Nat} {φ φ' : Names} {m : Mem} {xs : List Sc} (hi : Through g φ φ' (xs.flatMap (·.ids))) {vs : List Value} (hx : relAll φ m (xs.map (·.ren g)) vs) : relAll φ' m xs vs := by
  refine ⟨by simpa using hx.1, fun j x hj => ?_⟩
  obtain ⟨v, q, r⟩ := hx.2 j (x.ren g) (by simp [hj])
  exact ⟨v, q, Sc.rel_ren (fun i hm => hi i (List.mem_flatMap.2 ⟨x, List.mem_of_getElem? hj, hm⟩)) r⟩

theorem AV.rel_ren {g : Nat → Nat} {φ φ' : Names} {m : Mem} {x : AV} (hi : Through g φ φ' x.ids) {V : Value} (hx : (x.ren g).rel φ m V) : x.rel φ' m V := by
  cases x with
  | s x => exact Sc.rel_ren hi hx
  | agg xs => obtain ⟨vs, q, r⟩ := hx; exact ⟨vs, q, relAll_ren hi r⟩

theorem AVal.rel_ren {g : Nat → Nat} {φ φ' : Names} {m : Mem} {x : AVal} (hi : Through g φ φ' x.ids) {V : Value} (hx : (x.ren g).rel φ m V) : x.rel φ' m V := by
  cases x with
  | one x => exact AV.rel_ren hi hx
  | tup xs =>
    obtain ⟨vs, q, r, s⟩ := hx
    refine ⟨vs, q, by simpa using r, fun j x hj => ?_⟩
    obtain ⟨v, t, u⟩ := s j (x.ren g) (by simp [hj])
    exact ⟨v, t, AV.rel_ren (fun i hm => hi i (List.mem_flatMap.2 ⟨x, List.mem_of_getElem? hj, hm⟩)) u⟩
  | opt b x => exact ⟨fun e => AV.rel_ren hi (hx.1 e), hx.2⟩
  | junk => trivial

theorem AObj.rel_ren {g : Nat → Nat} {φ φ' : Names} {m : Mem} {W : World} {i : Nat} (h1 : φ' i = φ (g i)) {o : AObj} (hi : Through g φ φ' o.ids) (hx : (o.ren g).rel φ m W (g i)) : o.rel φ' m W i := by
  cases o with
  | cells vs ty =>
    obtain ⟨b, C, e, cs, fr, q, r, s, t⟩ := hx
    exact ⟨b, C, e, cs, fr, by rw [h1]; exact q, r, s, relAll_ren hi t⟩
  | row es ty =>
    rcases hx with ⟨q, r⟩ | ⟨b, C, e, cs, fr, q, r⟩
    · exact .inl ⟨by rw [h1]; exact q, r⟩
    · exact .inr ⟨b, C, e, cs, fr, by rw [h1]; exact q, r⟩
  | other o => obtain ⟨b, C, e, q, r⟩ := hx; exact ⟨b, C, e, by rw [h1]; exact q, r⟩

/-- Other names: the new state's name i is the old one's g i. -/
theorem Conv.rename (g : Nat → Nat) (hfix : ∀ i, i < h → g i = i) (hh : h ≤ S'.nxt)
    (henv : ∀ p ∈ S'.env, lookN p.1 S.env = some (p.2.ren g) ∧ ∀ i ∈ p.2.ids, i < S'.nxt)
    (hheap : ∀ p ∈ S'.heap, p.1 < S'.nxt ∧ lookN (g p.1) S.heap = some (p.2.ren g) ∧ ∀ i ∈ p.2.ids, i < S'.nxt)
    (hinj : ∀ p ∈ S'.heap, ∀ q ∈ S'.heap, g p.1 = g q.1 → p.1 = q.1) : Conv N h S S' := by
  intro c φ m a W _ h0 hc
  refine ⟨fun i => if i < S'.nxt then φ (g i) else none, m, ?_⟩
  have hobj : ∀ i o, S'.fn (.h i) = .o o → i < S'.nxt ∧ S.fn (.h (g i)) = .o (o.ren g) ∧ (i, o) ∈ S'.heap ∧ ∀ k ∈ o.ids, k < S'.nxt := by
    intro i o hi
    simp only [St.fn] at hi
    cases hl : lookN i S'.heap with
    | none => rw [hl] at hi; simp only at hi; split at hi <;> cases hi
    | some o' =>
      rw [hl] at hi
      simp only [Ent.o.injEq] at hi
      subst hi
      have hm := lookN_mem hl
      obtain ⟨q1, q2, q3⟩ := hheap _ hm
      exact ⟨q1, fn_h q2, hm, q3⟩
  refine { os := hc.os, out := hc.out, tape := hc.tape, size := hc.size, frame := hc.frame, mem := hc.mem, m0 := hc.m0, mnew := hc.mnew, ext := ?_, obj := ?_, own := ?_, inj := ?_, free := ?_, env := ?_, nt := hc.nt }
  · intro i s hs
    have hi : i < h := by
      by_cases hx : h ≤ i
      · rw [h0 i hx] at hs; cases hs
      · omega
    simp only [if_pos (Nat.lt_of_lt_of_le hi hh), hfix i hi]
    exact hc.ext i s hs
  · intro i o hi
    obtain ⟨q1, q2, q3, q4⟩ := hobj i o hi
    exact AObj.rel_ren (g := g) (φ := φ) (by simp [q1]) (fun k hk => by simp [q4 k hk]) (hc.obj _ _ q2)
  · intro i o b C e hi hb
    obtain ⟨q1, q2, q3, q4⟩ := hobj i o hi
    simp only [if_pos q1] at hb
    exact hc.own _ _ b C e q2 hb
  · intro i j o o' b C e C' e' hi hj hb hb'
    obtain ⟨q1, q2, q3, q4⟩ := hobj i o hi
    obtain ⟨r1, r2, r3, r4⟩ := hobj j o' hj
    simp only [if_pos q1] at hb
    simp only [if_pos r1] at hb'
    exact hinj _ q3 _ r3 (hc.inj _ _ _ _ b C e C' e' q2 r2 hb hb')
  · intro i hi
    simp only [St.fn] at hi
    cases hl : lookN i S'.heap with
    | some o => rw [hl] at hi; cases hi
    | none =>
      rw [hl] at hi
      simp only at hi
      split at hi
      · rename_i hx; simp [show ¬ i < S'.nxt by omega]
      · cases hi
  · intro t v hv
    simp only [St.fn] at hv
    cases hl : lookN t S'.env with
    | none => rw [hl] at hv; cases hv
    | some v' =>
      rw [hl] at hv
      simp only [Ent.v.injEq] at hv
      subst hv
      obtain ⟨q1, q2⟩ := henv _ (lookN_mem hl)
      obtain ⟨V, r1, r2⟩ := hc.env t _ (fn_t q1)
      exact ⟨V, r1, AVal.rel_ren (fun i hi => by simp [q2 i hi]) r2⟩

end
end Go.Proofs.Hg

/- How a function ends: its results; rows in them that become values. -/
set_option linter.unusedVariables false
set_option linter.unusedSimpArgs false
namespace Go.Proofs.Hg
open Go.RowKit

section
variable {P : Program} {N h : Nat} {c : Ctx} {φ : Names} {m : Mem} {f : StF} {a : Act} {W : World}

def pack : List AV → AVal
  | [x] => .one x
  | xs => .tup xs

def cellVal (T : Tab) (S : St) (i off : Nat) (t : TypeId) : Option (AV × Prop) :=
  match lookN i S.heap, lookN t T with
  | some (.cells vs _), some ti => if ti.kind.agg then some (.agg ((vs.drop off).take ti.size), off + ti.size ≤ vs.length) else some (.s (vs.getD off .junk), off < vs.length)
  | _, _ => none

def evRes (T : Tab) (S : St) : List ResultVar → Option (List AV × Prop)
  | [] => some ([], True)
  | .tmp t :: r => match lookN t S.env, evRes T S r with
    | some (.one x), some q => some (x :: q.1, q.2)
    | _, _ => none
  | .cell p t :: r => match lookN p S.env, evRes T S r with
    | some (.one (.s (.ptr i off))), some q => (match cellVal T S i off t with
      | some z => some (z.1 :: q.1, z.2 ∧ q.2)
      | none => none)
    | _, _ => none

theorem cellVal_ok {T : Tab} (hT : TabOk P T) {S : St} (hc : RelC c φ m S.fn a W) {i off : Nat} {t : TypeId} {z : AV × Prop} (hz : cellVal T S i off t = some z) (hob : z.2) {V : Value} (hV : (Sc.ptr i off).rel φ m V) :
    ∃ u, (do loadVar t (← asAddr V) : Sem Value).run P W = .ok u W ∧ z.1.rel φ m u := by
  obtain ⟨b, C, e, hb, rfl⟩ := hV
  unfold cellVal at hz
  split at hz
  · rename_i vs ty ti hH ht
    obtain ⟨b', C', e', cs, fr', h1, h2, h3, h4⟩ := hc.obj i _ (fn_h hH)
    rw [hb] at h1
    injection h1 with h1
    injection h1 with e1 _ _
    subst e1
    split at hz
    · rename_i hag
      injection hz with hz
      subst hz
      have hl : ((cs.toList.drop off).take ti.size).length = ti.size := by have := h4.1; simp at this hob ⊢; omega
      refine ⟨_, run_loadVar_agg (hT.at ht) hag hl fun j v hj => ?_, _, rfl, relAll_drop_take h4 off ti.size⟩
      rw [cell_heap h2]
      rw [List.getElem?_take] at hj
      split at hj
      · rw [List.getElem?_drop] at hj; simpa using hj
      · cases hj
    · rename_i hag
      injection hz with hz
      subst hz
      obtain ⟨v, h5, h6⟩ := h4.2 off vs[off] (List.getElem?_eq_getElem hob)
      refine ⟨v, run_loadVar_one (hT.at ht) (by simpa using hag) (by rw [cell_heap h2]; simpa using h5), ?_⟩
      simp only [AV.rel, List.getD_eq_getElem?_getD, List.getElem?_eq_getElem hob, Option.getD_some]
      exact h6
  · cases hz

def resOne (tmps : Array Value) : ResultVar → Sem Value
  | .tmp t => pure (tmps.getD t undef)
  | .cell a t => do loadVar t (← asAddr (tmps.getD a undef))

theorem run_listM {α β : Type} {g : α → Sem β} {W : World} : ∀ (l : List α) (vs : List β), vs.length = l.length → (∀ (j : Nat) (x : α), l[j]? = some x → ∃ v, vs[j]? = some v ∧ (g x).run P W = .ok v W) → (l.mapM g).run P W = .ok vs W
  | [], vs, hl, _ => by
    have : vs = [] := List.eq_nil_of_length_eq_zero (by simpa using hl)
    subst this
    simp
  | x :: l, [], hl, _ => by simp at hl
  | x :: l, v :: vs, hl, hv => by
    obtain ⟨v', h1, h2⟩ := hv 0 x rfl
    simp at h1
    subst h1
    have ih := run_listM (g := g) l vs (by simpa using hl) (fun j y hj => by simpa using hv (j + 1) y (by simpa using hj))
    simp [List.mapM_cons, h2, ih]

theorem evRes_ok {T : Tab} (hT : TabOk P T) {S : St} (hc : RelC c φ m S.fn a W) : ∀ (l : List ResultVar) (vs : List AV) (ob : Prop), evRes T S l = some (vs, ob) → ob →
    ∃ us : List Value, us.length = l.length ∧ vs.length = l.length ∧ (∀ (j : Nat) (r : ResultVar), l[j]? = some r → ∃ u, us[j]? = some u ∧ (resOne a.tmps r).run P W = .ok u W) ∧
      ∀ (j : Nat) (x : AV), vs[j]? = some x → ∃ u, us[j]? = some u ∧ x.rel φ m u
  | [], vs, ob, he, ho => by
    simp only [evRes, Option.some.injEq, Prod.mk.injEq] at he
    obtain ⟨rfl, _⟩ := he
    exact ⟨[], rfl, rfl, fun j r hj => by simp at hj, fun j x hj => by simp at hj⟩
  | .tmp t :: r, vs, ob, he, ho => by
    simp only [evRes] at he
    split at he
    · rename_i x q hx hq
      simp only [Option.some.injEq, Prod.mk.injEq] at he
      obtain ⟨rfl, rfl⟩ := he
      obtain ⟨us, i1, i2, i3, i4⟩ := evRes_ok hT hc r q.1 q.2 hq ho
      obtain ⟨V, v1, v2⟩ := hc.env t _ (fn_t hx)
      refine ⟨V :: us, by simp [i1], by simp [i2], fun j y hj => ?_, fun j y hj => ?_⟩
      · cases j with
        | zero =>
          simp at hj; subst hj
          refine ⟨V, rfl, ?_⟩
          simp [resOne, v1]
        | succ j => simpa using i3 j y (by simpa using hj)
      · cases j with
        | zero => simp at hj; subst hj; exact ⟨V, rfl, v2⟩
        | succ j => simpa using i4 j y (by simpa using hj)
    · cases he
  | .cell p t :: r, vs, ob, he, ho => by
    simp only [evRes] at he
    split at he
    · rename_i i off q hx hq
      split at he
      · rename_i z hz
        simp only [Option.some.injEq, Prod.mk.injEq] at he
        obtain ⟨rfl, rfl⟩ := he
        obtain ⟨us, i1, i2, i3, i4⟩ := evRes_ok hT hc r q.1 q.2 hq ho.2
        obtain ⟨V, v1, v2⟩ := hc.env p _ (fn_t hx)
        obtain ⟨u, u1, u2⟩ := cellVal_ok hT hc hz ho.1 v2
        have hrun : (resOne a.tmps (.cell p t)).run P W = .ok u W := by
          have : a.tmps.getD p undef = V := by simp [v1]
          simp only [resOne, this]
          exact u1
        refine ⟨u :: us, by simp [i1], by simp [i2], fun j y hj => ?_, fun j y hj => ?_⟩
        · cases j with
          | zero => simp at hj; subst hj; exact ⟨u, rfl, hrun⟩
          | succ j => simpa using i3 j y (by simpa using hj)
        · cases j with
          | zero => simp at hj; subst hj; exact ⟨u, rfl, u2⟩
          | succ j => simpa using i4 j y (by simpa using hj)
      · cases he
    · cases he

/-- Where a function ends: its value, and a state that says what is left. -/
def EndsTo (P : Program) (fn : Func) (h : Nat) (S : St) (val : AVal) (S2 : St) : Prop :=
  ∀ (c : Ctx) (φ : Names) (m : Mem) (a : Act) (W : World), c.nt = fn.ntmps → (∀ i, h ≤ i → c.φ0 i = none) → RelC c φ m S.fn a W →
    ∃ φ' m' V, RelC c φ' m' S2.fn a W ∧ (results fn a.tmps).run P W = .ok V W ∧ val.rel φ' m' V

theorem results_eq (fn : Func) (tmps : Array Value) : results fn tmps = (do let vs ← fn.results.mapM (resOne tmps); pure (if h : vs.size = 1 then vs[0] else .tuple vs)) := by
  unfold results
  congr 1

theorem EndsTo.read {T : Tab} (hT : TabOk P T) {fn : Func} {S : St} {vs : List AV} {ob : Prop} (he : evRes T S fn.results.toList = some (vs, ob)) (ho : ob) : EndsTo P fn h S (pack vs) S := by
  intro c φ m a W hN h0 hc
  obtain ⟨us, i1, i2, i3, i4⟩ := evRes_ok hT hc _ _ _ he ho
  have hrun := run_listM (P := P) (W := W) (g := resOne a.tmps) fn.results.toList us i1 i3
  refine ⟨φ, m, if hh : us.length = 1 then us[0] else .tuple us.toArray, hc, ?_, ?_⟩
  · rw [results_eq, Array.mapM_eq_mapM_toList]
    simp only [Sem.run_bind, Sem.run_map, hrun, Result.andThen]
    simp
  · have hl : us.length = vs.length := by rw [i1, i2]
    match vs, us, hl, i4 with
    | [], [], _, _ => exact ⟨[], rfl, rfl, fun j x hj => by simp at hj⟩
    | [x], [u], _, i4 =>
      obtain ⟨v, q1, q2⟩ := i4 0 x rfl
      simp at q1
      subst q1
      exact q2
    | x :: y :: vs, u :: w :: us, hl, i4 =>
      have : ¬ (u :: w :: us).length = 1 := by simp
      rw [dif_neg this]
      exact ⟨_, rfl, hl, i4⟩

/-- Rows in the results become values. -/
def frzAV (H : Heap) : AV → Option (AV × List (Nat × AObj) × Prop)
  | .s x => (frzL H [x]).map fun l => (.s (.d ((l.map (·.d)).getD 0 .nilp)), kills l, ∀ z ∈ l, z.ob)
  | .agg xs => (frzL H xs).map fun l => (.agg (l.map fun z => .d z.d), kills l, ∀ z ∈ l, z.ob)

def frzVs (H : Heap) : List AV → Option (List AV × List (Nat × AObj) × Prop)
  | [] => some ([], [], True)
  | x :: r => match frzAV H x, frzVs H r with
    | some p, some q => some (p.1 :: q.1, p.2.1 ++ q.2.1, p.2.2 ∧ q.2.2)
    | _, _ => none

def eraseL {α : Type} (ks : List Nat) (l : List (Nat × α)) : List (Nat × α) := ks.foldr (fun k l => eraseN k l) l

theorem lookN_eraseL {α : Type} (n : Nat) : ∀ (ks : List Nat) (l : List (Nat × α)), lookN n (eraseL ks l) = if n ∈ ks then none else lookN n l
  | [], l => rfl
  | k :: ks, l => by
    simp only [eraseL, List.foldr_cons, lookN_erase]
    have ih := lookN_eraseL n ks l
    simp only [eraseL] at ih
    rw [ih]
    by_cases h1 : n = k
    · simp [h1]
    · simp [h1]

theorem killW_append (a b : List (Nat × AObj)) : killW (a ++ b) = killW a ++ killW b := by simp [killW]
theorem wrApp_append (a b : List (Nat × Ent)) (f : StF) : wrApp (a ++ b) f = wrApp a (wrApp b f) := by
  induction a with
  | nil => rw [wrApp_nil]; rfl
  | cons p a ih => rw [List.cons_append, wrApp_cons, wrApp_cons, ih]

theorem frzAV_ok {H : Heap} {x : AV} {q : AV × List (Nat × AObj) × Prop} (hq : frzAV H x = some q) (hob : q.2.2) (hk : ∀ p ∈ q.2.1, f (.h p.1) = .o p.2) (hn : (q.2.1.map (·.1)).Nodup) (hc : RelC c φ m f a W) {V : Value} (hx : x.rel φ m V) :
    ∃ m', RelC c φ m' (wrApp (killW q.2.1) f) a W ∧ MemLe m m' ∧ q.1.rel φ m' V := by
  cases x with
  | s x =>
    simp only [frzAV, Option.map_eq_some_iff] at hq
    obtain ⟨l, h1, rfl⟩ := hq
    obtain ⟨m', g1, g2, g3⟩ := frzL_ok [x] l [V] m h1 hob hk hn ⟨rfl, fun j y hj => by
      cases j with
      | zero => simp at hj; subst hj; exact ⟨V, rfl, hx⟩
      | succ j => simp at hj⟩ hc
    refine ⟨m', g1, g2, ?_⟩
    have hl : l.length = 1 := by have := g3.1; simp at this; omega
    match l, hl with
    | [z], _ =>
      obtain ⟨v, q1, q2⟩ := g3.2 0 _ rfl
      simp at q1
      subst q1
      exact q2
  | agg xs =>
    simp only [frzAV, Option.map_eq_some_iff] at hq
    obtain ⟨l, h1, rfl⟩ := hq
    obtain ⟨vs, rfl, h2⟩ := hx
    obtain ⟨m', g1, g2, g3⟩ := frzL_ok xs l vs m h1 hob hk hn h2 hc
    exact ⟨m', g1, g2, vs, rfl, g3⟩

theorem frzVs_ok {H : Heap} : ∀ (vs : List AV) (us : List Value) (q : List AV × List (Nat × AObj) × Prop) (m : Mem), frzVs H vs = some q → q.2.2 → (∀ p ∈ q.2.1, f (.h p.1) = .o p.2) → (q.2.1.map (·.1)).Nodup →
    us.length = vs.length → (∀ (j : Nat) (x : AV), vs[j]? = some x → ∃ u, us[j]? = some u ∧ x.rel φ m u) → RelC c φ m f a W →
    ∃ m', RelC c φ m' (wrApp (killW q.2.1) f) a W ∧ MemLe m m' ∧ us.length = q.1.length ∧ ∀ (j : Nat) (x : AV), q.1[j]? = some x → ∃ u, us[j]? = some u ∧ x.rel φ m' u
  | [], us, q, m, hq, _, _, _, hl, _, hc => by
    simp only [frzVs, Option.some.injEq] at hq
    subst hq
    exact ⟨m, hc, MemLe.refl m, hl, fun j x hj => by simp at hj⟩
  | x :: vs, [], q, m, hq, _, _, _, hl, _, hc => by simp at hl
  | x :: vs, u :: us, q, m, hq, hob, hk, hn, hl, hv, hc => by
    simp only [frzVs] at hq
    split at hq
    · rename_i p q2 hp hq2
      simp only [Option.some.injEq] at hq
      subst hq
      simp only [List.map_append, List.nodup_append] at hn
      obtain ⟨n1, n2, n3⟩ := hn
      obtain ⟨m1, c1, l1, e1, r1⟩ := frzVs_ok vs us q2 m hq2 hob.2 (fun z hz => hk z (List.mem_append_right _ hz)) n2 (by simpa using hl) (fun j y hj => by simpa using hv (j + 1) y (by simpa using hj)) hc
      obtain ⟨v0, q0, r0⟩ := hv 0 x rfl
      simp at q0
      subst q0
      obtain ⟨m2, c2, l2, r2⟩ := frzAV_ok hp hob.1 (f := wrApp (killW q2.2.1) f) (fun z hz => by
        rw [wrApp_ne]
        · exact hk z (List.mem_append_left _ hz)
        · intro w hw e
          simp only [killW, List.mem_map] at hw
          obtain ⟨y, hy, rfl⟩ := hw
          exact n3 _ (List.mem_map.2 ⟨z, hz, rfl⟩) _ (List.mem_map.2 ⟨y, hy, rfl⟩) e.symm) n1 c1 (AV.rel_le (NamesLe.refl φ) l1 x _ r0)
      refine ⟨m2, by rw [killW_append, wrApp_append]; exact c2, l1.trans l2, by simp [e1], fun j y hj => ?_⟩
      cases j with
      | zero => simp at hj; subst hj; exact ⟨u, rfl, r2⟩
      | succ j =>
        obtain ⟨w, w1, w2⟩ := r1 j y (by simpa using hj)
        exact ⟨w, by simpa using w1, AV.rel_le (NamesLe.refl φ) l2 y w w2⟩
    · cases hq

theorem pack_rel {vs : List AV} {V : Value} (hv : (pack vs).rel φ m V) : ∃ us : List Value, us.length = vs.length ∧ (∀ (j : Nat) (x : AV), vs[j]? = some x → ∃ u, us[j]? = some u ∧ x.rel φ m u) ∧
    ∀ (φ' : Names) (m' : Mem) (vs' : List AV), us.length = vs'.length → (∀ (j : Nat) (x : AV), vs'[j]? = some x → ∃ u, us[j]? = some u ∧ x.rel φ' m' u) → (pack vs').rel φ' m' V := by
  match vs with
  | [] =>
    obtain ⟨us, rfl, h1, h2⟩ := hv
    refine ⟨us, h1, h2, fun φ' m' vs' hl h3 => ?_⟩
    have : vs' = [] := List.eq_nil_of_length_eq_zero (by simp at h1; simp [h1] at hl; exact hl.symm)
    subst this
    exact ⟨us, rfl, hl, h3⟩
  | [x] =>
    refine ⟨[V], rfl, fun j y hj => ?_, fun φ' m' vs' hl h3 => ?_⟩
    · cases j with
      | zero => simp at hj; subst hj; exact ⟨V, rfl, hv⟩
      | succ j => simp at hj
    · match vs', hl with
      | [y], _ =>
        obtain ⟨u, q1, q2⟩ := h3 0 y rfl
        simp at q1
        subst q1
        exact q2
  | x :: y :: vs =>
    obtain ⟨us, rfl, h1, h2⟩ := hv
    refine ⟨us, h1, h2, fun φ' m' vs' hl h3 => ?_⟩
    match vs', hl with
    | [], hl => rw [h1] at hl; simp at hl
    | [z], hl => rw [h1] at hl; simp at hl
    | z :: w :: vs', hl => exact ⟨us, rfl, hl, h3⟩

theorem EndsTo.freeze {fn : Func} {S S1 : St} {vs vs' : List AV} {ks : List (Nat × AObj)} {ob : Prop} (he : EndsTo P fn h S (pack vs) S1) (hf : frzVs S1.H vs = some (vs', ks, ob)) (ho : ob) (hn : (ks.map (·.1)).Nodup)
    (hk : ∀ p ∈ ks, lookN p.1 S1.heap = some p.2 ∧ p.1 < S1.nxt) : EndsTo P fn h S (pack vs') ⟨S1.env, eraseL (ks.map (·.1)) S1.heap, S1.nxt⟩ := by
  intro c φ m a W hN h0 hc
  obtain ⟨φ1, m1, V, c1, r1, v1⟩ := he c φ m a W hN h0 hc
  obtain ⟨us, l1, u1, u2⟩ := pack_rel v1
  obtain ⟨m2, c2, l2, e2, q2⟩ := frzVs_ok vs us _ m1 hf ho (fun p hp => fn_h (hk p hp).1) hn l1 u1 c1
  refine ⟨φ1, m2, V, c2.weaken fun k => ?_, r1, u2 _ _ _ e2 q2⟩
  cases k with
  | t n => exact .inr (wrApp_t _ _ n).symm
  | h n =>
    simp only [St.fn, lookN_eraseL]
    by_cases hm : n ∈ ks.map (·.1)
    · left
      obtain ⟨p, hp, rfl⟩ := List.mem_map.1 hm
      have := (hk p hp).2
      simp only [if_pos hm]
      rw [if_neg (by omega)]
    · right
      rw [wrApp_ne]
      · simp only [if_neg hm]; rfl
      · intro z hz e
        simp only [killW, List.mem_map] at hz
        obtain ⟨y, hy, rfl⟩ := hz
        exact hm (List.mem_map.2 ⟨y, hy, e⟩)

end
end Go.Proofs.Hg

/- Calls: what a function's body does, told to its caller. -/
set_option linter.unusedVariables false
set_option linter.unusedSimpArgs false
namespace Go.Proofs.Hg
open Go.RowKit

section
variable {P : Program}

/-! ### from the inner names to the outer -/
theorem Sc.rel_unren {g : Nat → Nat} {φ φ' : Names} {m : Mem} {x : Sc} (hi : Through g φ φ' x.ids) {V : Value} (hx : x.rel φ' m V) : (x.ren g).rel φ m V := by
  cases x with
  | d x => exact hx
  | ptr i off => obtain ⟨b, C, e, q, r⟩ := hx; exact ⟨b, C, e, by rw [← hi i (by simp [Sc.ids])]; exact q, r⟩
  | eptr i k fo => obtain ⟨b, C, e, q, r⟩ := hx; exact ⟨b, C, e, by rw [← hi i (by simp [Sc.ids])]; exact q, r⟩
  | row i e off len cap =>
    rcases hx with ⟨q, r⟩ | ⟨b, C, ad, k, q, r⟩
    · exact .inl ⟨by rw [← hi i (by simp [Sc.ids])]; exact q, r⟩
    · exact .inr ⟨b, C, ad, k, by rw [← hi i (by simp [Sc.ids])]; exact q, r⟩
  | func f caps =>
    obtain ⟨vs, q, r, s⟩ := hx
    refine ⟨vs, q, by simpa using r, fun j i off hj => ?_⟩
    simp only [List.getElem?_map, Option.map_eq_some_iff, Prod.mk.injEq] at hj
    obtain ⟨p, hp, rfl, rfl⟩ := hj
    obtain ⟨b, C, e, t, u⟩ := s j p.1 p.2 hp
    exact ⟨b, C, e, by rw [← hi p.1 (by simp only [Sc.ids]; exact List.mem_map.2 ⟨_, List.mem_of_getElem? hp, rfl⟩)]; exact t, u⟩
  | yield l => obtain ⟨b, C, e, q, r⟩ := hx; exact ⟨b, C, e, by rw [← hi l (by simp [Sc.ids])]; exact q, r⟩
  | map i => obtain ⟨b, C, e, q, r⟩ := hx; exact ⟨b, C, e, by rw [← hi i (by simp [Sc.ids])]; exact q, r⟩
  | upt i e off len =>
    obtain ⟨s, p, q, r⟩ := hx
    exact ⟨s, p, by rw [← hi i (by simp [Sc.ids])]; exact q, r⟩
  | junk => trivial

theorem relAll_unren {g : Nat → Nat} {φ φ' : Names} {m : Mem} {xs : List Sc} (hi : Through g φ φ' (xs.flatMap (·.ids))) {vs : List Value} (hx : relAll φ' m xs vs) : relAll φ m (xs.map (·.ren g)) vs := by
  refine ⟨by simpa using hx.1, fun j x hj => ?_⟩
  simp only [List.getElem?_map, Option.map_eq_some_iff] at hj
  obtain ⟨y, hy, rfl⟩ := hj
  obtain ⟨v, q, r⟩ := hx.2 j y hy
  exact ⟨v, q, Sc.rel_unren (fun i hm => hi i (List.mem_flatMap.2 ⟨y, List.mem_of_getElem? hy, hm⟩)) r⟩

theorem AV.rel_unren {g : Nat → Nat} {φ φ' : Names} {m : Mem} {x : AV} (hi : Through g φ φ' x.ids) {V : Value} (hx : x.rel φ' m V) : (x.ren g).rel φ m V := by
  cases x with
  | s x => exact Sc.rel_unren hi hx
  | agg xs => obtain ⟨vs, q, r⟩ := hx; exact ⟨vs, q, relAll_unren hi r⟩

theorem AVal.rel_unren {g : Nat → Nat} {φ φ' : Names} {m : Mem} {x : AVal} (hi : Through g φ φ' x.ids) {V : Value} (hx : x.rel φ' m V) : (x.ren g).rel φ m V := by
  cases x with
  | one x => exact AV.rel_unren hi hx
  | tup xs =>
    obtain ⟨vs, q, r, s⟩ := hx
    refine ⟨vs, q, by simpa using r, fun j x hj => ?_⟩
    simp only [List.getElem?_map, Option.map_eq_some_iff] at hj
    obtain ⟨y, hy, rfl⟩ := hj
    obtain ⟨v, t, u⟩ := s j y hy
    exact ⟨v, t, AV.rel_unren (fun i hm => hi i (List.mem_flatMap.2 ⟨y, List.mem_of_getElem? hy, hm⟩)) u⟩
  | opt b x => exact ⟨fun e => AV.rel_unren hi (hx.1 e), hx.2⟩
  | junk => trivial

theorem AObj.rel_unren {g : Nat → Nat} {φ φ' : Names} {m : Mem} {W : World} {i : Nat} (h1 : φ' i = φ (g i)) {o : AObj} (hi : Through g φ φ' o.ids) (hx : o.rel φ' m W i) : (o.ren g).rel φ m W (g i) := by
  cases o with
  | cells vs ty =>
    obtain ⟨b, C, e, cs, fr, q, r, s, t⟩ := hx
    exact ⟨b, C, e, cs, fr, by rw [← h1]; exact q, r, s, relAll_unren hi t⟩
  | row es ty =>
    rcases hx with ⟨q, r⟩ | ⟨b, C, e, cs, fr, q, r⟩
    · exact .inl ⟨by rw [← h1]; exact q, r⟩
    · exact .inr ⟨b, C, e, cs, fr, by rw [← h1]; exact q, r⟩
  | other o => obtain ⟨b, C, e, q, r⟩ := hx; exact ⟨b, C, e, by rw [← h1]; exact q, r⟩

/-- A call as its caller and its body see it: the function, the state that its body starts from, how many objects are handed on, their names at the caller; at the end: the value, the state, the name of the object that is new to the caller (if there is one) and the names at the caller of what is left. -/
structure CallIn where
  fn : Func
  code : Code
  S0 : St
  k : Nat
  g0 : Nat → Nat

structure CallOut where
  val : AVal
  S2 : St
  ex : Option Nat
  g1 : Nat → Nat

/-- The names that are told to the caller. -/
def CallOut.told (o : CallOut) (i : CallIn) (fresh : Nat) (x : Nat) : Prop := (x < i.k ∧ (lookN x i.S0.heap).isSome = true ∧ o.g1 x = i.g0 x) ∨ (o.ex = some x ∧ i.k ≤ x ∧ o.g1 x = fresh)

/-- What the caller learns. -/
structure Told (i : CallIn) (o : CallOut) (fresh : Nat) (r : Res) : Prop where
  val : r.val = o.val.ren o.g1
  plain : ∀ b x, o.val ≠ .opt b x
  vids : ∀ x ∈ o.val.ids, o.told i fresh x
  fr : r.fr = o.ex.isSome
  exn : ∀ x, o.ex = some x → ∃ p ∈ r.wr, p.1 = fresh ∧ p.2 ≠ .none
  hand : ∀ p ∈ i.S0.heap, ∃ q ∈ r.wr, q.1 = i.g0 p.1
  wr : ∀ p ∈ r.wr, (p.2 = .none ∧ ∃ x ∈ i.S0.heap, p.1 = i.g0 x.1) ∨ ∃ x ob, lookN x o.S2.heap = some ob ∧ p.1 = o.g1 x ∧ p.2 = .o (ob.ren o.g1) ∧ o.told i fresh x ∧ ∀ y ∈ ob.ids, o.told i fresh y

/-- What the caller must have. -/
structure Handed (i : CallIn) (nargs : Nat) (r : Res) (args : List AV) : Prop where
  len : args.length = nargs ∧ nargs ≤ i.fn.ntmps
  env : ∀ p ∈ i.S0.env, ∃ x, args[p.1]? = some x ∧ p.2.ren i.g0 = .one x ∧ ∀ y ∈ p.2.ids, y < i.k
  heap : ∀ p ∈ i.S0.heap, p.1 < i.k ∧ (i.g0 p.1, p.2.ren i.g0) ∈ r.rd ∧ ∀ y ∈ p.2.ids, y < i.k
  nxt : i.S0.nxt = i.k
  inj : ∀ p ∈ i.S0.heap, ∀ q ∈ i.S0.heap, i.g0 p.1 = i.g0 q.1 → p.1 = q.1

variable {c : Ctx} {φ : Names} {m : Mem} {f : StF} {a : Act} {W : World}

def inCtx (i : CallIn) (φ : Names) (m : Mem) (W : World) : Ctx :=
  { w0 := W, m0 := m, φ0 := fun x => if x < i.k then φ (i.g0 x) else none
    X := fun b => ∃ x o C e, lookN x i.S0.heap = some o ∧ φ (i.g0 x) = some (.blk b C e)
    nt := i.fn.ntmps }

theorem call_start {i : CallIn} {nargs : Nat} {r : Res} {args : List AV} (hh : Handed i nargs r args) {fresh : Nat} (hrd : r.Reads fresh f) (hc : RelC c φ m f a W) {vals : List Value} (hl : vals.length = args.length)
    (hv : ∀ (j : Nat) (x : AV), args[j]? = some x → ∃ V, vals[j]? = some V ∧ x.rel φ m V) :
    RelC (inCtx i φ m W) (inCtx i φ m W).φ0 m i.S0.fn { tmps := vals.toArray ++ Array.replicate (i.fn.ntmps - vals.toArray.size) undef, defers := [] } W := by
  have hthr : ∀ (is : List Nat), (∀ y ∈ is, y < i.k) → Through i.g0 φ (inCtx i φ m W).φ0 is := fun is hs y hy => by simp only [inCtx]; rw [if_pos (hs y hy)]
  have hobj : ∀ x o, i.S0.fn (.h x) = .o o → (x, o) ∈ i.S0.heap ∧ lookN x i.S0.heap = some o := by
    intro x o hx
    simp only [St.fn] at hx
    cases hl : lookN x i.S0.heap with
    | none => rw [hl] at hx; simp only at hx; split at hx <;> cases hx
    | some o' =>
      rw [hl] at hx
      simp only [Ent.o.injEq] at hx
      subst hx
      exact ⟨lookN_mem hl, rfl⟩
  have hcall : ∀ x o, (x, o) ∈ i.S0.heap → f (.h (i.g0 x)) = .o (o.ren i.g0) := fun x o hx => hrd.1 _ (hh.heap _ hx).2.1
  refine { os := rfl, out := rfl, tape := rfl, size := Nat.le_refl _, frame := fun _ _ _ => rfl, mem := hc.mem, m0 := MemLe.refl m, mnew := fun _ _ h => .inl h, ext := NamesLe.refl _, obj := ?_, own := ?_, inj := ?_, free := ?_, env := ?_, nt := ?_ }
  · intro x o hx
    obtain ⟨h1, h2⟩ := hobj x o hx
    exact AObj.rel_ren (g := i.g0) (φ := φ) (by simp only [inCtx]; rw [if_pos (hh.heap _ h1).1]) (hthr _ (hh.heap _ h1).2.2) (hc.obj _ _ (hcall x o h1))
  · intro x o b C e hx hb
    obtain ⟨h1, h2⟩ := hobj x o hx
    simp only [inCtx] at hb
    rw [if_pos (hh.heap _ h1).1] at hb
    obtain ⟨q1, q2, q3⟩ := hc.own _ _ b C e (hcall x o h1) hb
    exact ⟨.inr ⟨x, o, C, e, h2, hb⟩, q2, q3⟩
  · intro x y o o' b C e C' e' hx hy hb hb'
    obtain ⟨h1, _⟩ := hobj x o hx
    obtain ⟨h2, _⟩ := hobj y o' hy
    simp only [inCtx] at hb hb'
    rw [if_pos (hh.heap _ h1).1] at hb
    rw [if_pos (hh.heap _ h2).1] at hb'
    exact hh.inj _ h1 _ h2 (hc.inj _ _ _ _ b C e C' e' (hcall x o h1) (hcall y o' h2) hb hb')
  · intro x hx
    simp only [St.fn] at hx
    cases hl : lookN x i.S0.heap with
    | some o => rw [hl] at hx; cases hx
    | none =>
      rw [hl] at hx
      simp only [hh.nxt] at hx
      split at hx
      · rename_i hk; simp only [inCtx]; rw [if_neg (by omega)]
      · cases hx
  · intro t v ht
    simp only [St.fn] at ht
    cases hl' : lookN t i.S0.env with
    | none => rw [hl'] at ht; cases ht
    | some v' =>
      rw [hl'] at ht
      simp only [Ent.v.injEq] at ht
      subst ht
      obtain ⟨x, h1, h2, h3⟩ := hh.env _ (lookN_mem hl')
      obtain ⟨V, h4, h5⟩ := hv t x h1
      refine ⟨V, ?_, AVal.rel_ren (g := i.g0) (φ := φ) (hthr _ h3) (by rw [h2]; exact h5)⟩
      have hlt := (List.getElem?_eq_some_iff.1 h4).1
      rw [Array.getElem?_append_left (by simpa using hlt)]
      simpa using h4
  · have := hh.len
    simp only [inCtx, Array.size_append, List.size_toArray, Array.size_replicate]
    omega

theorem wrApp_cases (wr : List (Nat × Ent)) (f : StF) (n : Nat) : (wrApp wr f (.h n) = f (.h n) ∧ ∀ p ∈ wr, p.1 ≠ n) ∨ ∃ p ∈ wr, p.1 = n ∧ wrApp wr f (.h n) = p.2 := by
  induction wr with
  | nil => exact .inl ⟨rfl, fun p hp => by simp at hp⟩
  | cons p wr ih =>
    rw [wrApp_cons]
    by_cases e : n = p.1
    · subst e; exact .inr ⟨p, List.mem_cons_self .., rfl, upd_self _ _ _⟩
    · rw [upd_other (by simpa using e)]
      rcases ih with ⟨h1, h2⟩ | ⟨q, h1, h2⟩
      · exact .inl ⟨h1, fun q hq => by rcases List.mem_cons.1 hq with rfl | h; exact fun x => e x.symm; exact h2 q h⟩
      · exact .inr ⟨q, List.mem_cons_of_mem _ h1, h2⟩

theorem call_end {i : CallIn} {nargs : Nat} {r : Res} {args : List AV} (hh : Handed i nargs r args) {o : CallOut} {fresh : Nat} (ht : Told i o fresh r) (hrd : r.Reads fresh f) (hc : RelC c φ m f a W)
    {φc : Names} {mc : Mem} {a' : Act} {W' : World} (he : RelC (inCtx i φ m W) φc mc o.S2.fn a' W') {V : Value} (hval : o.val.rel φc mc V) :
    ∃ φ' m', RelC c φ' m' (wrApp r.wr f) a W' ∧ NamesLe φ φ' ∧ MemLe m m' ∧ r.val.rel φ' m' V := by
  have hcall : ∀ x o, (x, o) ∈ i.S0.heap → f (.h (i.g0 x)) = .o (o.ren i.g0) := fun x o hx => hrd.1 _ (hh.heap _ hx).2.1
  -- the caller's names behind the call
  let φ2 : Names := match o.ex with | some x => (match φc x with | some s => updN φ fresh s | none => φ) | none => φ
  have hfree : o.ex.isSome = true → φ fresh = none := fun hx => hc.free _ (hrd.2 (by rw [ht.fr]; exact hx))
  have hle : NamesLe φ φ2 := by
    simp only [φ2]
    split
    · rename_i x hx
      split
      · exact updN_le _ (hfree (by simp [hx]))
      · exact NamesLe.refl φ
    · exact NamesLe.refl φ
  have hnamed : ∀ x, x < i.k → (lookN x i.S0.heap).isSome = true → ∃ s, φ (i.g0 x) = some s ∧ φc x = some s := by
    intro x hx hs
    obtain ⟨ob, hob⟩ := Option.isSome_iff_exists.1 hs
    obtain ⟨s, hs1⟩ := AObj.rel_name (hc.obj _ _ (hcall x ob (lookN_mem hob)))
    refine ⟨s, hs1, he.ext x s ?_⟩
    simp only [inCtx]
    rw [if_pos hx]
    exact hs1
  -- outer and inner names agree on what is told; where the inner one is there
  have hthr : ∀ x, o.told i fresh x → (∃ s, φc x = some s) → φc x = φ2 (o.g1 x) := by
    rintro x (⟨h1, h2, h3⟩ | ⟨h1, h2, h3⟩) ⟨s, hs⟩
    · obtain ⟨s', q1, q2⟩ := hnamed x h1 h2
      rw [h3, q2, hle _ _ q1]
    · rw [h3]
      simp only [φ2, h1, hs, updN_self]
  have hids : ∀ (x : Sc) (V : Value), x.rel φc mc V → ∀ y ∈ x.ids, ∃ s, φc y = some s := by
    intro x V hx y hy
    cases x with
    | d x => simp [Sc.ids] at hy
    | ptr i off => simp [Sc.ids] at hy; subst hy; obtain ⟨b, C, e, q, _⟩ := hx; exact ⟨_, q⟩
    | eptr i k fo => simp [Sc.ids] at hy; subst hy; obtain ⟨b, C, e, q, _⟩ := hx; exact ⟨_, q⟩
    | row i e off len cap =>
      simp [Sc.ids] at hy; subst hy
      rcases hx with ⟨q, _⟩ | ⟨b, C, ad, k, q, _⟩
      · exact ⟨_, q⟩
      · exact ⟨_, q⟩
    | func f caps =>
      simp only [Sc.ids, List.mem_map] at hy
      obtain ⟨p, hp, rfl⟩ := hy
      obtain ⟨vs, _, _, s⟩ := hx
      obtain ⟨j, hj, hjp⟩ := List.getElem_of_mem hp
      obtain ⟨b, C, e, t, _⟩ := s j p.1 p.2 (by rw [List.getElem?_eq_getElem hj, hjp])
      exact ⟨_, t⟩
    | yield l => simp [Sc.ids] at hy; subst hy; obtain ⟨b, C, e, q, _⟩ := hx; exact ⟨_, q⟩
    | map i => simp [Sc.ids] at hy; subst hy; obtain ⟨b, C, e, q, _⟩ := hx; exact ⟨_, q⟩
    | upt i e off len => simp [Sc.ids] at hy; subst hy; obtain ⟨s, p, q, _⟩ := hx; exact ⟨s, q⟩
    | junk => simp [Sc.ids] at hy
  have hidsL : ∀ (xs : List Sc) (vs : List Value), relAll φc mc xs vs → ∀ y ∈ xs.flatMap (·.ids), ∃ s, φc y = some s := by
    intro xs vs hx y hy
    obtain ⟨x, hx1, hx2⟩ := List.mem_flatMap.1 hy
    obtain ⟨j, hj, hjp⟩ := List.getElem_of_mem hx1
    obtain ⟨v, q1, q2⟩ := hx.2 j x (by rw [List.getElem?_eq_getElem hj, hjp])
    exact hids x v q2 y hx2
  have hidsA : ∀ (x : AV) (V : Value), x.rel φc mc V → ∀ y ∈ x.ids, ∃ s, φc y = some s := by
    intro x V hx y hy
    cases x with
    | s x => exact hids x V hx y hy
    | agg xs => obtain ⟨vs, _, h2⟩ := hx; exact hidsL xs vs h2 y hy
  have hown : ∀ b, b < W.heap.size → (inCtx i φ m W).X b → (c.w0.heap.size ≤ b ∨ c.X b) ∧ m b = none := by
    rintro b hb ⟨x, ob, C, e, h1, h2⟩
    obtain ⟨q1, q2, q3⟩ := hc.own _ _ b C e (hcall x ob (lookN_mem h1)) h2
    exact ⟨q1, q2⟩
  -- a written object: the inner one
  have htouch : ∀ n ob, wrApp r.wr f (.h n) = .o ob → (∃ p ∈ r.wr, p.1 = n) → ∃ x ob', lookN x o.S2.heap = some ob' ∧ n = o.g1 x ∧ ob = ob'.ren o.g1 ∧ o.told i fresh x ∧ ∀ y ∈ ob'.ids, o.told i fresh y := by
    rintro n ob hn ⟨p0, hp0, hp0n⟩
    rcases wrApp_cases r.wr f n with ⟨h1, h2⟩ | ⟨p, h1, h2, h3⟩
    · exact absurd hp0n (h2 p0 hp0)
    · rcases ht.wr p h1 with ⟨h4, _⟩ | ⟨x, ob', q1, q2, q3, q4, q5⟩
      · rw [h3, h4] at hn; cases hn
      · rw [h3, q3] at hn
        injection hn with hn
        exact ⟨x, ob', q1, by rw [← h2, q2], hn.symm, q4, q5⟩
  have hname : ∀ x ob', lookN x o.S2.heap = some ob' → o.told i fresh x → φc x = φ2 (o.g1 x) := fun x ob' h1 h2 => hthr x h2 (AObj.rel_name (he.obj x ob' (fn_h h1)))
  have hun : ∀ n, (∀ p ∈ r.wr, p.1 ≠ n) → φ2 n = φ n := by
    intro n hn
    cases hx : o.ex with
    | none =>
      have : φ2 = φ := by simp only [φ2, hx]
      rw [this]
    | some x =>
      obtain ⟨p, hp, hp1, _⟩ := ht.exn x hx
      cases hs : φc x with
      | none =>
        have : φ2 = φ := by simp only [φ2, hx, hs]
        rw [this]
      | some s =>
        have : φ2 = updN φ fresh s := by simp only [φ2, hx, hs]
        rw [this, updN_other (fun e => hn p hp (by rw [hp1, e]))]
  -- an untouched object is no handed one
  have hapart : ∀ n ob b C e, (∀ p ∈ r.wr, p.1 ≠ n) → f (.h n) = .o ob → φ n = some (.blk b C e) → ¬ (inCtx i φ m W).X b ∧ b < W.heap.size ∧ mc b = none := by
    intro n ob b C e hn hf hb
    obtain ⟨w1, w2, w3⟩ := hc.own n ob b C e hf hb
    have hX : ¬ (inCtx i φ m W).X b := by
      rintro ⟨x, ob', C', e', h1, h2⟩
      have := hc.inj n (i.g0 x) _ _ b C e C' e' hf (hcall x ob' (lookN_mem h1)) hb h2
      obtain ⟨q, q1, q2⟩ := ht.hand _ (lookN_mem h1)
      exact hn q q1 (by rw [q2, ← this])
    refine ⟨hX, w3, ?_⟩
    cases hm : mc b with
    | none => rfl
    | some ob' =>
      rcases he.mnew b ob' hm with h1 | h1 | h1
      · simp only [inCtx] at h1; rw [w2] at h1; cases h1
      · simp only [inCtx] at h1; omega
      · exact absurd h1 hX
  refine ⟨φ2, mc, ?_, hle, he.m0, ?_⟩
  · refine hc.step (inCtx i φ m W).X he.os he.out he.tape he.size hle he.m0 (fun b hb hx => he.frame b hb hx) hown ?_ ?_ ?_ ?_ ?_
    · intro b ob hb
      rcases he.mnew b ob hb with h1 | h1 | h1
      · exact .inl h1
      · exact .inr ⟨he.mem b ob hb, .inl (by have := hc.size; simp only [inCtx] at h1; omega)⟩
      · refine .inr ⟨he.mem b ob hb, ?_⟩
        obtain ⟨x, ob', C', e', q1, q2⟩ := h1
        exact (hc.own _ _ b C' e' (hcall x ob' (lookN_mem q1)) q2).1
    · intro n ob hn
      rcases wrApp_cases r.wr f n with ⟨h1, h2⟩ | ⟨p, h1, h2, h3⟩
      · rw [h1] at hn
        refine .inl ⟨hn, fun b C e hb => ?_⟩
        obtain ⟨q1, _, q3⟩ := hapart n ob b C e h2 hn hb
        exact ⟨q1, q3⟩
      · obtain ⟨x, ob', q1, q2, q3, q4, q5⟩ := htouch n ob hn ⟨p, h1, h2⟩
        subst q2
        subst q3
        have hn1 := hname x ob' q1 q4
        refine .inr ⟨AObj.rel_unren hn1 (fun y hy => hthr y (q5 y hy) ?_) (he.obj x ob' (fn_h q1)), fun b C e hb => ?_⟩
        · have hr := he.obj x ob' (fn_h q1)
          cases ob' with
          | cells vs ty => obtain ⟨b, C, e, cs, fr, _, _, _, h9⟩ := hr; exact hidsL vs _ h9 y hy
          | row es ty => simp [AObj.ids] at hy
          | other o => simp [AObj.ids] at hy
        · rw [← hn1] at hb
          obtain ⟨w1, w2, w3⟩ := he.own x ob' b C e (fn_h q1) hb
          refine ⟨?_, w2, w3⟩
          rcases w1 with w1 | w1
          · exact .inl (by have := hc.size; simp only [inCtx] at w1; omega)
          · obtain ⟨y, ob2, C2, e2, r1, r2⟩ := w1
            exact (hc.own _ _ b C2 e2 (hcall y ob2 (lookN_mem r1)) r2).1
    · intro x y o1 o2 b C e C' e' hx hy bx by_
      rcases wrApp_cases r.wr f x with ⟨h1, h2⟩ | ⟨p, h1, h2, h3⟩ <;> rcases wrApp_cases r.wr f y with ⟨k1, k2⟩ | ⟨q, k1, k2, k3⟩
      · rw [h1] at hx; rw [k1] at hy
        rw [hun x h2] at bx
        rw [hun y k2] at by_
        exact hc.inj x y o1 o2 b C e C' e' hx hy bx by_
      · rw [h1] at hx
        rw [hun x h2] at bx
        obtain ⟨z, ob', q1, q2, q3, q4, q5⟩ := htouch y o2 hy ⟨q, k1, k2⟩
        rw [q2, ← hname z ob' q1 q4] at by_
        obtain ⟨w1, w2, w3⟩ := he.own z ob' b C' e' (fn_h q1) by_
        obtain ⟨r1, r2, r3⟩ := hapart x o1 b C e h2 hx bx
        rcases w1 with w1 | w1
        · simp only [inCtx] at w1; omega
        · exact absurd w1 r1
      · rw [k1] at hy
        rw [hun y k2] at by_
        obtain ⟨z, ob', q1, q2, q3, q4, q5⟩ := htouch x o1 hx ⟨p, h1, h2⟩
        rw [q2, ← hname z ob' q1 q4] at bx
        obtain ⟨w1, w2, w3⟩ := he.own z ob' b C e (fn_h q1) bx
        obtain ⟨r1, r2, r3⟩ := hapart y o2 b C' e' k2 hy by_
        rcases w1 with w1 | w1
        · simp only [inCtx] at w1; omega
        · exact absurd w1 r1
      · obtain ⟨z, ob', q1, q2, q3, q4, q5⟩ := htouch x o1 hx ⟨p, h1, h2⟩
        obtain ⟨z', ob2, r1, r2, r3, r4, r5⟩ := htouch y o2 hy ⟨q, k1, k2⟩
        rw [q2, ← hname z ob' q1 q4] at bx
        rw [r2, ← hname z' ob2 r1 r4] at by_
        rw [q2, r2, he.inj z z' ob' ob2 b C e C' e' (fn_h q1) (fn_h r1) bx by_]
    · intro n hn
      rcases wrApp_cases r.wr f n with ⟨h1, h2⟩ | ⟨p, h1, h2, h3⟩
      · rw [h1] at hn
        rw [hun n h2]
        exact hc.free n hn
      · rw [h3] at hn
        rcases ht.wr p h1 with ⟨h4, _⟩ | ⟨x, ob', q1, q2, q3, q4, q5⟩
        · rw [h4] at hn; cases hn
        · rw [q3] at hn; cases hn
    · intro t v hv
      rwa [wrApp_t] at hv
  · rw [ht.val]
    refine AVal.rel_unren (fun y hy => hthr y (ht.vids y hy) ?_) hval
    cases hvv : o.val with
    | one x => rw [hvv] at hval hy; exact hidsA x V hval y hy
    | tup xs =>
      rw [hvv] at hval hy
      obtain ⟨vs, _, _, h3⟩ := hval
      obtain ⟨x, hx1, hx2⟩ := List.mem_flatMap.1 hy
      obtain ⟨j, hj, hjp⟩ := List.getElem_of_mem hx1
      obtain ⟨v, q1, q2⟩ := h3 j x (by rw [List.getElem?_eq_getElem hj, hjp])
      exact hidsA x v q2 y hx2
    | opt b x => exact absurd hvv (ht.plain b x)
    | junk => rw [hvv] at hy; simp [AVal.ids] at hy

end
end Go.Proofs.Hg

/- Contracts of functions, from their bodies; what is known of all of them together. -/
set_option linter.unusedVariables false
set_option linter.unusedSimpArgs false
namespace Go.Proofs.Hg
open Go.RowKit

abbrev Cont := Nat → Heap → List AV → Option Res

def ContOk (P : Program) (g : Nat) (k : Cont) : Prop :=
  ∀ (fresh : Nat) (H : Heap) (args : List AV) (r : Res), k fresh H args = some r → r.ob → ∀ (c : Ctx) (φ : Names) (m : Mem) (f : StF) (a : Act) (W : World) (vals : List Value), r.Reads fresh f → RelC c φ m f a W →
    vals.length = args.length → (∀ (j : Nat) (x : AV), args[j]? = some x → ∃ V : Value, vals[j]? = some V ∧ x.rel φ m V) →
    (∀ w, (callFunc g vals.toArray).run P w = .ok (.enter g vals.toArray) w) ∧ CallGives P g vals.toArray c φ m f a W r

def knowL (l : List (Nat × Cont)) : Know := fun g fresh H args => match lookN g l with
  | some k => k fresh H args
  | none => none

/-- A function without a Go body that answers at once. -/
def NowOk (P : Program) (g : Nat) (k : Cont) : Prop :=
  ∀ (fresh : Nat) (H : Heap) (args : List AV) (r : Res), k fresh H args = some r → r.ob → ∀ (c : Ctx) (φ : Names) (m : Mem) (f : StF) (a : Act) (W : World) (vals : List Value), r.Reads fresh f → RelC c φ m f a W →
    vals.length = args.length → (∀ (j : Nat) (x : AV), args[j]? = some x → ∃ V : Value, vals[j]? = some V ∧ x.rel φ m V) → CallNow P g vals.toArray c φ m f a W r

theorem knowX_ok {P : Program} {l : List (Nat × Cont)} (hl : ∀ p ∈ l, ContOk P p.1 p.2 ∨ NowOk P p.1 p.2) : KnowOk P (knowL l) := by
  intro g fresh H args r hr hob c φ m f a W vals h1 h2 h3 h4
  unfold knowL at hr
  split at hr
  · rename_i k hk
    rcases hl _ (lookN_mem hk) with h | h
    · exact .inl (h fresh H args r hr hob c φ m f a W vals h1 h2 h3 h4)
    · exact .inr (h fresh H args r hr hob c φ m f a W vals h1 h2 h3 h4)
  · cases hr

theorem knowL_ok {P : Program} {l : List (Nat × Cont)} (hl : ∀ p ∈ l, ContOk P p.1 p.2) : KnowOk P (knowL l) := knowX_ok fun p hp => .inl (hl p hp)

section
variable {P : Program}

def Ends (P : Program) (i : CallIn) (fresh : Nat) (r : Res) : Exit → St → Prop := fun e S => (e = .normal ∨ e = .ret) ∧ ∃ o, EndsTo P i.fn i.k S o.val o.S2 ∧ Told i o fresh r

theorem fn_gives {g : FuncId} {i : CallIn} {nargs : Nat} {fresh : Nat} {r : Res} {args : List AV} (hf : P.funcs[g]? = some i.fn) (hb : i.fn.body = some i.code) (hname : (i.fn.name == "runtime.NumGoroutine") = false)
    (hw : AWp P i.fn.ntmps i.k i.code i.S0 (Ends P i fresh r)) (hh : Handed i nargs r args) :
    ∀ (c : Ctx) (φ : Names) (m : Mem) (f : StF) (a : Act) (W : World) (vals : List Value), r.Reads fresh f → RelC c φ m f a W →
    vals.length = args.length → (∀ (j : Nat) (x : AV), args[j]? = some x → ∃ V : Value, vals[j]? = some V ∧ x.rel φ m V) →
    (∀ w, (callFunc g vals.toArray).run P w = .ok (.enter g vals.toArray) w) ∧ CallGives P g vals.toArray c φ m f a W r := by
  intro c φ m f a W vals hrd hc hl hv
  refine ⟨fun w => Go.MuLone.run_callFunc_enter hf hname hb _ w, fun ro n => ?_⟩
  have hstart := call_start hh hrd hc hl hv
  have key : CallsIn (wideR none) n P g vals.toArray W fun e W' => ∃ φ' m' V, e = .returned V ∧ RelC c φ' m' (wrApp r.wr f) a W' ∧ NamesLe φ φ' ∧ MemLe m m' ∧ r.val.rel φ' m' V := by
    refine callsIn_of_wp hf hb trivial ?_ rfl
    refine wpIn_mono (hw (inCtx i φ m W) none n _ _ _ _ rfl (fun x hx => by simp only [inCtx]; rw [if_neg (by omega)]) hstart) ?_
    rintro e a' W' ⟨φ1, m1, S1, c1, d1, he, o, ho, ht⟩
    obtain ⟨φ2, m2, V, c2, r2, v2⟩ := ho (inCtx i φ m W) φ1 m1 a' W' rfl (fun x hx => by simp only [inCtx]; rw [if_neg (by omega)]) c1
    obtain ⟨φ3, m3, q1, q2, q3, q4⟩ := call_end hh ht hrd hc c2 v2
    rcases he with rfl | rfl
    · exact ⟨d1, V, r2, φ3, m3, V, rfl, q1, q2, q3, q4⟩
    · exact ⟨d1, V, r2, φ3, m3, V, rfl, q1, q2, q3, q4⟩
  exact key

/-! ### functions of values alone -/
def pureK (F : List AV → Option (AVal × Prop)) : Cont := fun _ _ args => (F args).map fun q => ⟨q.1, [], false, [], q.2⟩

def envOf (args : List AV) : List (Nat × AVal) := args.zipIdx.map fun p => (p.2, .one p.1)

def EndsP (P : Program) (fn : Func) (val : AVal) : Exit → St → Prop := fun e S => (e = .normal ∨ e = .ret) ∧ ∃ S2, EndsTo P fn 0 S val S2

theorem Sc.ren_none {g : Nat → Nat} {x : Sc} (h : x.ids = []) : x.ren g = x := by
  cases x with
  | func f caps =>
    simp only [Sc.ids, List.map_eq_nil_iff] at h
    subst h
    rfl
  | _ => first | rfl | (simp [Sc.ids] at h)

theorem Scs.ren_none {g : Nat → Nat} {xs : List Sc} (h : xs.flatMap (·.ids) = []) : xs.map (·.ren g) = xs := by
  rw [List.flatMap_eq_nil_iff] at h
  conv => rhs; rw [← List.map_id xs]
  exact List.map_congr_left fun x hx => Sc.ren_none (h x hx)

theorem AV.ren_none {g : Nat → Nat} {x : AV} (h : x.ids = []) : x.ren g = x := by
  cases x with
  | s x => exact congrArg AV.s (Sc.ren_none h)
  | agg xs => exact congrArg AV.agg (Scs.ren_none h)

theorem AVal.ren_none {g : Nat → Nat} {x : AVal} (h : x.ids = []) : x.ren g = x := by
  cases x with
  | one x => exact congrArg AVal.one (AV.ren_none h)
  | tup xs =>
    simp only [AVal.ids, List.flatMap_eq_nil_iff] at h
    refine congrArg AVal.tup ?_
    conv => rhs; rw [← List.map_id xs]
    exact List.map_congr_left fun x hx => AV.ren_none (h x hx)
  | opt b x => exact congrArg (AVal.opt b) (AV.ren_none h)
  | junk => rfl

/-- A function of values alone, its body walked. -/
theorem pure_ok {g : FuncId} {fn : Func} {code : Code} {nargs : Nat} {F : List AV → Option (AVal × Prop)} (hf : P.funcs[g]? = some fn) (hb : fn.body = some code) (hname : (fn.name == "runtime.NumGoroutine") = false) (hn : nargs ≤ fn.ntmps)
    (hF : ∀ args q, F args = some q → q.2 → args.length = nargs ∧ (∀ x ∈ args, x.ids = []) ∧ q.1.ids = [] ∧ (∀ b x, q.1 ≠ .opt b x) ∧ AWp P fn.ntmps 0 code ⟨envOf args, [], 0⟩ (EndsP P fn q.1)) : ContOk P g (pureK F) := by
  intro fresh H args r hr hob
  simp only [pureK, Option.map_eq_some_iff] at hr
  obtain ⟨q, hq, rfl⟩ := hr
  obtain ⟨h1, h2, h3, h4, h5⟩ := hF args q hq hob
  refine fn_gives (i := ⟨fn, code, ⟨envOf args, [], 0⟩, 0, id⟩) (nargs := nargs) hf hb hname (h5.mono ?_) ?_
  · rintro e S ⟨he, S2, hS⟩
    refine ⟨S, Conv.refl S, he, ⟨q.1, S2, none, id⟩, hS, ?_⟩
    exact { val := (AVal.ren_none h3).symm, plain := h4, vids := (fun x hx => by rw [h3] at hx; simp at hx), fr := rfl, exn := (fun x hx => by cases hx), hand := (fun p hp => by simp at hp), wr := (fun p hp => by simp at hp) }
  · refine { len := ⟨h1, hn⟩, env := (fun p hp => ?_), heap := (fun p hp => by simp at hp), nxt := rfl, inj := (fun p hp => by simp at hp) }
    simp only [envOf, List.mem_map] at hp
    obtain ⟨⟨x, j⟩, hx, rfl⟩ := hp
    have hj := List.mem_zipIdx_iff_getElem?.1 hx
    simp only at hj
    have hxm : x ∈ args := List.mem_of_getElem? hj
    refine ⟨x, hj, ?_, fun y hy => ?_⟩
    · simp only [AVal.ren]
      rw [AV.ren_none (h2 x hxm)]
    · simp only [AVal.ids] at hy
      rw [h2 x hxm] at hy
      simp at hy

end
end Go.Proofs.Hg

/- The evaluation of the abstract machine, as rewriting. -/
set_option linter.unusedVariables false
namespace Go.Proofs.Hg
open Go.RowKit



def St.keepT (ts : List Nat) (S : St) : St := ⟨keepE ts S.env, S.heap, S.nxt⟩

section
variable {P : Program} {N h : Nat} {S S1 S' : St} {Q : Exit → St → Prop}

theorem Conv.keepT (ts : List Nat) (hk : S.keepT ts = S') : Conv N h S S' := by
  subst hk
  refine Conv.weaken fun k => ?_
  cases k with
  | t n =>
    simp only [St.fn, St.keepT, lookN_keepE]
    by_cases hn : n ∈ ts
    · simp [hn]
    · simp [hn]
  | h n => exact .inr rfl

/-- A region in the text's order; then what is kept of it. -/
theorem AWp.reg {T : Tab} (hT : TabOk P T) {K : Know} (hK : KnowOk P K) (hm : P.follows .mixedOrders = true) (ts : List Nat) {id : Nat} {ops : Array Oper} {ob : Prop}
    (hrun : runS T K N (gdOf ops) ops.toList S = some (S1, ob)) (hob : ob) (hk : S1.keepT ts = S') (hw : Q .normal S') : AWp P N h (.region id ops false) S Q :=
  (AWp.region (Q := fun e S => e = .normal ∧ S = S1) hT hK hm hrun hob ⟨rfl, rfl⟩).mono fun e S hs => ⟨S', hs.2 ▸ Conv.keepT ts hk, hs.1 ▸ hw⟩

/-- A region in any order; then what is kept of it. -/
theorem AWp.drw {T : Tab} (hT : TabOk P T) {K : Know} (hK : KnowOk P K) (hm : P.follows .mixedOrders = true) (ts : List Nat) {id : Nat} {ops : Array Oper} {lts : List LT} {ob : Prop}
    (hrun : runOps T K N (gdOf ops) ops.toList S = some (lts, S1, ob)) (hord : (edgesOk ops && orderOk ops lts) = true) (hob : ob) (hk : S1.keepT ts = S') (hw : Q .normal S') : AWp P N h (.region id ops true) S Q :=
  (AWp.draws (Q := fun e S => e = .normal ∧ S = S1) hT hK hm hrun hord hob ⟨rfl, rfl⟩).mono fun e S hs => ⟨S', hs.2 ▸ Conv.keepT ts hk, hs.1 ▸ hw⟩

theorem AWp.convE {code : Code} (hv : Conv N h S S') (hw : AWp P N h code S' Q) : AWp P N h code S Q := AWp.conv hv hw

theorem thenA_exit {n : St → Prop} {i : Nat} (hq : Q (.exit i) S) : thenA n Q (.exit i) S := hq
theorem inB_eq {id : Nat} (hq : Q .normal S) : inBlockA id Q (.exit id) S := by simpa [inBlockA] using hq
theorem inB_ne {id i : Nat} (hi : (i == id) = false) (hq : Q (.exit i) S) : inBlockA id Q (.exit i) S := by
  have : ¬ i = id := by simpa using hi
  simpa [inBlockA, this] using hq

/-- The end of a function of values alone. -/
theorem ends_p {T : Tab} (hT : TabOk P T) {fn : Func} {val : AVal} {e : Exit} {vs vs' : List AV} {ks : List (Nat × AObj)} {ob ob2 : Prop} (he : e = .normal ∨ e = .ret) (hr : evRes T S fn.results.toList = some (vs, ob)) (ho : ob)
    (hf : frzVs S.H vs = some (vs', ks, ob2)) (ho2 : ob2) (hn : (ks.map (·.1)).Nodup) (hk : ∀ p ∈ ks, lookN p.1 S.heap = some p.2 ∧ p.1 < S.nxt) (hv : val = pack vs') : EndsP P fn val e S := by
  subst hv
  exact ⟨he, _, EndsTo.freeze (EndsTo.read hT hr ho) hf ho2 hn hk⟩

end

attribute [go_sem] runOps stepOp dstPost wrPost preOf opndsOf freeIf guardPre runS stepS guardOf evOp evBuiltin evCall arg1 arg2
  argO argL arg St.opnd St.H lookN use withOb
  ofVal under obUnder nxtIf wrHeap eraseN isStore evBox
  evAlloc evLoad evStore evFieldAddr evIndexAddr evField evIndex evBuild
  fillL stPlace splL evBinOp evBinD evBin evInt evShift
  evStr evUn evLen evConvert cvt evPick asB evExtract
  valRes pureRes evUns evUnsBack evMakeSlice evSliceData evUStr eqK scD eqFs Option.any evSlice bndI cutL loN hiN capOf
  cutOb evBuildSlice frzL frz kills killW chunksD evAppend
  srcOf srcSz nilSz viewOf elemSz evAppRow srcK TK.agg AV.cells
  Sc.nojunk evMakeFunc capsOf wrapK wrapOb gdOf Option.bind Option.map
  Option.all Option.isSome Option.getD_some Option.getD_none Option.bind_some Option.map_some Array.toList List.all_cons
  List.all_nil List.any_cons List.any_nil List.map_cons List.map_nil List.append_nil List.nil_append List.cons_append
  List.filterMap_cons List.filterMap_nil List.flatMap_cons List.flatMap_nil List.zip_cons_cons List.zip_nil_left List.drop_zero List.drop_succ_cons
  List.take_succ_cons List.take_zero List.take_nil List.drop_nil List.getD_cons_zero List.getD_cons_succ List.getD_nil List.getElem?_cons_zero
  List.getElem?_cons_succ List.length_cons List.length_nil List.set_cons_zero List.set_cons_succ List.forall_mem_cons  List.not_mem_nil
  List.getElem?_toArray List.isEmpty_nil Array.isEmpty List.size_toArray List.headD_cons List.nodup_nil List.nodup_cons List.range_succ
  List.range_zero decide_true decide_false Bool.not_true Bool.not_false Bool.or_false Bool.false_or Bool.true_or
  Bool.or_true Bool.and_true Bool.true_and Bool.and_false Bool.false_and cond_true cond_false Bool.false_eq_true
  and_true true_and implies_true false_implies true_implies Nat.zero_add Nat.add_zero
  Nat.mul_zero Nat.zero_mul Nat.succ_ne_self BEq.rfl beq_self_eq_true
  imp_self Bool.cond_false_right Bool.cond_true_left Bool.cond_false_left Bool.cond_true_right eq_self List.length_append List.length_map pack evRes cellVal frzVs frzAV pureK envOf List.zipIdx_cons List.zipIdx_nil knowL thenA inBlockA not_false_eq_true not_true_eq_false St.keep keepE St.keepT eraseL List.foldr_cons List.foldr_nil
end Go.Proofs.Hg

/- Rows of bytes and of strings. -/
set_option linter.unusedVariables false
set_option linter.unusedSimpArgs false
namespace Go.Proofs.Hg
open Go.RowKit

theorem brow_get (s : List UInt8) (i : Nat) : ((brow s).getD i [.int .u8 0]).getD 0 .nilp = .int .u8 ((s.getD i 0).toNat : Int) := by
  simp only [brow, List.getD_eq_getElem?_getD, List.getElem?_map]
  cases s[i]? <;> rfl
theorem brow_nil : brow [] = [] := rfl
theorem brow_cons (b : UInt8) (s : List UInt8) : brow (b :: s) = [.int .u8 (b.toNat : Int)] :: brow s := rfl
theorem brow_drop (s : List UInt8) (n : Nat) : (brow s).drop n = brow (s.drop n) := by simp [brow, List.map_drop]
theorem brow_take (s : List UInt8) (n : Nat) : (brow s).take n = brow (s.take n) := by simp [brow, List.map_take]
theorem cvt_u8 (n : Int) : [D.int .u8 (cvt .u8 n)] = [D.int .u8 ((u8 n).toNat : Int)] := by rw [cvt_wrap, u8_wrap]
theorem unb_one (n : Int) : D.int .u8 (cvt .u8 n) = D.int .u8 ((u8 n).toNat : Int) := by rw [cvt_wrap, u8_wrap]

/-- A row of strings. -/
def srow (l : List (List UInt8)) : List (List D) := l.map fun s => [.str s]
def uns1 : List D → List UInt8
  | [.str s] => s
  | _ => []
def uns (es : List (List D)) : List (List UInt8) := es.map uns1
@[simp] theorem uns_srow (l : List (List UInt8)) : uns (srow l) = l := by
  simp only [uns, srow, List.map_map]
  conv => rhs; rw [← List.map_id l]
  exact List.map_congr_left fun _ _ => rfl
@[simp] theorem srow_length (l : List (List UInt8)) : (srow l).length = l.length := by simp [srow]
theorem srow_get (l : List (List UInt8)) (i : Nat) : ((srow l).getD i [.str []]).getD 0 .nilp = .str (l.getD i []) := by
  simp only [srow, List.getD_eq_getElem?_getD, List.getElem?_map]
  cases l[i]? <;> rfl
theorem srow_append (s t : List (List UInt8)) : srow (s ++ t) = srow s ++ srow t := by simp [srow]
theorem srow_drop (s : List (List UInt8)) (n : Nat) : (srow s).drop n = srow (s.drop n) := by simp [srow, List.map_drop]
theorem srow_take (s : List (List UInt8)) (n : Nat) : (srow s).take n = srow (s.take n) := by simp [srow, List.map_take]

attribute [go_sem] brow_get brow_length unb_brow srow_get srow_length uns_srow brow_drop brow_take srow_drop srow_take Int.toNat_natCast Int.toNat_zero

theorem getD_lt {α : Type} {l : List α} {i : Nat} (h : i < l.length) (d : α) : l.getD i d = l[i] := by simp [h]
theorem take_one {α : Type} {l : List α} {i : Nat} (h : i < l.length) (d : α) : l.take (i + 1) = l.take i ++ [l.getD i d] := by
  rw [List.take_add_one, List.getD_eq_getElem?_getD, List.getElem?_eq_getElem h]; rfl
end Go.Proofs.Hg

/- Bytes as numbers. -/
set_option linter.unusedVariables false
set_option linter.unusedSimpArgs false
namespace Go.Proofs.Hg
open Go.RowKit

theorem wrap_byte (b : UInt8) : IntKind.i64.wrap (b.toNat : Int) = (b.toNat : Int) := IntWalk.i64_in _ (by have := b.toNat_lt; constructor <;> omega)
theorem brow_len1 (s : List UInt8) (i : Nat) : ((brow s).getD i [.int .u8 0]).length = 1 := by
  simp only [brow, List.getD_eq_getElem?_getD, List.getElem?_map]
  cases s[i]? <;> rfl
theorem srow_len1 (l : List (List UInt8)) (i : Nat) : ((srow l).getD i [.str []]).length = 1 := by
  simp only [srow, List.getD_eq_getElem?_getD, List.getElem?_map]
  cases l[i]? <;> rfl

theorem bitsV_nat (op : BinOp) (x y : Nat) (hx : x < 2 ^ 63) (hy : y < 2 ^ 63) : bitsV .or .i64 (x : Int) (y : Int) = ((x ||| y : Nat) : Int) := by
  unfold bitsV
  have h1 : BitVec.ofInt IntKind.i64.bits (x : Int) = BitVec.ofNat 64 x := by rw [BitVec.ofInt_natCast]; rfl
  have h2 : BitVec.ofInt IntKind.i64.bits (y : Int) = BitVec.ofNat 64 y := by rw [BitVec.ofInt_natCast]; rfl
  simp only [h1, h2]
  have h3 : (BitVec.ofNat 64 x ||| BitVec.ofNat 64 y).toNat = x ||| y := by
    rw [BitVec.toNat_or, BitVec.toNat_ofNat, BitVec.toNat_ofNat, Nat.mod_eq_of_lt (by omega), Nat.mod_eq_of_lt (by omega)]
  have h4 : x ||| y < 2 ^ 63 := Nat.or_lt_two_pow hx hy
  show IntKind.i64.wrap ((BitVec.ofNat 64 x ||| BitVec.ofNat 64 y).toNat : Int) = _
  rw [h3]
  exact IntWalk.i64_in _ (by constructor <;> omega)

theorem or_bytes (a b : UInt8) : bitsV .or .i64 ((a.toNat : Int) * 256) (b.toNat : Int) = (a.toNat : Int) * 256 + (b.toNat : Int) := by
  have ha := a.toNat_lt
  have hb := b.toNat_lt
  have h := Nat.shiftLeft_add_eq_or_of_lt (i := 8) (b := b.toNat) (by omega) a.toNat
  rw [Nat.shiftLeft_eq] at h
  have e : (a.toNat : Int) * 256 = ((a.toNat * 2 ^ 8 : Nat) : Int) := by omega
  rw [e, bitsV_nat .or _ _ (by omega) (by omega), ← h]
  omega

theorem Conv.eq {N h : Nat} {S S' : St} (he : S = S') : Conv N h S S' := he ▸ Conv.refl S

/-- A sequence with a state between. -/
theorem AWp.seqTo {P : Program} {N h : Nat} {S : St} {Q : Exit → St → Prop} {x y : Code} (Sm : St) (hx : AWp P N h x S (thenA (fun S1 => Conv N h S1 Sm) Q)) (hy : AWp P N h y Sm Q) : AWp P N h (.seq x y) S Q :=
  AWp.seq (hx.mono fun e S' hs => by
    cases e with
    | normal => exact ⟨Sm, hs, hy⟩
    | exit i => exact ⟨S', Conv.refl _, hs⟩
    | goto l => exact ⟨S', Conv.refl _, hs⟩
    | ret => exact ⟨S', Conv.refl _, hs⟩
    | panic c => exact ⟨S', Conv.refl _, hs⟩
    | outgrown => exact ⟨S', Conv.refl _, hs⟩)

/-- The end of a function that hands things on. -/
theorem ends_o {P : Program} {T : Tab} (hT : TabOk P T) {i : CallIn} {S : St} {fresh : Nat} {r : Res} {e : Exit} {vs : List AV} {ob : Prop} {ex : Option Nat} {g1 : Nat → Nat} (he : e = .normal ∨ e = .ret) (hr : evRes T S i.fn.results.toList = some (vs, ob)) (ho : ob)
    (ht : Told i ⟨pack vs, S, ex, g1⟩ fresh r) : Ends P i fresh r e S := ⟨he, _, EndsTo.read hT hr ho, ht⟩

/-- The same, rows in the results become values. -/
theorem ends_f {P : Program} {T : Tab} (hT : TabOk P T) {i : CallIn} {S : St} {fresh : Nat} {r : Res} {e : Exit} {vs vs' : List AV} {ks : List (Nat × AObj)} {ob ob2 : Prop} {ex : Option Nat} {g1 : Nat → Nat} (he : e = .normal ∨ e = .ret) (hr : evRes T S i.fn.results.toList = some (vs, ob)) (ho : ob)
    (hf : frzVs S.H vs = some (vs', ks, ob2)) (ho2 : ob2) (hn : (ks.map (·.1)).Nodup) (hk : ∀ p ∈ ks, lookN p.1 S.heap = some p.2 ∧ p.1 < S.nxt)
    (ht : Told i ⟨pack vs', ⟨S.env, eraseL (ks.map (·.1)) S.heap, S.nxt⟩, ex, g1⟩ fresh r) : Ends P i fresh r e S := ⟨he, _, EndsTo.freeze (EndsTo.read hT hr ho) hf ho2 hn hk, ht⟩

attribute [go_sem] List.take_length inI64 St.freezeAt Bool.not_eq_true' Bool.not_eq_false' Nat.min_def wrap_byte brow_len1 srow_len1
end Go.Proofs.Hg

/- A nil slice in a cell becomes a row of its own. -/
set_option linter.unusedVariables false
set_option linter.unusedSimpArgs false
namespace Go.Proofs.Hg
open Go.RowKit

section
variable {N h : Nat} {S S' : St}

theorem lookN_cons_ne {α : Type} {i n : Nat} {v : α} {l : List (Nat × α)} (hn : n ≠ i) : lookN n ((i, v) :: l) = lookN n l := by
  simp only [lookN]
  rw [if_neg (fun e => hn e.symm)]

/-- The nil slice in the k-th cell of the object i becomes a row. -/
def St.nilCell (S : St) (i k e : Nat) (vs : List Sc) (ty ety : TypeId) : St := ⟨S.env, (S.nxt, .row [] ety) :: (i, .cells (vs.set k (.row S.nxt e 0 0 none)) ty) :: eraseN i S.heap, S.nxt + 1⟩

theorem Conv.nilCell (i k : Nat) {e e0 : Nat} {vs : List Sc} {ty ety : TypeId} (hi : lookN i S.heap = some (.cells vs ty)) (hlt : i < S.nxt) (hn : lookN S.nxt S.heap = none) (hk : vs[k]? = some (.d (.slice (some true) e0 []))) :
    Conv N h S (S.nilCell i k e vs ty ety) := by
  intro c φ m a W _ _ hc
  have hfree : S.fn (.h S.nxt) = .free := by simp [St.fn, hn]
  have h1 := hc.allocNil hfree (ty := ety)
  have hφ := hc.free _ hfree
  have hle : NamesLe φ (updN φ S.nxt .nil) := updN_le _ hφ
  have hne : i ≠ S.nxt := by omega
  have hcell : (AObj.cells (vs.set k (.row S.nxt e 0 0 none)) ty).rel (updN φ S.nxt .nil) m W i := by
    obtain ⟨b, C, e', cs, fr, q1, q2, q3, q4⟩ := hc.obj i _ (fn_h hi)
    refine ⟨b, C, e', cs, fr, hle _ _ q1, q2, q3, ?_⟩
    have q5 := relAll_le hle (MemLe.refl m) q4
    refine ⟨by simpa using q5.1, fun j x hj => ?_⟩
    rw [List.getElem?_set] at hj
    split at hj
    · rename_i e1
      subst e1
      split at hj
      · injection hj with hj
        subst hj
        obtain ⟨v, r1, r2⟩ := q4.2 k _ hk
        refine ⟨v, r1, ?_⟩
        simp only [Sc.rel, D.rel] at r2
        rcases r2 with ⟨_, _, rfl⟩ | ⟨hz, _⟩
        · exact .inl ⟨updN_self _ _ _, rfl, rfl, rfl, rfl⟩
        · exact absurd rfl hz
      · cases hj
    · exact q5.2 j x hj
  refine ⟨updN φ S.nxt .nil, m, ?_⟩
  have hget : ∀ n o, (S.nilCell i k e vs ty ety).fn (.h n) = .o o → (n = i ∧ o = .cells (vs.set k (.row S.nxt e 0 0 none)) ty) ∨ (n ≠ i ∧ upd S.fn (.h S.nxt) (.o (.row [] ety)) (.h n) = .o o) := by
    intro n o hno
    simp only [St.fn, St.nilCell] at hno
    by_cases e1 : n = i
    · subst e1
      left
      rw [lookN_cons_ne (by omega)] at hno
      simp only [lookN, if_true, Ent.o.injEq] at hno
      exact ⟨rfl, hno.symm⟩
    · right
      refine ⟨e1, ?_⟩
      by_cases e2 : n = S.nxt
      · subst e2
        rw [upd_self]
        simpa [lookN] using hno
      · rw [upd_other (by simpa using e2)]
        rw [lookN_cons_ne e2, lookN_cons_ne e1, lookN_erase, if_neg e1] at hno
        simp only [St.fn]
        cases hl : lookN n S.heap with
        | some o' => rw [hl] at hno; exact hno
        | none =>
          rw [hl] at hno
          by_cases hx : S.nxt + 1 ≤ n
          · simp [hx] at hno
          · simp [hx] at hno
  refine { os := h1.os, out := h1.out, tape := h1.tape, size := h1.size, frame := h1.frame, mem := h1.mem, m0 := h1.m0, mnew := h1.mnew, ext := h1.ext, obj := ?_, own := ?_, inj := ?_, free := ?_, env := ?_, nt := h1.nt }
  · intro n o hno
    rcases hget n o hno with ⟨rfl, rfl⟩ | ⟨_, h2⟩
    · exact hcell
    · exact h1.obj n o h2
  · intro n o b C e' hno hb
    rcases hget n o hno with ⟨rfl, rfl⟩ | ⟨_, h2⟩
    · exact h1.own n (.cells vs ty) b C e' (by rw [upd_other (by simpa using hne)]; exact fn_h hi) hb
    · exact h1.own n o b C e' h2 hb
  · intro x y o1 o2 b C e1 C' e2 hx hy bx by_
    have key : ∀ n o, (S.nilCell i k e vs ty ety).fn (.h n) = .o o → ∃ o', upd S.fn (.h S.nxt) (.o (.row [] ety)) (.h n) = .o o' := by
      intro n o hno
      rcases hget n o hno with ⟨rfl, rfl⟩ | ⟨_, h2⟩
      · exact ⟨_, by rw [upd_other (by simpa using hne)]; exact fn_h hi⟩
      · exact ⟨o, h2⟩
    obtain ⟨p1, hp1⟩ := key x o1 hx
    obtain ⟨p2, hp2⟩ := key y o2 hy
    exact h1.inj x y p1 p2 b C e1 C' e2 hp1 hp2 bx by_
  · intro n hno
    simp only [St.fn, St.nilCell] at hno
    by_cases e1 : n = S.nxt
    · subst e1; simp [lookN] at hno
    · by_cases e2 : n = i
      · subst e2; rw [lookN_cons_ne e1] at hno; simp [lookN] at hno
      · rw [lookN_cons_ne e1, lookN_cons_ne e2, lookN_erase, if_neg e2] at hno
        refine h1.free n ?_
        rw [upd_other (by simpa using e1)]
        simp only [St.fn]
        cases hl : lookN n S.heap with
        | some o' => rw [hl] at hno; cases hno
        | none =>
          rw [hl] at hno
          by_cases hx : S.nxt + 1 ≤ n
          · have hy : S.nxt ≤ n := by omega
            simp [hy]
          · simp [hx] at hno
  · intro t v hv
    exact h1.env t v (by rw [upd_other (by simp)]; exact hv)
end

attribute [go_sem] evToStr ne_eq St.nilCell
end Go.Proofs.Hg

/- A function of values, called with rows that nobody will write any more. -/
set_option linter.unusedVariables false
set_option linter.unusedSimpArgs false
namespace Go.Proofs.Hg
open Go.RowKit

/-- Rows among the arguments become values first. -/
def viewK (F : List AV → Option (AVal × Prop)) : Cont := fun _ H args => match frzVs H args with
  | some p => (F p.1).map fun q => ⟨q.1, p.2.1, false, killW p.2.1, p.2.2 ∧ (p.2.1.map (·.1)).Nodup ∧ q.2⟩
  | none => none

theorem frzAV_len {H : Heap} : ∀ {l : List AV} {q : List AV × List (Nat × AObj) × Prop}, frzVs H l = some q → q.1.length = l.length
  | [], q, h => by simp only [frzVs, Option.some.injEq] at h; subst h; rfl
  | x :: r, q, h => by
    simp only [frzVs] at h
    split at h
    · rename_i p q2 h1 h2
      simp only [Option.some.injEq] at h
      subst h
      simp [frzAV_len h2]
    · cases h

theorem viewK_ok {P : Program} {g : Nat} {F : List AV → Option (AVal × Prop)} (hk : ContOk P g (pureK F)) : ContOk P g (viewK F) := by
  intro fresh H args r hr hob c φ m f a W vals hrd hc hl hv
  unfold viewK at hr
  split at hr
  · rename_i p hp
    simp only [Option.map_eq_some_iff] at hr
    obtain ⟨q, hq, rfl⟩ := hr
    obtain ⟨o1, o2, o3⟩ := hob
    obtain ⟨m1, c1, l1, e1, r1⟩ := frzVs_ok args vals p m hp o1 (fun z hz => hrd.1 z hz) o2 hl hv hc
    obtain ⟨g1, g2⟩ := hk fresh H p.1 ⟨q.1, [], false, [], q.2⟩ (by simp [pureK, hq]) o3 c φ m1 _ a W vals ⟨fun z hz => by simp at hz, by simp⟩ c1 e1 r1
    refine ⟨g1, fun ro n => ?_⟩
    refine (g2 ro n).mono ?_
    rintro e W' ⟨φ', m', V, h1, h2, h3, h4, h5⟩
    exact ⟨φ', m', V, h1, h2, h3, l1.trans h4, h5⟩
  · cases hr

attribute [go_sem] viewK
end Go.Proofs.Hg

/- A law's arguments as values of the abstract machine. -/
set_option linter.unusedVariables false
set_option linter.unusedSimpArgs false
namespace Go.Proofs.Hg
open Go.RowKit

/-- The types of what a law is given. -/
inductive Ty where
  | bool
  | int (k : IntKind)
  | str
  | float (k : FloatKind)
  | slice (e : Ty)
  | struct (fs : List Ty)
  | array (n : Nat) (e : Ty)

mutual
def Ty.size : Ty → Nat
  | .bool => 1
  | .int _ => 1
  | .str => 1
  | .float _ => 1
  | .slice _ => 1
  | .struct fs => Ty.sizes fs
  | .array n e => n * e.size
def Ty.sizes : List Ty → Nat
  | [] => 0
  | t :: ts => t.size + Ty.sizes ts
end

mutual
def Ty.has : Ty → List D → Prop
  | .bool, ds => ∃ b, ds = [.bool b]
  | .int k, ds => ∃ n, ds = [.int k n] ∧ (Lit.int k n).wf = true
  | .str, ds => ∃ s, ds = [.str s] ∧ s.length ≤ maxLen
  | .float k, ds => ∃ b, ds = [.float k b]
  | .slice e, ds => ∃ z es, ds = [.slice z e.size es] ∧ es.length ≤ maxLen ∧ ∀ r ∈ es, e.has r
  | .struct fs, ds => Ty.hasL fs ds
  | .array n e, ds => ∃ rs : List (List D), rs.length = n ∧ ds = rs.flatten ∧ ∀ r ∈ rs, e.has r ∧ r.length = e.size
def Ty.hasL : List Ty → List D → Prop
  | [], ds => ds = []
  | t :: ts, ds => ∃ a b, ds = a ++ b ∧ t.has a ∧ Ty.hasL ts b
end

def tiles (f : TypeId → Option Ty) (P : Program) : Nat → List Field → Nat → Option (List Ty)
  | off, [], tot => if off = tot then some [] else none
  | off, g :: gs, tot => match f g.type with
    | some T => if g.offset = off ∧ P.cellsOf g.type = T.size then (tiles f P (off + T.size) gs tot).map (T :: ·) else none
    | none => none

def tyOf (P : Program) : Nat → TypeId → Option Ty
  | 0, _ => none
  | n + 1, t => match P.underlying t with
    | some .bool => some .bool
    | some (.int k) => some (.int k)
    | some .string => some .str
    | some (.float k) => some (.float k)
    | some (.array m e) => match tyOf P n e with
      | some T => if P.cellsOf e = T.size ∧ P.cellsOf t = m * T.size then some (.array m T) else none
      | none => none
    | some (.slice e) => match tyOf P n e with
      | some T => if 0 < T.size ∧ P.cellsOf e = T.size then some (.slice T) else none
      | none => none
    | some (.struct fs) => (tiles (tyOf P n) P 0 fs.toList (P.cellsOf t)).map .struct
    | _ => none

def heapM (W : World) : Mem := fun b => W.heap[b]?
def relD (m : Mem) (ds : List D) (cs : List Value) : Prop := ∀ (j : Nat) (d : D), ds[j]? = some d → ∃ v, cs[j]? = some v ∧ d.rel m v

theorem relD_one {m : Mem} {d : D} {v : Value} (h : d.rel m v) : relD m [d] [v] := fun j x hj => by
  cases j with
  | zero => simp at hj; subst hj; exact ⟨v, rfl, h⟩
  | succ j => simp at hj

theorem list_of {Q : Nat → List D → Prop} : ∀ (n : Nat), (∀ i, i < n → ∃ r, Q i r) → ∃ es : List (List D), es.length = n ∧ ∀ i, i < n → Q i (es.getD i [])
  | 0, _ => ⟨[], rfl, fun i hi => by omega⟩
  | n + 1, h => by
    obtain ⟨es, h1, h2⟩ := list_of n fun i hi => h i (by omega)
    obtain ⟨r, hr⟩ := h n (by omega)
    refine ⟨es ++ [r], by simp [h1], fun i hi => ?_⟩
    by_cases e : i < n
    · have := h2 i e
      simpa [List.getD_eq_getElem?_getD, List.getElem?_append_left (show i < es.length by omega)] using this
    · have : i = n := by omega
      subst this
      simpa [List.getD_eq_getElem?_getD, ← h1] using hr

section
variable {H : Type} {enc : TypeId × Value → H} {P : Program} {W : World} {base : Nat} {spare : Nat → Bool} {held : Bool}

theorem cell_mem {a : Addr} {v : Value} (h : W.cell? a = some v) : a.spot = none ∧ memCell (heapM W) a.block a.off = some v := by
  unfold World.cell? at h
  unfold memCell heapM
  split at h
  · rename_i c x y hb
    split at h
    · cases h
    · rename_i hs
      rw [hb]
      exact ⟨by simpa using hs, h⟩
  · cases h

theorem Ty.hasL_len : ∀ (ts : List Ty) (ds : List D), (∀ T ∈ ts, ∀ r, T.has r → r.length = T.size) → Ty.hasL ts ds → ds.length = Ty.sizes ts
  | [], ds, _, h => by
    unfold Ty.hasL at h
    subst h
    simp [Ty.sizes]
  | t :: ts, ds, hT, h => by
    unfold Ty.hasL at h
    obtain ⟨a, b, rfl, h1, h2⟩ := h
    simp only [List.length_append, Ty.sizes]
    rw [hT t (List.mem_cons_self ..) a h1, Ty.hasL_len ts b (fun T hm => hT T (List.mem_cons_of_mem _ hm)) h2]

/-- Fields side by side. -/
theorem tiles_has {f : TypeId → Option Ty} {cs : List Value} {n : Nat} (hf : ∀ t T, f t = some T → ∀ (cs : List Value) (x : DataW H × List MemPlace), DataW.trod enc P W base spare held n t cs = some x → ∃ ds, T.has ds ∧ ds.length = T.size ∧ cs.length = T.size ∧ relD (heapM W) ds cs) :
    ∀ (gs : List Field) (off tot : Nat) (Ts : List Ty), tiles f P off gs tot = some Ts → cs.length = tot → (∀ g ∈ gs, ∃ x, DataW.trod enc P W base spare held n g.type ((cs.drop g.offset).take (P.cellsOf g.type)) = some x) →
      ∃ ds, Ty.hasL Ts ds ∧ ds.length = Ty.sizes Ts ∧ off + Ty.sizes Ts = tot ∧ relD (heapM W) ds (cs.drop off)
  | [], off, tot, Ts, ht, hl, _ => by
    simp only [tiles] at ht
    split at ht
    · rename_i e
      injection ht with ht
      subst ht
      exact ⟨[], by unfold Ty.hasL; rfl, by simp [Ty.sizes], by simp [Ty.sizes, e], fun j d hj => by simp at hj⟩
    · cases ht
  | g :: gs, off, tot, Ts, ht, hl, hg => by
    simp only [tiles] at ht
    split at ht
    · rename_i T hT
      split at ht
      · rename_i hc
        simp only [Option.map_eq_some_iff] at ht
        obtain ⟨Ts', h1, rfl⟩ := ht
        obtain ⟨x, hx⟩ := hg g (List.mem_cons_self ..)
        obtain ⟨a, a1, a2, a3, a4⟩ := hf g.type T hT _ x hx
        obtain ⟨b, b1, b2, b3, b4⟩ := tiles_has hf gs (off + T.size) tot Ts' h1 hl (fun g' hg' => hg g' (List.mem_cons_of_mem _ hg'))
        refine ⟨a ++ b, by unfold Ty.hasL; exact ⟨a, b, rfl, a1, b1⟩, by simp [Ty.sizes, a2, b2], by simp only [Ty.sizes]; omega, fun j d hj => ?_⟩
        by_cases e : j < a.length
        · rw [List.getElem?_append_left e] at hj
          obtain ⟨v, v1, v2⟩ := a4 j d hj
          refine ⟨v, ?_, v2⟩
          rw [hc.1, hc.2, List.getElem?_take_of_lt (by omega)] at v1
          exact v1
        · rw [List.getElem?_append_right (by omega)] at hj
          obtain ⟨v, v1, v2⟩ := b4 _ d hj
          refine ⟨v, ?_, v2⟩
          rw [List.getElem?_drop] at v1 ⊢
          rw [← v1]
          congr 1
          omega
      · cases ht
    · cases ht

theorem trod_float {k : FloatKind} {t : TypeId} {fuel : Nat} {cs : List Value} {x : DataW H × List MemPlace} (ht : P.underlying t = some (.float k)) (h : DataW.trod enc P W base spare held fuel t cs = some x) : ∃ b, cs = [.float k b] := by
  cases fuel with
  | zero => simp [DataW.trod] at h
  | succ n =>
    unfold DataW.trod at h
    rw [ht] at h
    split at h <;> simp_all

theorem trod_has : ∀ (k : Nat) (t : TypeId) (T : Ty), tyOf P k t = some T → ∀ (fuel : Nat) (cs : List Value) (x : DataW H × List MemPlace), DataW.trod enc P W base spare held fuel t cs = some x →
    ∃ ds, T.has ds ∧ ds.length = T.size ∧ cs.length = T.size ∧ relD (heapM W) ds cs
  | 0, t, T, hT, _, _, _, _ => by simp [tyOf] at hT
  | k + 1, t, T, hT, fuel, cs, x, hx => by
    simp only [tyOf] at hT
    split at hT
    · rename_i hu
      injection hT with hT
      subst hT
      obtain ⟨b, rfl, _⟩ := DataW.trod_bool hu hx
      exact ⟨[.bool b], by unfold Ty.has; exact ⟨b, rfl⟩, by simp [Ty.size], by simp [Ty.size], relD_one (by unfold D.rel; rfl)⟩
    · rename_i kd hu
      injection hT with hT
      subst hT
      obtain ⟨n, rfl, _, hw⟩ := DataW.trod_int hu hx
      exact ⟨[.int kd n], by unfold Ty.has; exact ⟨n, rfl, hw⟩, by simp [Ty.size], by simp [Ty.size], relD_one (by unfold D.rel; rfl)⟩
    · rename_i hu
      injection hT with hT
      subst hT
      obtain ⟨s, rfl, _, hs⟩ := DataW.trod_string hu hx
      refine ⟨[.str s.data.toList], by unfold Ty.has; exact ⟨_, rfl, by rw [Array.length_toList]; exact hs⟩, by simp [Ty.size], by simp [Ty.size], relD_one (by unfold D.rel; cases s; simp)⟩
    · rename_i kd hu
      injection hT with hT
      subst hT
      obtain ⟨b, rfl⟩ := trod_float hu hx
      exact ⟨[.float kd b], by unfold Ty.has; exact ⟨b, rfl⟩, by simp [Ty.size], by simp [Ty.size], relD_one (by unfold D.rel; rfl)⟩
    · rename_i m e hu
      split at hT
      · rename_i Te hTe
        split at hT
        · rename_i hsz
          injection hT with hT
          subst hT
          obtain ⟨xs, n, _, _, hl, hlen, hf⟩ := DataW.trod_array hu hx
          have hex : ∀ i, i < m → ∃ r, Te.has r ∧ r.length = Te.size ∧ relD (heapM W) r ((cs.drop (i * Te.size)).take Te.size) := by
            intro i hi
            have h1 := hf i hi
            rw [List.getElem?_eq_getElem (by omega), hsz.1] at h1
            obtain ⟨r, r1, r2, r3, r4⟩ := trod_has k e Te hTe n _ _ h1
            exact ⟨r, r1, r2, r4⟩
          obtain ⟨rs, e1, e2⟩ := list_of m hex
          have hrow : ∀ r ∈ rs, Te.has r ∧ r.length = Te.size := by
            intro r hr
            obtain ⟨i, hi, hir⟩ := List.getElem_of_mem hr
            have := e2 i (by omega)
            rw [List.getD_eq_getElem?_getD, List.getElem?_eq_getElem hi, Option.getD_some, hir] at this
            exact ⟨this.1, this.2.1⟩
          have hfl := flatten_len (e := Te.size) (es := rs) fun r hr => (hrow r hr).2
          refine ⟨rs.flatten, by unfold Ty.has; exact ⟨rs, e1, rfl, hrow⟩, by rw [hfl, e1]; rfl, by rw [hl, hsz.2]; rfl, fun j d hj => ?_⟩
          have hj2 := (List.getElem?_eq_some_iff.1 hj).1
          rw [hfl] at hj2
          rcases Nat.eq_zero_or_pos Te.size with h0 | h0
          · rw [h0] at hj2; simp at hj2
          rw [flatten_get h0 (fun r hr => (hrow r hr).2) hj2] at hj
          have hk : j / Te.size < m := by rw [← e1]; exact (Nat.div_lt_iff_lt_mul h0).2 hj2
          obtain ⟨v, v1, v2⟩ := (e2 _ hk).2.2 _ d hj
          have hm := Nat.mod_lt j h0
          rw [List.getElem?_take_of_lt hm, List.getElem?_drop] at v1
          refine ⟨v, ?_, v2⟩
          rw [← v1]
          congr 1
          have := Nat.div_add_mod j Te.size
          rw [Nat.mul_comm] at this
          exact this.symm
        · cases hT
      · cases hT
    · rename_i e hu
      split at hT
      · rename_i Te hTe
        split at hT
        · rename_i hsz
          injection hT with hT
          subst hT
          rcases DataW.trod_slice hu hx with ⟨rfl, _⟩ | ⟨a, len, cap, elems, rest, n, _, rfl, _, hb, hl, hm, hlen, hel, _, _⟩
          · refine ⟨[.slice (some true) Te.size []], by unfold Ty.has; exact ⟨_, [], rfl, Nat.zero_le _, fun r hr => by simp at hr⟩, by simp [Ty.size], by simp [Ty.size], relD_one ?_⟩
            unfold D.rel
            exact .inl ⟨rfl, by simp, rfl⟩
          · have hex : ∀ i, i < len → ∃ r, Te.has r ∧ r.length = Te.size ∧ ∀ (j : Nat) (d : D), r[j]? = some d → ∃ v, W.cell? ((a.add (i * Te.size)).add j) = some v ∧ d.rel (heapM W) v := by
              intro i hi
              have h1 := hel i hi
              rw [List.getElem?_eq_getElem (by omega), hsz.2] at h1
              obtain ⟨cs', c1, c2⟩ := Option.bind_eq_some_iff.1 h1
              obtain ⟨r, r1, r2, r3, r4⟩ := trod_has k e Te hTe n cs' _ c2
              refine ⟨r, r1, r2, fun j d hj => ?_⟩
              obtain ⟨v, v1, v2⟩ := r4 j d hj
              have hj2 := (List.getElem?_eq_some_iff.1 hj).1
              exact ⟨v, by rw [(World.cells?_some c1).2.2 j (by omega)]; exact v1, v2⟩
            obtain ⟨es, e1, e2⟩ := list_of len hex
            have hrow : ∀ r ∈ es, Te.has r ∧ r.length = Te.size := by
              intro r hr
              obtain ⟨i, hi, hir⟩ := List.getElem_of_mem hr
              have := e2 i (by omega)
              rw [List.getD_eq_getElem?_getD, List.getElem?_eq_getElem hi, Option.getD_some, hir] at this
              exact ⟨this.1, this.2.1⟩
            refine ⟨[.slice none Te.size es], by unfold Ty.has; exact ⟨_, es, rfl, by omega, fun r hr => (hrow r hr).1⟩, by simp [Ty.size], by simp [Ty.size], relD_one ?_⟩
            unfold D.rel
            refine .inr ⟨by simp, a, cap, by rw [e1], by omega, fun r hr => (hrow r hr).2, fun hne => ?_⟩
            have hpos : 0 < len := by rw [← e1]; exact List.length_pos_iff.2 hne
            have hsp : a.spot = none := by
              have h0 := e2 0 hpos
              have hl0 : 0 < (es.getD 0 []).length := by rw [h0.2.1]; exact hsz.1
              obtain ⟨v, v1, _⟩ := h0.2.2 0 _ (List.getElem?_eq_getElem hl0)
              simp only [Nat.zero_mul, Addr.add, if_true] at v1
              exact (cell_mem v1).1
            refine ⟨hsp, ?_⟩
            rw [relRows_iff, relCells_iff]
            intro i d hi
            have hfl := flatten_len (e := Te.size) (es := es) fun r hr => (hrow r hr).2
            have hi2 := (List.getElem?_eq_some_iff.1 hi).1
            rw [hfl] at hi2
            rw [flatten_get hsz.1 (fun r hr => (hrow r hr).2) hi2] at hi
            have hk : i / Te.size < len := by rw [← e1]; exact (Nat.div_lt_iff_lt_mul hsz.1).2 hi2
            obtain ⟨v, v1, v2⟩ := (e2 _ hk).2.2 _ d hi
            obtain ⟨ab, ao, asp⟩ := a
            simp only at hsp
            subst hsp
            rw [addr_add, addr_add] at v1
            refine ⟨v, ?_, v2⟩
            have := (cell_mem v1).2
            simp only at this
            rw [← this]
            congr 1
            have := Nat.div_add_mod i Te.size
            rw [Nat.mul_comm] at this
            show ao + i = _
            omega
        · cases hT
      · cases hT
    · rename_i fs hu
      simp only [Option.map_eq_some_iff] at hT
      obtain ⟨Ts, hTs, rfl⟩ := hT
      obtain ⟨xs, n, _, _, hl, hlen, hf⟩ := DataW.trod_struct hu hx
      obtain ⟨ds, d1, d2, d3, d4⟩ := tiles_has (enc := enc) (base := base) (spare := spare) (held := held) (n := n) (cs := cs) (fun t T ht cs x hx => trod_has k t T ht n cs x hx) fs.toList 0 (P.cellsOf t) Ts hTs hl (fun g hg => by
        obtain ⟨i, hi, hig⟩ := List.getElem_of_mem hg
        have h1 := hf i g (by rw [← Array.getElem?_toList, List.getElem?_eq_getElem hi, hig])
        have hi2 : i < xs.length := by rw [hlen]; simpa using hi
        rw [List.getElem?_eq_getElem hi2] at h1
        exact ⟨_, h1⟩)
      exact ⟨ds, by unfold Ty.has; exact d1, by simp [Ty.size, d2], by simp only [Ty.size]; omega, by simpa using d4⟩
    · cases hT

end
end Go.Proofs.Hg
