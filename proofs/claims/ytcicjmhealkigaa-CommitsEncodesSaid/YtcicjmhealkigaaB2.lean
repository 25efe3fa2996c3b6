/- append. -/
import Derived.Test.YtcicjmhealkigaaB1
set_option linter.unusedVariables false
set_option linter.unusedSimpArgs false
namespace Go.Proofs.Hg
open Go.RowKit

section
variable {P : Program} {c : Ctx} {φ : Names} {m : Mem} {f : StF} {a : Act} {W : World}

/-- What is appended: its length, its cells, in every world that keeps what is read. -/
structure Src (P : Program) (W : World) (size n : Nat) (x : Value) (news : List Value) : Prop where
  len : ∀ w, (Builtin.lenOf x).run P w = .ok n w
  cells : ∀ w, (∀ a v, W.cell? a = some v → w.cell? a = some v) → (Builtin.firstCells size n x).run P w = .ok news.toArray w
  size : news.length = n * size
  one : ∀ v ∈ news, v.oneCell' = true

/-- The elements that are appended: a slice's or a string's. -/
def srcOf (H : Heap) (x : AV) : Option (List (List D) × Prop × List (Nat × AObj)) :=
  match x with
  | .s (.d (.str s)) => some (brow s, True, [])
  | x => viewOf H x

def srcSz (k : Nat) : AV → Option Nat
  | .s (.d (.str _)) => some 1
  | .s (.d (.slice (some true) _ [])) => some k
  | x => elemSz x

theorem src_str (s : List UInt8) : Src P W 1 s.length (.string ⟨s.toArray⟩) (s.map fun b => Value.int .u8 (b.toNat : Int)) := by
  have hsz : (ByteArray.mk s.toArray).size = s.length := by simp [ByteArray.size]
  refine ⟨fun w => by simp [Builtin.lenOf, hsz], fun w _ => ?_, by simp, fun v hv => by obtain ⟨b, _, rfl⟩ := List.mem_map.1 hv; rfl⟩
  have : (ByteArray.mk s.toArray).extract 0 s.length = ⟨s.toArray⟩ := by
    apply ByteArray.ext
    rw [ByteArray.data_extract]
    apply Array.ext'
    simp
  simp [Builtin.firstCells, this]

theorem shown_src {e : Nat} {V : Value} {es : List (List D)} (h : Shown W e V es m) : ∃ news, Src P W e es.length V news ∧ ∀ (j : Nat) (d : D), es.flatten[j]? = some d → ∃ v : Value, news[j]? = some v ∧ d.rel m v := by
  rcases h.form with ⟨rfl, rfl⟩ | ⟨ad, k, rfl, hcell⟩
  · exact ⟨[], ⟨fun w => by simp [Builtin.lenOf], fun w _ => by simp [Builtin.firstCells], by simp, fun v hv => by simp at hv⟩, fun j d hj => by simp at hj⟩
  · have hfl := flatten_len h.rows
    by_cases hne : es = []
    · subst hne
      refine ⟨[], ⟨fun w => by simp [Builtin.lenOf], fun w _ => ?_, by simp, fun v hv => by simp at hv⟩, fun j d hj => by simp at hj⟩
      have := run_loadCells_list (P := P) w ad [] (fun j v hj => by simp at hj)
      simpa [Builtin.firstCells] using this
    · obtain ⟨hsp, hcell⟩ := hcell hne
      obtain ⟨ab, ao, asp⟩ := ad
      simp only at hsp
      subst hsp
      let news := (List.range es.flatten.length).map fun j => (W.cell? ⟨ab, ao + j, none⟩).getD undef
      have hnew : ∀ j, j < es.flatten.length → W.cell? ⟨ab, ao + j, none⟩ = some (news.getD j undef) := by
        intro j hj
        obtain ⟨v, q1, q2⟩ := hcell j _ (List.getElem?_eq_getElem hj)
        simp only at q1
        rw [q1]
        simp only [news, List.getD_eq_getElem?_getD, List.getElem?_map, List.getElem?_range hj, Option.map_some, Option.getD_some, q1]
      have hl : news.length = es.length * e := by simp [news, ← hfl]
      refine ⟨news, ⟨fun w => by simp [Builtin.lenOf], fun w hw => ?_, hl, fun v hv => ?_⟩, fun j d hj => ?_⟩
      · have := run_loadCells_list (P := P) w ⟨ab, ao, none⟩ news (fun j v hj => by
          rw [addr_add]
          have hjl := (List.getElem?_eq_some_iff.1 hj).1
          rw [hw _ _ (hnew j (by omega))]
          simp [List.getD_eq_getElem?_getD, hj])
        rw [hl] at this
        simpa [Builtin.firstCells] using this
      · obtain ⟨j, hj1, hj2⟩ := List.getElem_of_mem hv
        obtain ⟨v', q1, q2⟩ := hcell j _ (List.getElem?_eq_getElem (by omega))
        have := hnew j (by omega)
        rw [q1] at this
        injection this with this
        rw [List.getD_eq_getElem?_getD, List.getElem?_eq_getElem hj1, Option.getD_some] at this
        rw [← hj2, ← this]
        exact D.rel_one q2
      · have hjl := (List.getElem?_eq_some_iff.1 hj).1
        obtain ⟨v', q1, q2⟩ := hcell j d hj
        refine ⟨v', ?_, q2⟩
        have := hnew j hjl
        rw [q1] at this
        injection this with this
        rw [this, List.getD_eq_getElem?_getD, List.getElem?_eq_getElem (by omega)]
        rfl

theorem src_none (size : Nat) : Src P W size 0 (.slice none 0 0) [] :=
  ⟨fun w => by simp [Builtin.lenOf], fun w _ => by simp [Builtin.firstCells], by simp, fun v hv => by simp at hv⟩

theorem srcOf_ok {H : Heap} {x : AV} {es : List (List D)} {ob : Prop} {rd : List (Nat × AObj)} {k e : Nat} (h : srcOf H x = some (es, ob, rd)) (hob : ob) (he : srcSz k x = some e) (hrd : ∀ p ∈ rd, f (.h p.1) = .o p.2) (hc : RelC c φ m f a W) {V : Value}
    (hx : x.rel φ m V) : (∀ r ∈ es, r.length = e) ∧ ∃ news, Src P W e es.length V news ∧ ∀ (j : Nat) (d : D), es.flatten[j]? = some d → ∃ v : Value, news[j]? = some v ∧ d.rel m v := by
  unfold srcOf at h
  split at h
  · rename_i s
    simp only [srcSz, Option.some.injEq] at he
    subst he
    simp only [Option.some.injEq, Prod.mk.injEq] at h
    obtain ⟨rfl, rfl, rfl⟩ := h
    simp only [AV.rel, Sc.rel, D.rel] at hx
    subst hx
    refine ⟨brow_row s, s.map fun b => Value.int .u8 (b.toNat : Int), by rw [brow_length]; exact src_str s, fun j d hj => ?_⟩
    obtain ⟨v, q1, q2⟩ := brow_rel m s #[] j d hj
    exact ⟨v, by simpa using q1, q2⟩
  · rename_i hns
    by_cases hnil : ∃ e0, x = .s (.d (.slice (some true) e0 []))
    · obtain ⟨e0, rfl⟩ := hnil
      simp only [viewOf, Option.some.injEq, Prod.mk.injEq] at h
      obtain ⟨rfl, rfl, rfl⟩ := h
      have hV : V = .slice none 0 0 := by
        simp only [AV.rel, Sc.rel, D.rel] at hx
        rcases hx with ⟨_, _, hx⟩ | ⟨hx, _⟩
        · exact hx
        · exact absurd rfl hx
      subst hV
      exact ⟨fun r hr => absurd hr (by simp), [], src_none e, fun j d hj => by simp at hj⟩
    have he' : elemSz x = some e := by
      unfold srcSz at he
      split at he
      · rename_i s; exact absurd rfl (hns s)
      · exact absurd ⟨_, rfl⟩ hnil
      · exact he
    have := viewOf_ok h hob he' hrd hc hx
    exact ⟨this.rows, shown_src this⟩

def srcD (d : TypeDesc) : Prop := d = .string ∨ ∃ e, d = .slice e

/-- append that changes nothing: nothing is appended. -/
theorem run_append_zero {t u ty e : TypeId} {te : TI} (hu : P.underlying t = some (.slice e)) (hte : TIOk P e te) {du : TypeDesc} (hx : P.underlying u = some du) (hd : srcD du)
    {base : Option Addr} {sLen sCap : Nat} (hcap : sLen ≤ sCap) {x : Value} {news : List Value} (hs : Src P W te.size 0 x news) :
    (Builtin.append_ #[t, u] ty #[.slice base sLen sCap, x]).run P W = .ok (.slice base sLen sCap) W := by
  have h0 : news = [] := by have := hs.size; simp at this; exact List.eq_nil_of_length_eq_zero (by simpa using this)
  subst h0
  have hcells := hs.cells W (fun _ _ h => h)
  rcases hd with rfl | ⟨e', rfl⟩ <;>
    (simp [Builtin.append_, run_underlying hu, run_underlying hx, run_sizeOf' hte, hs.len, hcap, hcells]; cases base <;> simp [storeCells])

/-- append with room: in place. -/
theorem run_append_room' {t u ty e : TypeId} {te : TI} (hu : P.underlying t = some (.slice e)) (hte : TIOk P e te) {du : TypeDesc} (hx : P.underlying u = some du) (hd : srcD du)
    {b o sLen sCap n : Nat} (hcap : sLen + n ≤ sCap) {x : Value} {news : List Value} (hs : Src P W te.size n x news) {cs : Array Value} {ety : TypeId} {fr : Nat × Nat}
    (hb : W.heap[b]? = some (.cells cs ety fr)) (hf : FrOk cs.size fr) (hfit : o + (sLen + n) * te.size ≤ cs.size) :
    (Builtin.append_ #[t, u] ty #[.slice (some ⟨b, o, none⟩) sLen sCap, x]).run P W = .ok (.slice (some ⟨b, o, none⟩) (sLen + n) sCap) (W.setCells b (o + sLen * te.size) news) := by
  have hcells := hs.cells W (fun _ _ h => h)
  have hnl := hs.size
  have hin : o + sLen * te.size + news.length ≤ cs.size := by rw [hnl]; rw [Nat.add_mul] at hfit; omega
  have h2 := run_storeCells_cells (P := P) b (o + sLen * te.size) news 0 W (fun j hj => by
      rw [cell_heap hb, Array.getElem?_eq_getElem (by omega)]
      rfl) (fun j hj => frozen_heap hb hf (by omega)) hs.one
  rw [Nat.add_zero] at h2
  rcases hd with rfl | ⟨e', rfl⟩ <;>
    (simp [Builtin.append_, run_underlying hu, run_underlying hx, run_sizeOf' hte, hs.len, hcap, hcells, addr_add, h2])

/-- append that must grow: a new row. -/
theorem run_append_grow' {t u ty e : TypeId} {te : TI} (hu : P.underlying t = some (.slice e)) (hte : TIOk P e te) {du : TypeDesc} (hx : P.underlying u = some du) (hd : srcD du)
    {base : Option Addr} {sLen sCap n : Nat} (hcap : sCap < sLen + n) (hlc : sLen ≤ sCap) {x : Value} {news olds : List Value} (hs : Src P W te.size n x news) (ho : Src P W te.size sLen (.slice base sLen sCap) olds)
    (hbig : (sLen + n) * te.bytes ≤ 140737488355328) (hbig2 : sLen + n ≤ 140737488355328) :
    (Builtin.append_ #[t, u] ty #[.slice base sLen sCap, x]).run P W =
      .ok (.slice (some ⟨W.heap.size, 0, none⟩) (sLen + n) (grownCap W (sLen + n) sCap e))
        (W.drew.alloc (.cells (olds.toArray ++ (news.toArray ++ Builtin.zeroCells te.zeroVal.cells (grownCap W (sLen + n) sCap e - (sLen + n)))) e)) := by
  have hn : ¬ (sLen + n ≤ sCap) := by omega
  have h63 : ¬ (9223372036854775807 < ((sLen : Int) + (n : Int))) := by omega
  have hfit := growslice_fits (bytes := te.bytes) hcap hbig
  have h48 : ¬ (281474976710656 < Builtin.nextslicecap (sLen + n) sCap * te.bytes) := by omega
  have hc1 := hs.cells W.drew (fun a v h => h)
  have hc2 := ho.cells W.drew (fun a v h => h)
  obtain ⟨x1, hi, hi2, hi3, hi4⟩ := hte.info'
  rcases hd with rfl | ⟨e', rfl⟩ <;>
    (simp [Builtin.append_, run_underlying hu, run_underlying hx, run_sizeOf' hte, hs.len, hn, typeInfo, hi, hi3, h63, h48, Question.forced, hc1, hc2, run_zero' hte, newRow, grownCap])

def srcK : TK → Bool
  | .str => true
  | .slice _ => true
  | _ => false

def evAppRow (fresh : Nat) (te : TI) (e : TypeId) (H : Heap) (dst : AV) (es2 : List (List D)) (ob2 : Prop) (rd2 : List (Nat × AObj)) : Option Res :=
  match dst with
  | .s (.d (.slice (some true) _ [])) => some ⟨.one (.s (.row fresh te.size 0 es2.length none)), rd2, true, [(fresh, .o (.row es2 e))], ob2 ∧ es2.length * te.bytes ≤ 140737488355328 ∧ es2.length ≤ 140737488355328⟩
  | .s (.row i e' off len none) => (match H i with
    | some (.row es ty) => if e' = te.size ∧ ty = e then some ⟨.one (.s (.row fresh te.size 0 (es.length + es2.length) none)), (i, .row es ty) :: rd2, true, [(fresh, .o (.row (es ++ es2) e)), (i, .none)],
        off = 0 ∧ len = es.length ∧ ob2 ∧ (es.length + es2.length) * te.bytes ≤ 140737488355328 ∧ es.length + es2.length ≤ 140737488355328⟩ else none
    | _ => none)
  | _ => none

def evAppend (T : Tab) (fresh : Nat) (H : Heap) (t u : TypeId) (dst src : AV) : Option Res :=
  match lookN t T, lookN u T with
  | some ⟨.slice e, _, _, _⟩, some tu => if srcK tu.kind then (match lookN e T, srcOf H src, (match lookN e T with | some te => srcSz te.size src | none => none) with
    | some te, some (es2, ob2, rd2), some e2 => if e2 = te.size then evAppRow fresh te e H dst es2 ob2 rd2 else none
    | _, _, _ => none) else none
  | _, _ => none

theorem zeroCells_size {e : TypeId} {te : TI} (h : TIOk P e te) (n : Nat) : (Builtin.zeroCells te.zeroVal.cells n).size = n * te.size := by
  rw [zeroVal_cells h]
  simp [Builtin.zeroCells, h.len]

/-- What lies in a grown row. -/
theorem grown_row {es es2 : List (List D)} {k : Nat} (he : ∀ r ∈ es, r.length = k) (he2 : ∀ r ∈ es2, r.length = k) {olds news : List Value} (hol : olds.length = es.length * k)
    (h1 : ∀ (j : Nat) (d : D), es.flatten[j]? = some d → ∃ v : Value, olds[j]? = some v ∧ d.rel m v) (h2 : ∀ (j : Nat) (d : D), es2.flatten[j]? = some d → ∃ v : Value, news[j]? = some v ∧ d.rel m v) (rest : Array Value) :
    relRow m (es ++ es2) (olds.toArray ++ (news.toArray ++ rest)) := by
  intro j d hj
  rw [List.flatten_append] at hj
  have hfl := flatten_len he
  by_cases hjl : j < es.flatten.length
  · rw [List.getElem?_append_left hjl] at hj
    obtain ⟨v, q1, q2⟩ := h1 j d hj
    have hl := (List.getElem?_eq_some_iff.1 q1).1
    exact ⟨v, by rw [Array.getElem?_append_left (by simpa using hl)]; simpa using q1, q2⟩
  · rw [List.getElem?_append_right (by omega)] at hj
    obtain ⟨v, q1, q2⟩ := h2 _ d hj
    have hl := (List.getElem?_eq_some_iff.1 q1).1
    refine ⟨v, ?_, q2⟩
    have hos : olds.toArray.size = es.flatten.length := by rw [List.size_toArray, hol, hfl]
    rw [Array.getElem?_append_right (by rw [hos]; omega)]
    rw [Array.getElem?_append_left (by rw [hos, List.size_toArray]; exact hl)]
    have hx : j - olds.toArray.size = j - es.flatten.length := by rw [hos]
    rw [hx]
    simpa using q1

theorem srcD_of {k : TK} (h : srcK k = true) {d : TypeDesc} (hd : kindOf d = k) : srcD d := by
  subst hd
  cases d <;> simp [kindOf, srcK] at h
  · exact .inl rfl
  · exact .inr ⟨_, rfl⟩

theorem evAppend_ok {T : Tab} (hT : TabOk P T) {fresh : Nat} {H : Heap} {t u ty : TypeId} {dst src : AV} {r : Res} (h : evAppend T fresh H t u dst src = some r) (hob : r.ob) (hrd : r.Reads fresh f)
    (hc : RelC c φ m f a W) {X Y : Value} (hx : dst.rel φ m X) (hy : src.rel φ m Y) : Gives P (Builtin.append_ #[t, u] ty #[X, Y]) c φ m f a W r := by
  unfold evAppend at h
  split at h
  · rename_i e _ _ _ tu ht htu
    split at h
    · rename_i hk
      split at h
      · rename_i te es2 ob2 rd2 e2 hte hsrc hsz
        rw [hte] at hsz
        simp only at hsz
        split at h
        · rename_i hee
          subst hee
          have hu := (hT.at ht).desc (d := .slice e) (fun d' hd => kindOf_slice hd)
          obtain ⟨du, hxu, hkd⟩ := (hT.at htu).und'
          have hd := srcD_of hk hkd
          have hteo := hT.at hte
          unfold evAppRow at h
          split at h
          · -- onto nil
            injection h with h
            subst h
            obtain ⟨o1, o2, o3⟩ := hob
            obtain ⟨hrows, news, hs, hnews⟩ := srcOf_ok hsrc o1 hsz (fun p hp => hrd.1 p hp) hc hy
            have hX : X = .slice none 0 0 := by
              simp only [AV.rel, Sc.rel, D.rel] at hx
              rcases hx with ⟨_, _, hx⟩ | ⟨hx, _⟩
              · exact hx
              · exact absurd rfl hx
            subst hX
            have hfree := hrd.2 rfl
            have hn := hc.free _ hfree
            by_cases h0 : es2.length = 0
            · have hnil : es2 = [] := List.eq_nil_of_length_eq_zero h0
              subst hnil
              have hrun := run_append_zero (ty := ty) hu hteo hxu hd (base := none) (Nat.le_refl 0) hs
              refine ⟨updN φ fresh .nil, m, W, .slice none 0 0, ?_, updN_le _ hn, MemLe.refl m, hrun, .inl ⟨updN_self _ _ _, rfl, rfl, rfl, rfl⟩⟩
              rw [wrApp_cons, wrApp_nil]
              exact hc.allocNil hfree
            · have hrun := run_append_grow' (ty := ty) hu hteo hxu hd (base := none) (sLen := 0) (sCap := 0) (n := es2.length) (by omega) (Nat.le_refl _) hs (src_none te.size) (by simpa using o2) (by simpa using o3)
              simp only [Nat.zero_add] at hrun
              obtain ⟨g1, g2⟩ := grownCap_bounds (w := W) (need := es2.length) (old := 0) (e := e) (by omega)
              generalize grownCap W es2.length 0 e = cap at *
              have hcs : (([] : List Value).toArray ++ (news.toArray ++ Builtin.zeroCells te.zeroVal.cells (cap - es2.length))).size = cap * te.size := by
                have hz := zeroCells_size hteo (cap - es2.length)
                have hl := hs.size
                simp only [Array.size_append, List.size_toArray, List.length_nil, hz, hl]
                rw [Nat.zero_add, ← Nat.add_mul]
                congr 1
                omega
              refine ⟨updN φ fresh (.blk W.heap.size cap te.size), m, _, .slice (some ⟨W.heap.size, 0, none⟩) es2.length cap, ?_, updN_le _ hn, MemLe.refl m, hrun, ?_⟩
              · rw [wrApp_cons, wrApp_nil]
                refine hc.drew.alloc hfree (.inr ⟨W.heap.size, cap, te.size, _, (0, 0), updN_self _ _ _, heap_new _ _, FrOk.zero _, hcs, by omega, g2, hrows, ?_⟩)
                have := grown_row (m := m) (es := []) (es2 := es2) (k := te.size) (fun r hr => by simp at hr) hrows (olds := []) (by simp) (fun j d hj => by simp at hj) hnews (Builtin.zeroCells te.zeroVal.cells (cap - es2.length))
                simpa using this
              · exact .inr ⟨W.heap.size, cap, ⟨W.heap.size, 0, none⟩, cap, updN_self _ _ _, rfl, by simp, by omega, g1, fun _ => by simp, rfl⟩
          · rename_i i e' off len
            split at h
            · rename_i es ety hH
              split at h
              · rename_i hcond
                injection h with h
                subst h
                obtain ⟨rfl, rfl⟩ := hcond
                obtain ⟨rfl, rfl, o1, o2, o3⟩ := hob
                obtain ⟨hrows, news, hs, hnews⟩ := srcOf_ok hsrc o1 hsz (fun p hp => hrd.1 p (List.mem_cons_of_mem _ hp)) hc hy
                have hi := hrd.1 _ (List.mem_cons_self ..)
                simp only at hi
                have hfree := hrd.2 rfl
                have hn := hc.free _ hfree
                have hif : i ≠ fresh := by rintro rfl; rw [hi] at hfree; cases hfree
                have hfree2 : upd f (.h i) .none (.h fresh) = .free := by rw [upd_other (by simpa using fun e => hif e.symm)]; exact hfree
                rcases hx with ⟨h1, _, h2, _, rfl⟩ | ⟨b, C, ad, cc, h1, rfl, h3, h4, h5, h6⟩
                · -- a row that is nil
                  have hnil : es = [] := List.eq_nil_of_length_eq_zero h2
                  subst hnil
                  by_cases h0 : es2.length = 0
                  · have hnil : es2 = [] := List.eq_nil_of_length_eq_zero h0
                    subst hnil
                    have hrun := run_append_zero (ty := ty) hu hteo hxu hd (base := none) (Nat.le_refl 0) hs
                    refine ⟨updN φ fresh .nil, m, W, .slice none 0 0, ?_, updN_le _ hn, MemLe.refl m, hrun, .inl ⟨updN_self _ _ _, rfl, rfl, rfl, rfl⟩⟩
                    rw [wrApp_cons, wrApp_cons, wrApp_nil]
                    exact (hc.kill (.h i)).allocNil hfree2
                  · have hrun := run_append_grow' (ty := ty) hu hteo hxu hd (base := none) (sLen := 0) (sCap := 0) (n := es2.length) (by omega) (Nat.le_refl _) hs (src_none te.size) (by simpa using o2) (by simpa using o3)
                    simp only [Nat.zero_add] at hrun
                    simp only [List.length_nil, Nat.zero_add] at o3
                    obtain ⟨g1, g2⟩ := grownCap_bounds (w := W) (need := es2.length) (old := 0) (e := ety) (by omega)
                    generalize grownCap W es2.length 0 ety = cap at *
                    have hcs : (([] : List Value).toArray ++ (news.toArray ++ Builtin.zeroCells te.zeroVal.cells (cap - es2.length))).size = cap * te.size := by
                      have hz := zeroCells_size hteo (cap - es2.length)
                      have hl := hs.size
                      simp only [Array.size_append, List.size_toArray, List.length_nil, hz, hl]
                      rw [Nat.zero_add, ← Nat.add_mul]
                      congr 1
                      omega
                    refine ⟨updN φ fresh (.blk W.heap.size cap te.size), m, _, .slice (some ⟨W.heap.size, 0, none⟩) es2.length cap, ?_, updN_le _ hn, MemLe.refl m, hrun, ?_⟩
                    · rw [wrApp_cons, wrApp_cons, wrApp_nil]
                      refine (hc.kill (.h i)).drew.alloc hfree2 (.inr ⟨W.heap.size, cap, te.size, _, (0, 0), updN_self _ _ _, heap_new _ _, FrOk.zero _, hcs, by simpa using g1, g2, by simpa using hrows, ?_⟩)
                      exact grown_row (m := m) (es := []) (es2 := es2) (k := te.size) (fun r hr => by simp at hr) hrows (olds := []) (by simp) (fun j d hj => by simp at hj) hnews _
                    · exact .inr ⟨W.heap.size, cap, ⟨W.heap.size, 0, none⟩, cap, updN_self _ _ _, by simp, by simp, by omega, by simpa using g1, fun _ => by simp, rfl⟩
                · obtain ⟨cs, fr, q2, q3, q4, q5, q6, q7, q8, _⟩ := row_cell hc hi h1
                  have hcC : cc = C := by simpa using h3
                  subst hcC
                  by_cases h0 : es2.length = 0
                  · have hnil : es2 = [] := List.eq_nil_of_length_eq_zero h0
                    subst hnil
                    have hrun := run_append_zero (ty := ty) hu hteo hxu hd (base := some ad) h5 hs
                    refine ⟨updN φ fresh (.blk b cc te.size), m, W, .slice (some ad) es.length cc, ?_, updN_le _ hn, MemLe.refl m, hrun, ?_⟩
                    · rw [wrApp_cons, wrApp_cons, wrApp_nil]
                      refine hc.rename hi hfree h1 rfl rfl rfl rfl (fun _ _ => rfl) (.inr ⟨b, cc, te.size, cs, fr, updN_self _ _ _, q2, q3, q4, by simpa using q5, q6, by simpa using q7, by simpa using q8⟩)
                    · exact .inr ⟨b, cc, ad, cc, updN_self _ _ _, by simp, by simp, by omega, by simpa using h5, h6⟩
                  · by_cases hfit : es.length + es2.length ≤ cc
                    · have had := h6.1 (by omega)
                      simp only [Nat.zero_mul] at had
                      subst had
                      have hrun := run_append_room' (ty := ty) hu hteo hxu hd hfit hs q2 q3 (by rw [q4, Nat.zero_add]; exact Nat.mul_le_mul_right _ hfit)
                      obtain ⟨g1, g2, g3, g4, g5, g6⟩ := setCells_heap news b (0 + es.length * te.size) W cs ety fr q2
                      refine ⟨updN φ fresh (.blk b cc te.size), m, _, _, ?_, updN_le _ hn, MemLe.refl m, hrun, ?_⟩
                      · rw [wrApp_cons, wrApp_cons, wrApp_nil]
                        refine hc.rename hi hfree h1 g4 g5 g6 g3 g2 (.inr ⟨b, cc, te.size, _, fr, updN_self _ _ _, g1, by rw [splA_size]; exact q3, by rw [splA_size]; exact q4, by simpa using hfit, q6, fun r hr => ?_, ?_⟩)
                        · rcases List.mem_append.1 hr with hr | hr
                          · exact q7 r hr
                          · exact hrows r hr
                        · intro j d hj
                          rw [List.flatten_append] at hj
                          have hfl := flatten_len q7
                          have hnl := hs.size
                          have hsp := splA_get news cs (0 + es.length * te.size) j (by rw [q4, hnl, Nat.zero_add, ← Nat.add_mul]; exact Nat.mul_le_mul_right _ hfit)
                          rw [hsp]
                          by_cases hjl : j < es.flatten.length
                          · rw [List.getElem?_append_left hjl] at hj
                            rw [if_neg (by omega)]
                            exact q8 j d hj
                          · rw [List.getElem?_append_right (by omega)] at hj
                            obtain ⟨v, r1, r2⟩ := hnews _ d hj
                            have hl := (List.getElem?_eq_some_iff.1 r1).1
                            rw [if_pos (by omega)]
                            refine ⟨v, ?_, r2⟩
                            rw [← r1]
                            congr 1
                            omega
                      · exact .inr ⟨b, cc, _, cc, updN_self _ _ _, rfl, by simp, by omega, hfit, fun _ => by simp, rfl⟩
                    · -- it must grow
                      have hsh : Shown W te.size (.slice (some ad) es.length cc) es m := by
                        refine ⟨q7, .inr ⟨ad, cc, rfl, fun hne => ?_⟩⟩
                        have : 0 < es.length := List.length_pos_iff.2 hne
                        rw [h6.1 (by omega)]
                        refine ⟨rfl, fun j d hj => ?_⟩
                        obtain ⟨v, r1, r2⟩ := q8 j d hj
                        exact ⟨v, by rw [cell_heap q2]; simpa using r1, r2⟩
                      obtain ⟨olds, ho, holds⟩ := shown_src (P := P) hsh
                      have hrun := run_append_grow' (ty := ty) hu hteo hxu hd (by omega) h5 hs ho o2 o3
                      obtain ⟨g1, g2⟩ := grownCap_bounds (w := W) (need := es.length + es2.length) (old := cc) (e := ety) (by omega)
                      generalize grownCap W (es.length + es2.length) cc ety = cap at *
                      have hcs : (olds.toArray ++ (news.toArray ++ Builtin.zeroCells te.zeroVal.cells (cap - (es.length + es2.length)))).size = cap * te.size := by
                        have hz := zeroCells_size hteo (cap - (es.length + es2.length))
                        have hl := hs.size
                        have hl2 := ho.size
                        simp only [Array.size_append, List.size_toArray, hz, hl, hl2]
                        rw [← Nat.add_mul, ← Nat.add_mul]
                        congr 1
                        omega
                      refine ⟨updN φ fresh (.blk W.heap.size cap te.size), m, _, _, ?_, updN_le _ hn, MemLe.refl m, hrun, ?_⟩
                      · rw [wrApp_cons, wrApp_cons, wrApp_nil]
                        refine (hc.kill (.h i)).drew.alloc hfree2 (.inr ⟨W.heap.size, cap, te.size, _, (0, 0), updN_self _ _ _, heap_new _ _, FrOk.zero _, hcs, by simpa using g1, g2, fun r hr => ?_, ?_⟩)
                        · rcases List.mem_append.1 hr with hr | hr
                          · exact q7 r hr
                          · exact hrows r hr
                        · exact grown_row q7 hrows ho.size holds hnews _
                      · exact .inr ⟨W.heap.size, cap, ⟨W.heap.size, 0, none⟩, cap, updN_self _ _ _, rfl, by simp, by omega, g1, fun _ => by simp, rfl⟩
              · cases h
            · cases h
          · cases h
        · cases h
      · cases h
    · cases h
  · cases h

end
end Go.Proofs.Hg
