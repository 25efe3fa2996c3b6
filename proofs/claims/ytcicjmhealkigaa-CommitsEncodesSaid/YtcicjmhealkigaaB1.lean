/- Conversions. -/
import Derived.Test.YtcicjmhealkigaaA9
import Derived.Laws.IdiomStrings
import Derived.Laws.BitsLemmas
set_option linter.unusedVariables false
set_option linter.unusedSimpArgs false
namespace Go.Proofs.Hg
open Go.RowKit

section
variable {P : Program} {c : Ctx} {φ : Names} {m : Mem} {f : StF} {a : Act} {W : World}

def u8 (n : Int) : UInt8 := UInt8.ofNat (n % 256).toNat
theorem u8_wrap (n : Int) : ((u8 n).toNat : Int) = IntKind.u8.wrap n := by
  rw [IntKind.wrap_u8]
  unfold u8
  have h1 : 0 ≤ n % 256 := Int.emod_nonneg _ (by omega)
  have h2 : n % 256 < 256 := Int.emod_lt_of_pos _ (by omega)
  rw [UInt8.toNat_ofNat']
  omega

def cvt : IntKind → Int → Int
  | .u8, n => ((u8 n).toNat : Int)
  | k, n => k.wrap n
theorem cvt_wrap (k : IntKind) (n : Int) : cvt k n = k.wrap n := by
  cases k <;> first | rfl | exact u8_wrap n

def brow (s : List UInt8) : List (List D) := s.map fun b => [D.int .u8 (b.toNat : Int)]
def unb1 : List D → UInt8
  | [.int _ n] => UInt8.ofNat n.toNat
  | _ => 0
def unb (es : List (List D)) : List UInt8 := es.map unb1

@[simp] theorem unb_brow (s : List UInt8) : unb (brow s) = s := by
  simp only [unb, brow, List.map_map]
  conv => rhs; rw [← List.map_id s]
  apply List.map_congr_left
  intro b _
  simp [unb1]
@[simp] theorem brow_length (s : List UInt8) : (brow s).length = s.length := by simp [brow]
theorem brow_row (s : List UInt8) : ∀ r ∈ brow s, r.length = 1 := by
  intro r hr
  simp only [brow, List.mem_map] at hr
  obtain ⟨b, _, rfl⟩ := hr
  rfl
theorem brow_append (s t : List UInt8) : brow s ++ brow t = brow (s ++ t) := by simp [brow]
theorem brow_flat (s : List UInt8) : (brow s).flatten = s.map fun b => D.int .u8 (b.toNat : Int) := by
  induction s with
  | nil => rfl
  | cons b s ih => simp only [brow, List.map_cons, List.flatten_cons] at ih ⊢; rw [ih]; rfl

/-- The elements that a slice value shows. -/
def viewOf (H : Heap) : AV → Option (List (List D) × Prop × List (Nat × AObj))
  | .s (.row i _ off len _) => (match H i with
    | some (.row es ty) => some ((es.drop off).take len, off + len ≤ es.length, [(i, .row es ty)])
    | _ => none)
  | .s (.d (.slice _ _ es)) => some (es, True, [])
  | _ => none

/-- What is shown is there, in this world and in those that keep it. -/
structure Shown (W : World) (e : Nat) (V : Value) (es : List (List D)) (m : Mem) : Prop where
  rows : ∀ r ∈ es, r.length = e
  form : (V = .slice none 0 0 ∧ es = []) ∨ ∃ ad k, V = .slice (some ad) es.length k ∧ (es ≠ [] → ad.spot = none ∧ ∀ (j : Nat) (d : D), es.flatten[j]? = some d → ∃ v, W.cell? ⟨ad.block, ad.off + j, none⟩ = some v ∧ d.rel m v)

def elemSz : AV → Option Nat
  | .s (.row _ e _ _ _) => some e
  | .s (.d (.slice _ e _)) => some e
  | _ => none

theorem take_drop_flat {e : Nat} {es : List (List D)} (he : ∀ r ∈ es, r.length = e) {off len : Nat} (hl : off + len ≤ es.length) {j : Nat} {d : D} (h : ((es.drop off).take len).flatten[j]? = some d) :
    es.flatten[off * e + j]? = some d := by
  have hmem : ∀ r ∈ (es.drop off).take len, r.length = e := fun r hr => he r (List.mem_of_mem_drop (List.mem_of_mem_take hr))
  have hjl := (List.getElem?_eq_some_iff.1 h).1
  rw [flatten_len hmem] at hjl
  rcases Nat.eq_zero_or_pos e with h0 | h0
  · subst h0; simp at hjl
  rw [flatten_get h0 hmem hjl] at h
  have hlen : ((es.drop off).take len).length = len := by simp; omega
  rw [hlen] at hjl
  have hq : j / e < len := (Nat.div_lt_iff_lt_mul h0).2 hjl
  have hm := Nat.mod_lt j h0
  have heq : ((es.drop off).take len).getD (j / e) [] = es.getD (off + j / e) [] := by
    simp only [List.getD_eq_getElem?_getD, List.getElem?_take, List.getElem?_drop]
    rw [if_pos hq]
  rw [heq] at h
  have := flatten_at es (off + j / e) (j % e) he (by omega) hm
  rw [← h, ← this]
  congr 1
  have hd := Nat.div_add_mod j e
  rw [Nat.add_mul, Nat.mul_comm (j / e) e]
  generalize e * (j / e) = q at *
  generalize off * e = q2 at *
  omega

theorem viewOf_ok {H : Heap} {x : AV} {es : List (List D)} {ob : Prop} {rd : List (Nat × AObj)} {e : Nat} (h : viewOf H x = some (es, ob, rd)) (hob : ob) (he : elemSz x = some e) (hrd : ∀ p ∈ rd, f (.h p.1) = .o p.2) (hc : RelC c φ m f a W) {V : Value}
    (hx : x.rel φ m V) : Shown W e V es m := by
  unfold viewOf at h
  split at h
  · rename_i i e' off len cap
    simp only [elemSz, Option.some.injEq] at he
    subst he
    split at h
    · rename_i es0 ty hH
      simp only [Option.some.injEq, Prod.mk.injEq] at h
      obtain ⟨rfl, rfl, rfl⟩ := h
      have hi := hrd _ (List.mem_cons_self ..)
      rcases hx with ⟨h1, rfl, rfl, _, rfl⟩ | ⟨b, C, ad, k, h1, rfl, h3, h4, h5, h6⟩
      · refine ⟨fun r hr => by simp at hr, .inl ⟨rfl, by simp⟩⟩
      · obtain ⟨cs, fr, g2, g3, g4, g5, g6, g7, g8, _⟩ := row_cell hc hi h1
        have hlen : ((es0.drop off).take len).length = len := by simp; omega
        refine ⟨fun r hr => g7 r (List.mem_of_mem_drop (List.mem_of_mem_take hr)), .inr ⟨ad, k, by rw [hlen], fun hne => ?_⟩⟩
        have hk : k ≠ 0 := by
          have : 0 < ((es0.drop off).take len).length := List.length_pos_iff.2 hne
          omega
        rw [h6.1 hk]
        refine ⟨rfl, fun j d hj => ?_⟩
        obtain ⟨v, q1, q2⟩ := g8 _ d (take_drop_flat g7 hob hj)
        exact ⟨v, by rw [cell_heap g2]; exact q1, q2⟩
    · cases h
  · rename_i z e' es0
    simp only [elemSz, Option.some.injEq] at he
    subst he
    simp only [Option.some.injEq, Prod.mk.injEq] at h
    obtain ⟨rfl, rfl, rfl⟩ := h
    simp only [AV.rel, Sc.rel, D.rel] at hx
    rcases hx with ⟨rfl, _, rfl⟩ | ⟨_, ad, k, rfl, h4, h5, h6⟩
    · exact ⟨fun r hr => by simp at hr, .inl ⟨rfl, rfl⟩⟩
    · refine ⟨h5, .inr ⟨ad, k, rfl, fun hne => ?_⟩⟩
      obtain ⟨hs, hrow⟩ := h6 hne
      refine ⟨hs, fun j d hj => ?_⟩
      rw [relRows_iff, relCells_iff] at hrow
      obtain ⟨v, q1, q2⟩ := hrow j d hj
      exact ⟨v, mem_cell hc q1, q2⟩
  · cases h

def fintV (s : FloatKind) (b : Nat) : Int := ((s.decode b).toInt .zero).getD 0

def evToStr (T : Tab) (H : Heap) (e : TypeId) (x : AV) : Option Res :=
  match lookN e T, elemSz x with
  | some ⟨.int .u8, _, _, _⟩, some 1 => (viewOf H x).map fun q => ⟨.one (dv (.str (unb q.1))), q.2.2, false, [], q.2.1 ∧ q.1 = brow (unb q.1)⟩
  | _, _ => none

def evUns (T : Tab) (H : Heap) (e : TypeId) (x : AV) : Option Res :=
  match x with
  | .s (.ptr i off) => (match H i, lookN e T with
    | some (.cells vs ty), some te => if te.size = 0 then none else some ⟨.one x, [(i, .cells vs ty)], false, [], off < vs.length⟩
    | _, _ => none)
  | _ => none

def evUnsBack (T : Tab) (H : Heap) (e : TypeId) (x : AV) : Option Res :=
  match x with
  | .s (.ptr i off) => (match H i, lookN e T with
    | some (.cells vs ty), some ⟨.struct fs, sz, _, _⟩ => if ty = e ∧ off = 0 then some ⟨.one x, [(i, .cells vs ty)], false, [], vs.length = sz⟩ else none
    | _, _ => none)
  | _ => none

def evConvert (T : Tab) (fresh : Nat) (H : Heap) (src dst : TypeId) (x : AV) : Option Res :=
  match lookN src T, lookN dst T, x with
  | some _, some ⟨.int k, _, _, _⟩, .s (.d (.int _ n)) => some (valRes (dv (.int k (cvt k n))) True)
  | some _, some ⟨.int k, _, _, _⟩, .s (.d (.float s b)) => some (valRes (dv (.int k (fintV s b))) (((s.decode b).toInt .zero).isSome = true ∧ k.min ≤ fintV s b ∧ fintV s b ≤ k.max))
  | some _, some ⟨.float k, _, _, _⟩, .s (.d (.int _ n)) => some (valRes (dv (.float k (k.nearest n))) True)
  | some ⟨.str, _, _, _⟩, some ⟨.str, _, _, _⟩, .s (.d (.str s)) => some (valRes (dv (.str s)) True)
  | some ⟨.str, _, _, _⟩, some ⟨.slice e, _, _, _⟩, .s (.d (.str s)) => (match lookN e T with
    | some ⟨.int .u8, 1, 1, _⟩ => some ⟨.one (.s (.row fresh 1 0 s.length none)), [], true, [(fresh, .o (.row (brow s) e))], s.length ≤ 140737488355328⟩
    | _ => none)
  | some ⟨.slice e, _, _, _⟩, some ⟨.str, _, _, _⟩, x => evToStr T H e x
  | some ⟨.ptr e, _, _, _⟩, some ⟨.uptr, _, _, _⟩, x => evUns T H e x
  | some ⟨.uptr, _, _, _⟩, some ⟨.ptr e, _, _, _⟩, x => evUnsBack T H e x
  | _, _, _ => none

theorem grownCap_bounds {w : World} {need old : Nat} {e : TypeId} (h : need < 9223372036854775808) : need ≤ grownCap w need old e ∧ grownCap w need old e ≤ 9223372036854775807 := by
  unfold grownCap Question.cut
  have h2 := Nat.mod_lt (w.tape w.drawn (.appendCap need old e)) (show 2 ^ 63 - need > 0 by omega)
  constructor
  · simp
  · simp only
    omega

theorem RelC.drew (h : RelC c φ m f a W) : RelC c φ m f a W.drew := h.drawn _

theorem brow_rel (m : Mem) (s : List UInt8) (rest : Array Value) : relRow m (brow s) ((s.map fun b => Value.int .u8 (b.toNat : Int)).toArray ++ rest) := by
  intro j d hj
  rw [brow_flat, List.getElem?_map] at hj
  cases hs : s[j]? with
  | none => simp [hs] at hj
  | some b =>
    simp [hs] at hj
    subst hj
    refine ⟨.int .u8 (b.toNat : Int), ?_, by simp [D.rel]⟩
    have hl := (List.getElem?_eq_some_iff.1 hs).1
    rw [Array.getElem?_append_left (by simpa using hl)]
    simp [hs]

theorem evToStr_ok {T : Tab} (hT : TabOk P T) {fresh : Nat} {H : Heap} {src dst e : TypeId} (hsu : P.underlying src = some (.slice e)) (hdu : P.underlying dst = some .string) {x : AV} {r : Res}
    (h : evToStr T H e x = some r) (hob : r.ob) (hrd : r.Reads fresh f) (hc : RelC c φ m f a W) {X : Value} (hx : x.rel φ m X) : Gives P (convert src dst X) c φ m f a W r := by
  unfold evToStr at h
  split at h
  · rename_i _ _ _ he hel
    cases hv : viewOf H x with
    | none => simp [hv] at h
    | some q =>
      obtain ⟨es, ob, rd⟩ := q
      simp [hv] at h
      subst h
      obtain ⟨o1, o2⟩ := hob
      have heu := (hT.at he).desc (d := .int .u8) (fun d' hd => kindOf_int hd)
      have hsh := viewOf_ok hv o1 hel (fun p hp => hrd.1 p hp) hc hx
      have hlen : es.length = (unb es).length := by simp [unb]
      rcases hsh.form with ⟨rfl, rfl⟩ | ⟨ad, k, rfl, hcell⟩
      · refine ⟨φ, m, W, .string .empty, hc, NamesLe.refl φ, MemLe.refl m, run_convert_bytes_nil W src e hsu heu 0 0 dst hdu, ?_⟩
        simp [AVal.rel, AV.rel, Sc.rel, D.rel, unb]
        rfl
      · refine ⟨φ, m, W, .string ⟨(unb es).toArray⟩, hc, NamesLe.refl φ, MemLe.refl m, ?_, ?_⟩
        · rw [hlen]
          refine run_convert_bytes_back W src dst e ad k (unb es) hsu heu hdu fun j hj => ?_
          have hne : es ≠ [] := by
            intro h0
            have : es.length = 0 := by rw [h0]; rfl
            omega
          obtain ⟨hsp, hcell⟩ := hcell hne
          obtain ⟨ab, ao, asp⟩ := ad
          simp only at hsp
          subst hsp
          rw [addr_add]
          have hfl : es.flatten = (unb es).map fun b => D.int .u8 (b.toNat : Int) := by
            conv => lhs; rw [o2]
            exact brow_flat _
          obtain ⟨v, q1, q2⟩ := hcell j (.int .u8 ((unb es)[j].toNat : Int)) (by rw [hfl, List.getElem?_map, List.getElem?_eq_getElem hj]; rfl)
          simp only [D.rel] at q2
          rw [q1, q2]
        · simp [AVal.rel, AV.rel, Sc.rel, D.rel]
  · cases h

theorem evUns_ok {T : Tab} (hT : TabOk P T) {fresh : Nat} {H : Heap} {src dst e : TypeId} (hsu : P.underlying src = some (.pointer e)) (hdu : P.underlying dst = some .unsafePointer) {x : AV} {r : Res}
    (h : evUns T H e x = some r) (hob : r.ob) (hrd : r.Reads fresh f) (hc : RelC c φ m f a W) {X : Value} (hx : x.rel φ m X) : Gives P (convert src dst X) c φ m f a W r := by
  unfold evUns at h
  split at h
  · rename_i i off
    split at h
    · rename_i vs ty te hH hte
      split at h
      · cases h
      · rename_i hsz
        injection h with h
        subst h
        obtain ⟨b, C, e', hb, rfl⟩ := hx
        obtain ⟨b', C', e'', cs, fr, h1, h2, h3, h4⟩ := hc.obj i _ (hrd.1 _ (List.mem_cons_self ..))
        rw [hb] at h1
        injection h1 with h1
        injection h1 with q _ _
        subst q
        obtain ⟨j, j1, j2, _⟩ := (hT.at hte).info'
        have hcs : cs.size = vs.length := by have := h4.1; simpa using this
        refine ⟨φ, m, W, _, hc, NamesLe.refl φ, MemLe.refl m, Lib.run_to_unsafe (P := P) W ⟨b, off, none⟩ hsu hdu j1 (by rw [j2]; exact hsz) (e := ty) (cells := cs.size) (by simp [World.shape?, h2]) (by rw [hcs]; exact hob), ⟨b, C, e', hb, rfl⟩⟩
    · cases h
  · cases h

theorem evUnsBack_ok {T : Tab} (hT : TabOk P T) {fresh : Nat} {H : Heap} {src dst e : TypeId} (hsu : P.underlying src = some .unsafePointer) (hdu : P.underlying dst = some (.pointer e)) {x : AV} {r : Res}
    (h : evUnsBack T H e x = some r) (hob : r.ob) (hrd : r.Reads fresh f) (hc : RelC c φ m f a W) {X : Value} (hx : x.rel φ m X) : Gives P (convert src dst X) c φ m f a W r := by
  unfold evUnsBack at h
  split at h
  · rename_i i off
    split at h
    · rename_i vs ty fs sz by_ zz hH hte
      split at h
      · rename_i hcond
        injection h with h
        subst h
        obtain ⟨rfl, rfl⟩ := hcond
        obtain ⟨b, C, e', hb, rfl⟩ := hx
        obtain ⟨b', C', e'', cs, fr, h1, h2, h3, h4⟩ := hc.obj i _ (hrd.1 _ (List.mem_cons_self ..))
        rw [hb] at h1
        injection h1 with h1
        injection h1 with q _ _
        subst q
        obtain ⟨j, j1, j2, _⟩ := (hT.at hte).info'
        have hcs : cs.size = vs.length := by have := h4.1; simpa using this
        have hext := (hT.at hte).ext
        simp only [extraOk, Bool.and_eq_true] at hext
        have hob' : vs.length = sz := hob
        refine ⟨φ, m, W, _, hc, NamesLe.refl φ, MemLe.refl m, Lib.run_from_unsafe (P := P) W ⟨b, 0, none⟩ hsu hdu j1 (e := ty) (cells := cs.size) (by simp [World.shape?, h2]) (by rw [hcs, hob']; exact hext.2.2), ⟨b, C, e', hb, rfl⟩⟩
      · cases h
    · cases h
  · cases h

theorem kindOf_uptr {d : TypeDesc} (h : kindOf d = .uptr) : d = .unsafePointer := by cases d <;> simp_all [kindOf]

theorem evConvert_ok {T : Tab} (hT : TabOk P T) {fresh : Nat} {H : Heap} {src dst : TypeId} {x : AV} {r : Res} (h : evConvert T fresh H src dst x = some r) (hob : r.ob) (hrd : r.Reads fresh f)
    (hc : RelC c φ m f a W) {X : Value} (hx : x.rel φ m X) : Gives P (convert src dst X) c φ m f a W r := by
  unfold evConvert at h
  split at h
  · rename_i ti k _ _ _ _ n hs hd
    injection h with h
    subst h
    simp only [AV.rel, Sc.rel, D.rel] at hx
    subst hx
    obtain ⟨d, hsu, _⟩ := (hT.at hs).und'
    have hdu := (hT.at hd).desc (d := .int k) (fun d' hd => kindOf_int hd)
    refine gives_val hc (V := .int k (k.wrap n)) ?_ (by simp [AV.rel, Sc.rel, D.rel, cvt_wrap])
    simp only [convert, Sem.run_bind, run_underlying hsu, run_underlying hdu, Result.andThen]
    rfl
  · rename_i ti k _ _ _ s b hs hd
    injection h with h
    subst h
    simp only [AV.rel, Sc.rel, D.rel] at hx
    subst hx
    obtain ⟨d, hsu, _⟩ := (hT.at hs).und'
    have hdu := (hT.at hd).desc (d := .int k) (fun d' hd => kindOf_int hd)
    obtain ⟨o1, o2, o3⟩ := hob
    refine gives_val hc (V := .int k (fintV s b)) ?_ (by simp [AV.rel, Sc.rel, D.rel])
    simp only [convert, Sem.run_bind, run_underlying hsu, run_underlying hdu, Result.andThen, Conv.floatToInt]
    cases hn : (s.decode b).toInt .zero with
    | none => simp [hn] at o1
    | some n =>
      have : fintV s b = n := by simp [fintV, hn]
      rw [this] at o2 o3 ⊢
      simp [o2, o3]
  · rename_i ti k _ _ _ _ n hs hd
    injection h with h
    subst h
    simp only [AV.rel, Sc.rel, D.rel] at hx
    subst hx
    obtain ⟨d, hsu, _⟩ := (hT.at hs).und'
    have hdu := (hT.at hd).desc (d := .float k) (fun d' hd => kindOf_float hd)
    refine gives_val hc (V := .float k (k.nearest n)) ?_ (by simp [AV.rel, Sc.rel, D.rel])
    simp only [convert, Sem.run_bind, run_underlying hsu, run_underlying hdu, Result.andThen]
    rfl
  · rename_i s hs hd
    injection h with h
    subst h
    simp only [AV.rel, Sc.rel, D.rel] at hx
    subst hx
    have hsu := (hT.at hs).desc (d := .string) (fun d' hd => kindOf_str hd)
    have hdu := (hT.at hd).desc (d := .string) (fun d' hd => kindOf_str hd)
    refine gives_val hc (V := .string ⟨s.toArray⟩) ?_ (by simp [AV.rel, Sc.rel, D.rel])
    simp only [convert, Sem.run_bind, run_underlying hsu, run_underlying hdu, Result.andThen]
    rfl
  · rename_i e _ _ _ s hs hd
    split at h
    · rename_i z he
      injection h with h
      subst h
      simp only [AV.rel, Sc.rel, D.rel] at hx
      subst hx
      have hsu := (hT.at hs).desc (d := .string) (fun d' hd => kindOf_str hd)
      have hdu := (hT.at hd).desc (d := .slice e) (fun d' hd => kindOf_slice hd)
      have heu := (hT.at he).desc (d := .int .u8) (fun d' hd => kindOf_int hd)
      have hsz : (ByteArray.mk s.toArray).size = s.length := by simp [ByteArray.size]
      have hlen : s.length ≤ 140737488355328 := hob
      have hrun := run_bytes_of_string (P := P) W src dst e ⟨s.toArray⟩ hsu hdu heu
      rw [hsz] at hrun
      obtain ⟨g1, g2⟩ := grownCap_bounds (w := W) (need := s.length) (old := 0) (e := e) (by omega)
      generalize grownCap W s.length 0 e = cap at *
      have hrow : bytesRow ⟨s.toArray⟩ cap = (s.map fun b => Value.int .u8 (b.toNat : Int)).toArray ++ Array.replicate (cap - s.length) (.int .u8 0) := by
        unfold bytesRow
        rw [hsz]
        congr 1
        apply Array.ext'
        simp
      have hsize : (bytesRow ⟨s.toArray⟩ cap).size = cap := by rw [hrow]; simp; omega
      have hfree := hrd.2 rfl
      have hn := hc.free _ hfree
      have hp : NamesLe φ (updN φ fresh (.blk W.heap.size cap 1)) := updN_le _ hn
      refine ⟨updN φ fresh (.blk W.heap.size cap 1), m, _, .slice (some ⟨W.heap.size, 0, none⟩) s.length cap, ?_, hp, MemLe.refl m, hrun, ?_⟩
      · rw [wrApp_cons, wrApp_nil]
        refine hc.drew.alloc hfree (.inr ⟨W.heap.size, cap, 1, _, _, updN_self _ _ _, heap_new _ _, ?_, by rw [hsize]; simp, by simpa using g1, g2, brow_row s, ?_⟩)
        · intro o ho hx
          rw [hsize] at ho hx
          omega
        · rw [hrow]; exact brow_rel m s _
      · refine .inr ⟨W.heap.size, cap, ⟨W.heap.size, 0, none⟩, cap, updN_self _ _ _, rfl, by simp, by omega, g1, fun _ => by simp, rfl⟩
    · cases h
  · rename_i e _ _ _ _ _ _ hs hd
    exact evToStr_ok hT ((hT.at hs).desc (d := .slice e) (fun d' hd => kindOf_slice hd)) ((hT.at hd).desc (d := .string) (fun d' hd => kindOf_str hd)) h hob hrd hc hx
  · rename_i e _ _ _ _ _ _ hs hd
    exact evUns_ok hT ((hT.at hs).desc (d := .pointer e) (fun d' hd => kindOf_ptr hd)) ((hT.at hd).desc (d := .unsafePointer) (fun d' hd => kindOf_uptr hd)) h hob hrd hc hx
  · rename_i _ _ _ e _ _ _ hs hd
    exact evUnsBack_ok hT ((hT.at hs).desc (d := .unsafePointer) (fun d' hd => kindOf_uptr hd)) ((hT.at hd).desc (d := .pointer e) (fun d' hd => kindOf_ptr hd)) h hob hrd hc hx
  · cases h

end
end Go.Proofs.Hg
