/- Small operations: tests of nil, function values, parts of tuples, builtins on numbers. -/
import Derived.Test.YtcicjmhealkigaaB2
import Derived.Laws.MakeOwn
import Derived.Lib.UnsafeStr
set_option linter.unusedVariables false
set_option linter.unusedSimpArgs false
namespace Go.Proofs.Hg
open Go.RowKit

section
variable {P : Program} {c : Ctx} {φ : Names} {m : Mem} {f : StF} {a : Act} {W : World}

def evNilCheck (x : AV) : Option Res :=
  match x with
  | .s (.ptr i off) => some (valRes x True)
  | .s (.eptr i k fo) => some (valRes x True)
  | .s (.d (.ptr cs)) => some (valRes x True)
  | .s (.func f caps) => some (valRes x True)
  | .s (.yield l) => some (valRes x True)
  | _ => none

/-- What nilCheck hands on. -/
def nilSem (v : Value) : Sem Next :=
  match v with
  | .pointer none | .nilIface | .nilFunc => runtimePanic .nilDeref
  | .func (.method name) first captured =>
    match (first[0]? : Option Value) with
    | some .nilIface => runtimePanic .nilDeref
    | some (.iface t w) => do
      if (← nilAhead ((← program).types.size + Made.depth) t w name) != some false then
        unsupported (.noEntry "op/nilCheck.the method's receiver behind this interface value is a nil pointer, or cannot be seen to be none, and the arguments act or may panic (ledger 612)")
      pure (.value (.func (.method name) first captured))
    | _ => pure (.value (.func (.method name) first captured))
  | x => pure (.value x)

theorem evNilCheck_ok {x : AV} {r : Res} (h : evNilCheck x = some r) {V : Value} (hx : x.rel φ m V) : r = valRes x True ∧ (nilSem V).run P W = .ok (.value V) W := by
  unfold evNilCheck at h
  split at h <;> simp only [Option.some.injEq, reduceCtorEq] at h <;> refine ⟨h.symm, ?_⟩
  · obtain ⟨b, C, e, _, rfl⟩ := hx; rfl
  · obtain ⟨b, C, e, _, rfl⟩ := hx; rfl
  · simp only [AV.rel, Sc.rel, D.rel] at hx; obtain ⟨b, o, rfl, _⟩ := hx; rfl
  · obtain ⟨vs, rfl, _⟩ := hx; rfl
  · obtain ⟨b, C, e, _, rfl⟩ := hx; rfl

def capsOf : List AV → Option (List (Nat × Nat))
  | [] => some []
  | .s (.ptr i off) :: r => (capsOf r).map ((i, off) :: ·)
  | _ :: _ => none

def evMakeFunc (f : FuncId) (caps : List AV) : Option Res := (capsOf caps).map fun l => valRes (.s (.func f l)) True

theorem capsOf_ok : ∀ (xs : List AV) (l : List (Nat × Nat)), capsOf xs = some l → l.length = xs.length ∧ ∀ (j i off : Nat), l[j]? = some (i, off) → xs[j]? = some (.s (.ptr i off))
  | [], l, h => by simp [capsOf] at h; subst h; exact ⟨rfl, fun j i off hj => by simp at hj⟩
  | .s (.ptr i off) :: r, l, h => by
    simp only [capsOf, Option.map_eq_some_iff] at h
    obtain ⟨l', h1, rfl⟩ := h
    obtain ⟨h2, h3⟩ := capsOf_ok r l' h1
    refine ⟨by simp [h2], fun j i' off' hj => ?_⟩
    cases j with
    | zero => simp at hj; obtain ⟨rfl, rfl⟩ := hj; rfl
    | succ j => simpa using h3 j i' off' (by simpa using hj)
  | .s (.d _) :: _, _, h => by simp [capsOf] at h
  | .s (.eptr _ _ _) :: _, _, h => by simp [capsOf] at h
  | .s (.row _ _ _ _ _) :: _, _, h => by simp [capsOf] at h
  | .s (.func _ _) :: _, _, h => by simp [capsOf] at h
  | .s (.yield _) :: _, _, h => by simp [capsOf] at h
  | .s (.map _) :: _, _, h => by simp [capsOf] at h
  | .s (.upt _ _ _ _) :: _, _, h => by simp [capsOf] at h
  | .s .junk :: _, _, h => by simp [capsOf] at h
  | .agg _ :: _, _, h => by simp [capsOf] at h

theorem evMakeFunc_ok {fn : FuncId} {xs : List AV} {r : Res} (h : evMakeFunc fn xs = some r) (hc : RelC c φ m f a W) {vs : List Value} (hl : vs.length = xs.length)
    (hv : ∀ (j : Nat) (x : AV), xs[j]? = some x → ∃ V : Value, vs[j]? = some V ∧ x.rel φ m V) : Gives P (Instr.makeFunc (.func fn) #[] vs.toArray) c φ m f a W r := by
  unfold evMakeFunc at h
  cases hcap : capsOf xs with
  | none => simp [hcap] at h
  | some l =>
    simp [hcap] at h
    subst h
    obtain ⟨h1, h2⟩ := capsOf_ok xs l hcap
    refine gives_val hc (V := .func (.func fn) #[] vs.toArray) rfl ?_
    refine ⟨vs, rfl, by omega, fun j i off hj => ?_⟩
    obtain ⟨V, h3, b, C, e, h4, rfl⟩ := hv j _ (h2 j i off hj)
    exact ⟨b, C, e, h4, h3⟩

def evExtract (x : AVal) (i : Nat) : Option Res :=
  match x with
  | .tup xs => (xs[i]?).map fun y => valRes y True
  | _ => none

theorem evExtract_ok {x : AVal} {i : Nat} {r : Res} (h : evExtract x i = some r) (hc : RelC c φ m f a W) {V : Value} (hx : x.rel φ m V) : Gives P (Instr.extract V i) c φ m f a W r := by
  unfold evExtract at h
  split at h
  · rename_i xs
    obtain ⟨vs, rfl, hl, hv⟩ := hx
    cases hxi : xs[i]? with
    | none => simp [hxi] at h
    | some y =>
      simp [hxi] at h
      subst h
      obtain ⟨v, h1, h2⟩ := hv i y hxi
      exact gives_val hc (V := v) (by simp [Instr.extract, h1]) h2
  · cases h

def evMin (x y : AV) : Option Res :=
  match x, y with
  | .s (.d (.int k a)), .s (.d (.int k' b)) => some (valRes (dv (.int k (if b < a then b else a))) True)
  | _, _ => none

theorem evMin_ok {x y : AV} {r : Res} (h : evMin x y = some r) (hc : RelC c φ m f a W) {X Y : Value} (hx : x.rel φ m X) (hy : y.rel φ m Y) (ts : Array TypeId) (ty : TypeId) : Gives P (Builtin.min_ ts ty #[X, Y]) c φ m f a W r := by
  unfold evMin at h
  split at h
  · rename_i k p k' q
    injection h with h
    subst h
    simp only [AV.rel, Sc.rel, D.rel] at hx hy
    subst hx; subst hy
    exact gives_val hc (V := .int k (if q < p then q else p)) (by simp [Builtin.min_, Builtin.min2]) (by simp [AV.rel, Sc.rel, D.rel])
  · cases h

def evReal (x : AV) : Option Res := match x with | .s (.d (.complex k a b)) => some (valRes (dv (.float k a)) True) | _ => none
def evImag (x : AV) : Option Res := match x with | .s (.d (.complex k a b)) => some (valRes (dv (.float k b)) True) | _ => none
def evComplex (x y : AV) : Option Res := match x, y with | .s (.d (.float k a)), .s (.d (.float k' b)) => if k = k' then some (valRes (dv (.complex k a b)) True) else none | _, _ => none

theorem evReal_ok {x : AV} {r : Res} (h : evReal x = some r) (hc : RelC c φ m f a W) {X : Value} (hx : x.rel φ m X) (ts : Array TypeId) (ty : TypeId) : Gives P (Builtin.real_ ts ty #[X]) c φ m f a W r := by
  unfold evReal at h
  split at h <;> simp only [Option.some.injEq, reduceCtorEq] at h
  subst h
  simp only [AV.rel, Sc.rel, D.rel] at hx
  subst hx
  exact gives_val hc (V := .float _ _) rfl (by simp [AV.rel, Sc.rel, D.rel])
theorem evImag_ok {x : AV} {r : Res} (h : evImag x = some r) (hc : RelC c φ m f a W) {X : Value} (hx : x.rel φ m X) (ts : Array TypeId) (ty : TypeId) : Gives P (Builtin.imag_ ts ty #[X]) c φ m f a W r := by
  unfold evImag at h
  split at h <;> simp only [Option.some.injEq, reduceCtorEq] at h
  subst h
  simp only [AV.rel, Sc.rel, D.rel] at hx
  subst hx
  exact gives_val hc (V := .float _ _) rfl (by simp [AV.rel, Sc.rel, D.rel])
theorem evComplex_ok {x y : AV} {r : Res} (h : evComplex x y = some r) (hc : RelC c φ m f a W) {X Y : Value} (hx : x.rel φ m X) (hy : y.rel φ m Y) (ts : Array TypeId) (ty : TypeId) : Gives P (Builtin.complex_ ts ty #[X, Y]) c φ m f a W r := by
  unfold evComplex at h
  split at h
  · split at h
    · rename_i e
      subst e
      injection h with h
      subst h
      simp only [AV.rel, Sc.rel, D.rel] at hx hy
      subst hx; subst hy
      exact gives_val hc (V := .complex _ _ _) (run_complex W ts ty _ _ _) (by simp [AV.rel, Sc.rel, D.rel])
    · cases h
  · cases h

/-! ### new rows of noughts -/
def evMakeSlice (T : Tab) (fresh : Nat) (t : TypeId) (x y : AV) : Option Res :=
  match lookN t T, x, y with
  | some ⟨.slice e, _, _, _⟩, .s (.d (.int kl n)), .s (.d (.int kc k)) => (match lookN e T with
    | some te => some ⟨.one (.s (.row fresh te.size 0 n.toNat none)), [], true, [(fresh, .o (.row (List.replicate n.toNat te.zero) e))], n = k ∧ 0 ≤ n ∧ (te.bytes : Int) * n ≤ 281474976710656 ∧ n ≤ 9223372036854775807⟩
    | none => none)
  | _, _, _ => none

theorem evMakeSlice_ok {T : Tab} (hT : TabOk P T) {fresh : Nat} {t : TypeId} {x y : AV} {r : Res} (h : evMakeSlice T fresh t x y = some r) (hob : r.ob) (hrd : r.Reads fresh f) (hc : RelC c φ m f a W) {X Y : Value}
    (hx : x.rel φ m X) (hy : y.rel φ m Y) : Gives P (Instr.makeSlice t X Y) c φ m f a W r := by
  unfold evMakeSlice at h
  split at h
  · rename_i e _ _ _ kl n kc k ht
    simp only [AV.rel, Sc.rel, D.rel] at hx hy
    subst hx; subst hy
    split at h
    · rename_i te hte
      injection h with h
      subst h
      obtain ⟨rfl, o1, o2, o3⟩ := hob
      have hu := (hT.at ht).desc (d := .slice e) (fun d' hd => kindOf_slice hd)
      obtain ⟨i, i1, i2, i3, i4⟩ := (hT.at hte).info'
      have hz := zeroVal_cells (hT.at hte)
      have hzl := (hT.at hte).len
      have hrun := run_make (P := P) W t e i te.zeroVal hu i1 i4 kl kc n n o1 (Int.le_refl _) (by rw [i3]; exact o2) o3
      have hfree := hrd.2 rfl
      have hn := hc.free _ hfree
      have hp : NamesLe φ (updN φ fresh (.blk W.heap.size n.toNat te.size)) := updN_le _ hn
      have hsz : (madeCells te.zeroVal.cells (n.toNat * i.size)).size = n.toNat * te.size := by rw [size_madeCells, i2]
      refine ⟨updN φ fresh (.blk W.heap.size n.toNat te.size), m, _, _, ?_, hp, MemLe.refl m, hrun, ?_⟩
      · rw [wrApp_cons, wrApp_nil]
        refine hc.alloc hfree (.inr ⟨W.heap.size, n.toNat, te.size, _, (0, 0), updN_self _ _ _, heap_new _ _, FrOk.zero _, hsz, by simp, by omega, fun r hr => by rw [List.eq_of_mem_replicate hr]; exact hzl, ?_⟩)
        intro j d hj
        have hrows : ∀ r ∈ List.replicate n.toNat te.zero, r.length = te.size := fun r hr => by rw [List.eq_of_mem_replicate hr]; exact hzl
        have hjl := (List.getElem?_eq_some_iff.1 hj).1
        rw [flatten_len hrows, List.length_replicate] at hjl
        rcases Nat.eq_zero_or_pos te.size with h0 | h0
        · rw [h0] at hjl; simp at hjl
        rw [flatten_get h0 hrows (by simpa using hjl)] at hj
        have hk : j / te.size < n.toNat := (Nat.div_lt_iff_lt_mul h0).2 hjl
        have hrep : (List.replicate n.toNat te.zero).getD (j / te.size) [] = te.zero := by
          rw [List.getD_eq_getElem?_getD, List.getElem?_replicate, if_pos hk]; rfl
        rw [hrep] at hj
        obtain ⟨v, v1, v2⟩ := (zero_rel (hT.at hte) φ m).2 (j % te.size) (.d d) (by rw [List.getElem?_map, hj]; rfl)
        refine ⟨v, ?_, v2⟩
        have hzs : te.zeroVal.cells.size = te.size := by rw [hz]; simpa using hzl
        simp only [madeCells]
        rw [Array.getElem?_map, Array.getElem?_range, if_pos (by rw [i2]; exact hjl)]
        simp only [Option.map_some, hzs, Option.some.injEq]
        rw [hz]
        have hml : j % te.size < (te.zero.map D.val).length := (List.getElem?_eq_some_iff.1 v1).1
        rw [getElem!_pos (te.zero.map D.val).toArray (j % te.size) (by simpa using hml)]
        have := (List.getElem?_eq_some_iff.1 v1).2
        simpa using this
      · exact .inr ⟨W.heap.size, n.toNat, ⟨W.heap.size, 0, none⟩, n.toNat, updN_self _ _ _, rfl, by simp, by omega, Nat.le_refl _, fun _ => by simp, rfl⟩
    · cases h
  · cases h

/-! ### a string over a row's bytes, which nobody writes any more -/
def evSliceData (T : Tab) (H : Heap) (t : TypeId) (x : AV) : Option Res :=
  match lookN t T, x with
  | some ⟨.slice _, _, _, _⟩, .s (.row i e off len cap) => (match H i with
    | some (.row es ty) => some ⟨.one (.s (.upt i e off len)), [(i, .row es ty)], false, [], True⟩
    | _ => none)
  | _, _ => none

def evUStr (T : Tab) (H : Heap) (pt : TypeId) (x y : AV) : Option Res :=
  match lookN pt T, x, y with
  | some ⟨.ptr e, _, _, _⟩, .s (.upt i ee off len), .s (.d (.int .i64 n)) => (match lookN e T, H i with
    | some ⟨.int .u8, 1, _, _⟩, some (.row es ty) => if ty = e then some ⟨.one (dv (.str (unb es))), [(i, .row es ty)], false, [(i, .none)], ee = 1 ∧ off = 0 ∧ len = es.length ∧ n = es.length ∧ es = brow (unb es)⟩ else none
    | _, _ => none)
  | _, _, _ => none

theorem evSliceData_ok {T : Tab} (hT : TabOk P T) {fresh : Nat} {H : Heap} {t ty : TypeId} {eb : TypeId} (htu : P.underlying ty = some (.pointer eb)) {x : AV} {r : Res} (h : evSliceData T H t x = some r) (hrd : r.Reads fresh f) (hc : RelC c φ m f a W) {X : Value} (hx : x.rel φ m X) :
    Gives P (Builtin.unsafeSliceData_ #[t] ty #[X]) c φ m f a W r := by
  unfold evSliceData at h
  split at h
  · rename_i el _ _ _ i e off len cap ht
    split at h
    · rename_i es ety hH
      injection h with h
      subst h
      have hi := hrd.1 _ (List.mem_cons_self ..)
      rcases hx with ⟨h1, rfl, rfl, _, rfl⟩ | ⟨b, C, ad, k, h1, rfl, h3, h4, h5, h6⟩
      · exact ⟨φ, m, W, _, hc, NamesLe.refl φ, MemLe.refl m, Lib.run_unsafeSliceData_nil (P := P) (w := W) _ _ 0 0, _, _, h1, rfl, fun h0 => absurd h0 (Nat.lt_irrefl _)⟩
      · by_cases hk : k = 0
        · subst hk
          obtain ⟨cs, fr, g2, _⟩ := row_cell hc hi h1
          have hl0 : len = 0 := by omega
          subst hl0
          have hsh : W.shape? ad.block = some (ety, cs.size) := by rw [h6.2]; simp [World.shape?, g2]
          have hbel := hc.step (f' := f) (W' := W.alloc (.view ad eb)) (fun _ => False) rfl rfl rfl (by simp) (NamesLe.refl φ) (MemLe.refl m) (fun b hb _ => Below.heap_alloc W _ b hb) (fun _ _ x => x.elim) (fun _ _ x => .inl x)
            (fun i o hi => .inl ⟨hi, fun b C e hb => ⟨id, (hc.own i o b C e hi hb).2.1⟩⟩) hc.inj hc.free (fun _ _ x => x)
          exact ⟨φ, m, _, _, hbel, NamesLe.refl φ, MemLe.refl m, Lib.run_unsafeSliceData_zero (P := P) W _ _ eb htu ad 0 _ hsh, _, _, h1, rfl, fun h0 => absurd h0 (Nat.lt_irrefl _)⟩
        · refine ⟨φ, m, W, _, hc, NamesLe.refl φ, MemLe.refl m, Lib.run_unsafeSliceData_row (P := P) (w := W) _ _ ad len k hk, _, _, h1, rfl, fun _ => ⟨b, C, rfl, by rw [h6.1 hk]⟩⟩
    · cases h
  · cases h

theorem freeze_same {w : World} {a : Addr} {n k : Nat} (h : k ≠ a.block) : (w.freeze a n).heap[k]? = w.heap[k]? := by
  unfold World.freeze
  split
  · rfl
  · simp only [Array.getElem?_modify]
    rw [if_neg (fun e => h e.symm)]

theorem freeze_keeps (w : World) (a : Addr) (n : Nat) : (w.freeze a n).os = w.os ∧ (w.freeze a n).output = w.output ∧ (w.freeze a n).tape = w.tape ∧ (w.freeze a n).heap.size = w.heap.size := by
  unfold World.freeze
  split
  · exact ⟨rfl, rfl, rfl, rfl⟩
  · exact ⟨rfl, rfl, rfl, by simp⟩

theorem RelC.freezeRow (hc : RelC c φ m f a W) {i : Nat} {o : AObj} (hi : f (.h i) = .o o) {b C e : Nat} (hb : φ i = some (.blk b C e)) (ad : Addr) (had : ad.block = b) (n : Nat) : RelC c φ m (upd f (.h i) .none) a (W.freeze ad n) := by
  obtain ⟨k1, k2, k3, k4⟩ := freeze_keeps W ad n
  have hown := hc.own i o b C e hi hb
  refine hc.step (fun k => k = b) k1 k2 k3 (by omega) (NamesLe.refl φ) (MemLe.refl m) (fun k _ hk => freeze_same (by rw [had]; exact hk)) (fun k _ hk => by subst hk; exact ⟨hown.1, hown.2.1⟩) (fun _ _ x => .inl x) ?_ ?_ ?_ ?_
  · intro j o1 hj
    by_cases ej : j = i
    · subst ej; rw [upd_self] at hj; cases hj
    · rw [upd_other (by simpa using ej)] at hj
      refine .inl ⟨hj, fun b1 C1 e1 h1 => ⟨?_, (hc.own j o1 b1 C1 e1 hj h1).2.1⟩⟩
      rintro rfl
      exact ej (hc.inj j i o1 o b1 C1 e1 C e hj hi h1 hb)
  · intro x y o1 o2 b1 C1 e1 C2 e2 hx hy bx by_
    by_cases ex : x = i
    · subst ex; rw [upd_self] at hx; cases hx
    · by_cases ey : y = i
      · subst ey; rw [upd_self] at hy; cases hy
      · rw [upd_other (by simpa using ex)] at hx
        rw [upd_other (by simpa using ey)] at hy
        exact hc.inj x y o1 o2 b1 C1 e1 C2 e2 hx hy bx by_
  · intro j hj
    by_cases ej : j = i
    · subst ej; rw [upd_self] at hj; cases hj
    · rw [upd_other (by simpa using ej)] at hj; exact hc.free j hj
  · intro t v ht
    rwa [upd_other (by simp)] at ht

theorem evUStr_ok {T : Tab} (hT : TabOk P T) {fresh : Nat} {H : Heap} {pt it ty : TypeId} {x y : AV} {r : Res} (h : evUStr T H pt x y = some r) (hob : r.ob) (hrd : r.Reads fresh f) (hc : RelC c φ m f a W) {X Y : Value} (hx : x.rel φ m X) (hy : y.rel φ m Y) :
    Gives P (Builtin.unsafeString_ #[pt, it] ty #[X, Y]) c φ m f a W r := by
  unfold evUStr at h
  split at h
  · rename_i e _ _ _ i ee off len n ht
    split at h
    · rename_i by_ zz es ety hte hH
      split at h
      · rename_i hty
        injection h with h
        subst h
        subst hty
        obtain ⟨rfl, rfl, rfl, rfl, o5⟩ := hob
        simp only [AV.rel, Sc.rel, D.rel] at hy
        subst hy
        obtain ⟨s, p, h1, rfl, h3⟩ := hx
        have hi := hrd.1 _ (List.mem_cons_self ..)
        simp only at hi
        by_cases h0 : es.length = 0
        · have hes : es = [] := List.eq_nil_of_length_eq_zero h0
          subst hes
          refine ⟨φ, m, W, .string .empty, ?_, NamesLe.refl φ, MemLe.refl m, Lib.run_unsafeString_none (P := P) W pt it ty p, ?_⟩
          · rw [wrApp_cons, wrApp_nil]; exact hc.kill _
          · simp [AVal.rel, AV.rel, Sc.rel, D.rel, unb]; rfl
        · obtain ⟨b, C, rfl, rfl⟩ := h3 (by omega)
          obtain ⟨cs, fr, g2, g3, g4, g5, g6, g7, g8, g9⟩ := row_cell hc hi h1
          have hu := (hT.at ht).desc (d := .pointer ety) (fun d' hd => kindOf_ptr hd)
          obtain ⟨j, j1, j2, _⟩ := (hT.at hte).info'
          have hcell : P.cellsOf ety = 1 := by simp [Program.cellsOf, j1, j2]
          have hlen : es.length = (unb es).length := by simp [unb]
          have hrun := Lib.run_unsafeString_row (P := P) W pt it ty ety hu hcell b cs.size (by simp [World.shape?, g2]) (unb es) (fun hz => h0 (by rw [hlen, hz]; rfl)) (by rw [← hlen, g4, Nat.mul_one]; exact g5) (by rw [← hlen]; exact Nat.le_trans g5 g6) (by
            intro j x hj
            have hjl := (List.getElem?_eq_some_iff.1 hj).1
            rw [addr_add]
            have hfl : es.flatten = (unb es).map fun b => D.int .u8 (b.toNat : Int) := by
              conv => lhs; rw [o5]
              exact brow_flat _
            obtain ⟨v, q1, q2⟩ := g8 j (.int .u8 (x.toNat : Int)) (by rw [hfl, List.getElem?_map, hj]; rfl)
            simp only [D.rel] at q2
            rw [cell_heap g2, Nat.zero_add, q1, q2])
          rw [← hlen] at hrun
          refine ⟨φ, m, _, .string ⟨(unb es).toArray⟩, ?_, NamesLe.refl φ, MemLe.refl m, by simpa using hrun, ?_⟩
          · rw [wrApp_cons, wrApp_nil]
            exact hc.freezeRow hi h1 _ (by simp) _
          · simp [AVal.rel, AV.rel, Sc.rel, D.rel]
      · cases h
    · cases h
  · cases h

/-! ### '&&' and '||' -/
def asB : AVal → Option (Bool × Prop)
  | .one (.s (.d (.bool b))) => some (b, True)
  | .opt g (.s (.d (.bool b))) => some (b, g = true)
  | _ => none

def evPick (gc : Bool) (x y z : AVal) : Option Res :=
  match asB x, asB y, asB z with
  | some (b, p), some (u, q), some (v, s) => some (valRes (dv (.bool (bif b then u else v))) ((gc = true → p) ∧ (b = true → gc = true → q) ∧ (b = false → gc = true → s)))
  | _, _, _ => none

theorem asB_ok {x : AVal} {b : Bool} {p : Prop} (h : asB x = some (b, p)) (hp : p) {V : Value} (hx : x.rel φ m V) : V = .bool b := by
  unfold asB at h
  split at h <;> simp only [Option.some.injEq, Prod.mk.injEq, reduceCtorEq] at h <;> obtain ⟨rfl, rfl⟩ := h
  · simpa [AVal.rel, AV.rel, Sc.rel, D.rel] using hx
  · have := hx.1 hp
    simpa [AV.rel, Sc.rel, D.rel] using this

theorem evPick_ok {gc : Bool} (hg : gc = true) {x y z : AVal} {r : Res} (h : evPick gc x y z = some r) (hob : r.ob) (hc : RelC c φ m f a W) {X Y Z : Value} (hx : x.rel φ m X) (hy : y.rel φ m Y) (hz : z.rel φ m Z) :
    Gives P (do pure (if ← asBool X then Y else Z)) c φ m f a W r := by
  unfold evPick at h
  split at h
  · rename_i b p u q v s h1 h2 h3
    injection h with h
    subst h
    obtain ⟨o1, o2, o3⟩ := hob
    have := asB_ok h1 (o1 hg) hx
    subst this
    cases b with
    | true =>
      have := asB_ok h2 (o2 rfl hg) hy
      subst this
      exact gives_val hc (V := .bool u) (by simp [asBool]) (by simp [AV.rel, Sc.rel, D.rel])
    | false =>
      have := asB_ok h3 (o3 rfl hg) hz
      subst this
      exact gives_val hc (V := .bool v) (by simp [asBool]) (by simp [AV.rel, Sc.rel, D.rel])
  · cases h

end
end Go.Proofs.Hg
