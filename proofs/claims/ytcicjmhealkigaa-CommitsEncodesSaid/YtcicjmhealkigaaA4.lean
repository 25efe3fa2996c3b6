/- The operations, one by one: what the abstract machine makes of them, and that the model does so. -/
import Derived.Test.YtcicjmhealkigaaA3
set_option linter.unusedVariables false
set_option linter.unusedSimpArgs false
namespace Go.Proofs.Hg
open Go.RowKit

structure Res where
  val : AVal
  rd : List (Nat × AObj)
  fr : Bool
  wr : List (Nat × Ent)
  ob : Prop

abbrev Heap := Nat → Option AObj

def wrPost (l : List (Nat × Ent)) : List (Key × Ent) := l.map fun p => (Key.h p.1, p.2)
def wrApp (l : List (Nat × Ent)) (f : StF) : StF := LT.app ⟨[], wrPost l⟩ f
theorem wrApp_nil (f : StF) : wrApp [] f = f := rfl
theorem wrApp_cons (i : Nat) (e : Ent) (l : List (Nat × Ent)) (f : StF) : wrApp ((i, e) :: l) f = upd (wrApp l f) (.h i) e := app_cons _ _ _ _ _

/-- What a step says of the heap is there. -/
def Res.Reads (r : Res) (fr : Nat) (f : StF) : Prop := (∀ p ∈ r.rd, f (.h p.1) = .o p.2) ∧ (r.fr = true → f (.h fr) = .free)

/-- An instruction that gives a value. -/
def Gives (P : Program) (s : Sem Value) (c : Ctx) (φ : Names) (m : Mem) (f : StF) (a : Act) (W : World) (r : Res) : Prop :=
  ∃ φ' m' W' V, RelC c φ' m' (wrApp r.wr f) a W' ∧ NamesLe φ φ' ∧ MemLe m m' ∧ s.run P W = .ok V W' ∧ r.val.rel φ' m' V

section
variable {P : Program} {c : Ctx} {φ : Names} {m : Mem} {f : StF} {a : Act} {W : World}

theorem gives_pure (h : RelC c φ m f a W) {s : Sem Value} {V : Value} (hs : s.run P W = .ok V W) {val : AVal} (hv : val.rel φ m V) {rd : List (Nat × AObj)} {b : Bool} {ob : Prop} :
    Gives P s c φ m f a W ⟨val, rd, b, [], ob⟩ := ⟨φ, m, W, V, h, NamesLe.refl φ, MemLe.refl m, hs, hv⟩

def pureRes (v : AV) (ob : Prop) : Res := ⟨.one v, [], false, [], ob⟩
abbrev dv (d : D) : AV := .s (.d d)

/-! ### binary and unary operators -/
def evNil : BinOp → Bool → Option D
  | .eql, b => some (.bool b)
  | .neq, b => some (.bool (!b))
  | _, _ => none

/-- Is a pointer nil? -/
def nilP : Sc → Option Bool
  | .d .nilp => some true
  | .d (.ptr _) => some false
  | .ptr _ _ => some false
  | .eptr _ _ _ => some false
  | _ => none

/-- Is a slice nil? -/
def nilS : Sc → Option (Bool × Prop)
  | .d (.slice (some z) _ es) => some (z, True)
  | .d (.slice none _ es) => some (false, es ≠ [])
  | .row _ _ _ len _ => some (false, 0 < len)
  | _ => none

def litP : D → Bool
  | .nilp => true
  | _ => false
def litS : D → Bool
  | .slice (some true) _ _ => true
  | _ => false

def eqD : D → D → Option Bool
  | .bool a, .bool b => some (decide (a = b))
  | .int k a, .int k' b => if k = k' then some (decide (a = b)) else none
  | .str a, .str b => some (decide (a = b))
  | .complex k a b, .complex k' c d => if k = k' then some ((k.format.order a c == some .eq) && (k.format.order b d == some .eq)) else none
  | .float k a, .float k' b => if k = k' then some (k.format.order a b == some .eq) else none
  | _, _ => none

def evBinD (op : BinOp) (x : Sc) (y : D) : Option Res :=
  match x with
  | .d x => (evBin op x y).map fun p => pureRes (dv p.1) p.2
  | _ => none

/-- Plain values of a kind, compared. -/
def eqK : TK → D → D → Option Bool
  | .bool, .bool a, .bool b => some (decide (a = b))
  | .int _, .int k a, .int k' b => if k = k' then some (decide (a = b)) else none
  | .str, .str a, .str b => some (decide (a = b))
  | .float _, .float k a, .float k' b => if k = k' then some (k.format.order a b == some .eq) else none
  | .complex _, .complex k a b, .complex k' c d => if k = k' then some ((k.format.order a c == some .eq) && (k.format.order b d == some .eq)) else none
  | _, _, _ => none

def scD : Option Sc → Option D
  | some (.d x) => some x
  | _ => none

def eqFs (T : Tab) (xs ys : List Sc) : List (Nat × TypeId) → Option Bool
  | [] => some true
  | (o, e) :: r => match lookN e T, scD xs[o]?, scD ys[o]? with
    | some ti, some x, some y => (eqK ti.kind x y).bind fun b => (eqFs T xs ys r).map fun c => b && c
    | _, _, _ => none

def evBinOp (T : Tab) (op : BinOp) (t : TypeId) (x y : AV) : Option Res :=
  match x, y with
  | .s (.ptr i o), .s (.ptr j o') => match lookN t T with
    | some ⟨.ptr e, _, _, _⟩ => if (lookN e T).any (fun te => te.size != 0) && i == j && o == o' then (evNil op true).map fun d => pureRes (dv d) True else none
    | _ => none
  | .agg xs, .agg ys => match lookN t T with
    | some ⟨.struct fs, _, _, _⟩ => (eqFs T xs ys fs).bind fun b => (evNil op b).map fun d => pureRes (dv d) True
    | _ => none
  | .s x, .s (.d y) => match lookN t T with
    | some ⟨.bool, _, _, _⟩ => (match x, y with
      | .d (.bool a), .bool b => (match op with
        | .eql => some (pureRes (dv (.bool (decide (a = b)))) True)
        | .neq => some (pureRes (dv (.bool (!decide (a = b)))) True)
        | _ => none)
      | _, _ => none)
    | some ⟨.ptr _, _, _, _⟩ => if litP y then (nilP x).bind fun b => (evNil op b).map fun d => pureRes (dv d) True else none
    | some ⟨.slice _, _, _, _⟩ => if litS y then (nilS x).bind fun b => (evNil op b.1).map fun d => pureRes (dv d) b.2 else none
    | _ => evBinD op x y
  | _, _ => none

theorem kindOf_bool {d : TypeDesc} (h : kindOf d = .bool) : d = .bool := by cases d <;> simp_all [kindOf]
theorem kindOf_ptr {d : TypeDesc} {e : TypeId} (h : kindOf d = .ptr e) : d = .pointer e := by cases d <;> simp_all [kindOf]
theorem kindOf_slice {d : TypeDesc} {e : TypeId} (h : kindOf d = .slice e) : d = .slice e := by cases d <;> simp_all [kindOf]
theorem kindOf_str {d : TypeDesc} (h : kindOf d = .str) : d = .string := by cases d <;> simp_all [kindOf]
theorem kindOf_int {d : TypeDesc} {k : IntKind} (h : kindOf d = .int k) : d = .int k := by cases d <;> simp_all [kindOf]
theorem kindOf_float {d : TypeDesc} {k : FloatKind} (h : kindOf d = .float k) : d = .float k := by cases d <;> simp_all [kindOf]
theorem kindOf_array {d : TypeDesc} {n : Nat} {e : TypeId} (h : kindOf d = .array n e) : d = .array n e := by cases d <;> simp_all [kindOf]
theorem kindOf_struct {d : TypeDesc} {fs : List (Nat × TypeId)} (h : kindOf d = .struct fs) : ∃ gs, d = .struct gs ∧ fs = gs.toList.map fun f => (f.offset, f.type) := by
  cases d <;> simp_all [kindOf]

theorem TIOk.desc {t : TypeId} {i : TI} (h : TIOk P t i) {d : TypeDesc} (hk : ∀ d', kindOf d' = i.kind → d' = d) : P.underlying t = some d := by
  obtain ⟨d', h1, h2⟩ := h.und'
  rw [h1, hk d' h2]

theorem nilP_ok {x : Sc} {b : Bool} (h : nilP x = some b) {V : Value} (hv : x.rel φ m V) : ∃ p, V = .pointer p ∧ p.isNone = b := by
  unfold nilP at h
  split at h <;> simp only [Option.some.injEq, reduceCtorEq] at h <;> subst h
  · simp only [Sc.rel, D.rel] at hv; exact ⟨none, hv, rfl⟩
  · simp only [Sc.rel, D.rel] at hv; obtain ⟨b, o, rfl, _⟩ := hv; exact ⟨_, rfl, rfl⟩
  · obtain ⟨b, C, e, _, rfl⟩ := hv; exact ⟨_, rfl, rfl⟩
  · obtain ⟨b, C, e, _, rfl⟩ := hv; exact ⟨_, rfl, rfl⟩

theorem nilS_ok {x : Sc} {b : Bool × Prop} (h : nilS x = some b) (hob : b.2) {V : Value} (hv : x.rel φ m V) : ∃ p n k, V = .slice p n k ∧ p.isNone = b.1 := by
  unfold nilS at h
  split at h <;> simp only [Option.some.injEq, reduceCtorEq] at h <;> subst h
  · simp only [Sc.rel, D.rel] at hv
    rename_i z _ _
    rcases hv with ⟨_, h1, rfl⟩ | ⟨h1, ad, k, rfl, _⟩
    · refine ⟨_, _, _, rfl, ?_⟩
      cases z <;> simp_all
    · refine ⟨_, _, _, rfl, ?_⟩
      cases z <;> simp_all
  · simp only [Sc.rel, D.rel] at hv
    rcases hv with ⟨h0, h1, rfl⟩ | ⟨h1, ad, k, rfl, _⟩
    · exact absurd h0 hob
    · exact ⟨_, _, _, rfl, rfl⟩
  · rcases hv with ⟨_, _, h0, _⟩ | ⟨b, C, ad, k, _, rfl, _⟩
    · simp at hob; omega
    · exact ⟨_, _, _, rfl, rfl⟩

theorem litP_ok {d : D} (h : litP d = true) {V : Value} (hv : d.rel m V) : V = .pointer none := by
  cases d <;> simp_all [litP, D.rel]

theorem litS_ok {d : D} (h : litS d = true) {V : Value} (hv : d.rel m V) : V = .slice none 0 0 := by
  unfold litS at h
  split at h
  · simp only [D.rel] at hv
    rcases hv with ⟨_, _, rfl⟩ | ⟨h1, _⟩
    · rfl
    · exact absurd rfl h1
  · cases h

theorem run_equal_bool {t : TypeId} (hu : P.underlying t = some .bool) (a b : Bool) (w : World) : (Op.equal t (.bool a) (.bool b)).run P w = .ok (a == b) w := by
  show (Op.equalIn (9999 + 1) t _ _).run P w = _
  rw [Op.equalIn]
  simp [run_underlying hu]
theorem run_equal_ptr {t e : TypeId} (hu : P.underlying t = some (.pointer e)) (p : Option Addr) (w : World) : (Op.equal t (.pointer p) (.pointer none)).run P w = .ok p.isNone w := by
  show (Op.equalIn (9999 + 1) t _ _).run P w = _
  rw [Op.equalIn]
  cases p <;> simp [run_underlying hu]
theorem binOp_eql_other {t : TypeId} {x y : Value} (h : (match x, y with | .bool _, .bool _ => True | .pointer _, .pointer none => True | .slice _ _ _, .slice none 0 0 => True | _, _ => False)) : binOp .eql t x y = (do pure (.bool (← Op.equal t x y))) := by
  cases x <;> cases y <;> first | rfl | exact h.elim
theorem binOp_neq_other {t : TypeId} {x y : Value} (h : (match x, y with | .bool _, .bool _ => True | .pointer _, .pointer none => True | .slice _ _ _, .slice none 0 0 => True | _, _ => False)) : binOp .neq t x y = (do pure (.bool (!(← Op.equal t x y)))) := by
  cases x <;> cases y <;> first | rfl | exact h.elim

theorem evBinD_ok {op : BinOp} {x : Sc} {y : D} {r : Res} (h : evBinD op x y = some r) (hob : r.ob) (hc : RelC c φ m f a W) {X Y : Value} (hx : x.rel φ m X) (hy : y.rel m Y) (t : TypeId) :
    Gives P (binOp op t X Y) c φ m f a W r := by
  unfold evBinD at h
  split at h
  · rename_i x
    cases he : evBin op x y with
    | none => simp [he] at h
    | some p =>
      simp [he] at h
      subst h
      obtain ⟨R, h1, h2⟩ := evBin_ok (P := P) (r := p.1) (ob := p.2) he hob m hx hy t W
      exact gives_pure hc h1 (val := .one (dv p.1)) h2
  · cases h

theorem evNil_bool {op : BinOp} {b : Bool} {d : D} (h : evNil op b = some d) : (op = .eql ∧ d = .bool b) ∨ (op = .neq ∧ d = .bool (!b)) := by
  cases op <;> simp [evNil] at h
  · exact .inl ⟨rfl, h.symm⟩
  · exact .inr ⟨rfl, h.symm⟩

theorem part_one {e : TypeId} {i : TI} (hT : TIOk P e i) (hag : i.kind.agg = false) {xs : Array Value} {o : Nat} {v : Value} (h : xs[o]? = some v) (W : World) : (part e xs o).run P W = .ok v W := by
  simp only [part, Sem.run_bind, run_isAgg' hT, Result.andThen, hag]
  simp [h]

theorem eqK_agg {k : TK} {x y : D} {b : Bool} (h : eqK k x y = some b) : k.agg = false := by
  unfold eqK at h
  split at h <;> first | rfl | cases h

theorem eqK_ok {e : TypeId} {i : TI} (hT : TIOk P e i) {x y : D} {b : Bool} (h : eqK i.kind x y = some b) {X Y : Value} (hx : x.rel m X) (hy : y.rel m Y) (d : Nat) (W : World) : (Op.equalIn (d + 1) e X Y).run P W = .ok b W := by
  unfold eqK at h
  split at h
  · rename_i a c hk
    have hu := hT.desc (d := .bool) (fun d' hd => kindOf_bool (hd.trans hk))
    simp only [D.rel] at hx hy
    subst hx; subst hy
    injection h with h; subst h
    rw [Op.equalIn]; simp [run_underlying hu, beq_decide]
  · rename_i k0 k a k' c hk
    split at h
    · rename_i e; subst e
      have hu := hT.desc (d := .int k0) (fun d' hd => kindOf_int (hd.trans hk))
      simp only [D.rel] at hx hy
      subst hx; subst hy
      injection h with h; subst h
      rw [Op.equalIn]; simp [run_underlying hu, beq_decide]
    · cases h
  · rename_i a c hk
    have hu := hT.desc (d := .string) (fun d' hd => kindOf_str (hd.trans hk))
    simp only [D.rel] at hx hy
    subst hx; subst hy
    injection h with h; subst h
    rw [run_equalIn_string _ _ _ _ _ hu, ofList_toList, ofList_toList, beq_decide]
  · rename_i k0 k a k' c hk
    split at h
    · rename_i e; subst e
      have hu := hT.desc (d := .float k0) (fun d' hd => kindOf_float (hd.trans hk))
      simp only [D.rel] at hx hy
      subst hx; subst hy
      injection h with h; subst h
      rw [Op.equalIn]; simp [run_underlying hu, Op.floatEq]
    · cases h
  · rename_i k0 k a b' k' c d' hk
    split at h
    · rename_i e; subst e
      have hu := hT.desc (d := .complex k0) (fun d' hd => by have := hd.trans hk; cases d' <;> simp_all [kindOf])
      simp only [D.rel] at hx hy
      subst hx; subst hy
      injection h with h; subst h
      rw [Op.equalIn]; simp [run_underlying hu, Op.floatEq]
    · cases h
  · cases h

theorem scD_ok {xs : List Sc} {vs : List Value} (h : relAll φ m xs vs) {o : Nat} {x : D} (hx : scD xs[o]? = some x) : ∃ v, vs[o]? = some v ∧ x.rel m v := by
  unfold scD at hx
  split at hx
  · rename_i z hz
    injection hx with hx
    subst hx
    exact h.2 o _ hz
  · cases hx

theorem eqFs_ok {T : Tab} (hT : TabOk P T) {xs ys : List Sc} {vs us : Array Value} (hx : relAll φ m xs vs.toList) (hy : relAll φ m ys us.toList) (d : Nat) (W : World) : ∀ (fs : List Field) (b : Bool), fs.all (fun f => f.name != "_") = true → eqFs T xs ys (fs.map fun f => (f.offset, f.type)) = some b →
    (Op.eqFields (d + 1) vs us fs).run P W = .ok b W
  | [], b, _, h => by simp only [List.map_nil, eqFs, Option.some.injEq] at h; subst h; rfl
  | g :: gs, b, hn, h => by
    simp only [List.all_cons, Bool.and_eq_true] at hn
    simp only [List.map_cons, eqFs] at h
    split at h
    · rename_i ti x y h1 h2 h3
      simp only [Option.bind_eq_some_iff, Option.map_eq_some_iff] at h
      obtain ⟨b1, hb1, b2, hb2, rfl⟩ := h
      obtain ⟨v, v1, v2⟩ := scD_ok hx h2
      obtain ⟨u, u1, u2⟩ := scD_ok hy h3
      have hag := eqK_agg hb1
      have p1 := part_one (hT.at h1) hag (xs := vs) (o := g.offset) (by simpa using v1) W
      have p2 := part_one (hT.at h1) hag (xs := us) (o := g.offset) (by simpa using u1) W
      have p3 := eqK_ok (hT.at h1) hb1 v2 u2 d W
      have ih := eqFs_ok hT hx hy d W gs b2 hn.2 hb2
      have hne : g.name ≠ "_" := by simpa using hn.1
      simp only [Op.eqFields]
      rw [if_pos hne]
      simp only [Sem.run_bind, p1, p2, p3, Result.andThen]
      cases b1
      · simp
      · simp only [Bool.not_true, Bool.false_eq_true, if_false, Bool.true_and]
        exact ih
    · cases h

theorem run_ptr_same {t e : TypeId} {te : TI} (hu : P.underlying t = some (.pointer e)) (hte : TIOk P e te) (a : Addr) (w : World) : (Op.equal t (.pointer (some a)) (.pointer (some a))).run P w = .ok true w := by
  obtain ⟨x, h1, _⟩ := hte.info'
  have h : ∀ d : Nat, (Op.equalIn (d + 1) t (.pointer (some a)) (.pointer (some a))).run P w = .ok true w := fun d => by
    simp [Op.equalIn, run_underlying hu, sizeOf, typeInfo, h1, run_sameAddr_same]
  exact h 9999

theorem evBinOp_ok {T : Tab} (hT : TabOk P T) {op : BinOp} {t : TypeId} {x y : AV} {r : Res} (h : evBinOp T op t x y = some r) (hob : r.ob) (hc : RelC c φ m f a W) {X Y : Value}
    (hx : x.rel φ m X) (hy : y.rel φ m Y) : Gives P (binOp op t X Y) c φ m f a W r := by
  unfold evBinOp at h
  split at h
  · rename_i i o j o'
    split at h
    · rename_i e _ _ _ ht
      have hu := (hT.at ht).desc (d := .pointer e) (fun d' hd => kindOf_ptr hd)
      split at h
      · rename_i hc2
        simp only [Bool.and_eq_true, beq_iff_eq] at hc2
        obtain ⟨⟨h1, rfl⟩, rfl⟩ := hc2
        cases hte : lookN e T with
        | none => simp [hte] at h1
        | some te =>
          obtain ⟨b, C, e1, hb, rfl⟩ := hx
          obtain ⟨b', C', e1', hb', rfl⟩ := hy
          rw [hb] at hb'
          injection hb' with hb'
          injection hb' with q _ _
          subst q
          have hru := run_ptr_same hu (hT.at hte) ⟨b, o, none⟩ W
          cases hd : evNil op true with
          | none => simp [hd] at h
          | some d =>
            simp [hd] at h
            subst h
            rcases evNil_bool hd with ⟨rfl, rfl⟩ | ⟨rfl, rfl⟩
            · exact gives_pure hc (V := .bool true) (by simp only [binOp]; simp [hru]) (by simp [AVal.rel, AV.rel, Sc.rel, D.rel])
            · exact gives_pure hc (V := .bool false) (by simp only [binOp]; simp [hru]) (by simp [AVal.rel, AV.rel, Sc.rel, D.rel])
      · cases h
    · cases h
  · rename_i xs ys
    split at h
    · rename_i fs _ _ _ ht
      obtain ⟨vs, rfl, hvs⟩ := hx
      obtain ⟨us, rfl, hus⟩ := hy
      obtain ⟨d0, hu, hk⟩ := (hT.at ht).und'
      obtain ⟨gs, rfl, hgs⟩ := kindOf_struct hk
      simp only [Option.bind_eq_some_iff, Option.map_eq_some_iff] at h
      obtain ⟨b, hb, d, hd, rfl⟩ := h
      have hext := (hT.at ht).ext
      have hfo : P.fieldsOf t = gs := by simp [Program.fieldsOf, hu]
      simp only [extraOk, Bool.and_eq_true, Bool.not_eq_true', hfo] at hext
      have hfs : eqFs T xs ys (gs.toList.map fun f => (f.offset, f.type)) = some b := by rw [← hgs]; exact hb
      have hrun := eqFs_ok (vs := vs.toArray) (us := us.toArray) hT (by simpa using hvs) (by simpa using hus) 9998 W gs.toList b hext.2.1.1 hfs
      have hst := run_equalIn_struct (P := P) W 9999 t vs.toArray us.toArray (by rw [hfo]; exact hu) hext.1
      rw [hfo] at hst
      have hrun2 : (Op.equalIn 10000 t (.agg vs.toArray) (.agg us.toArray)).run P W = .ok b W := hst.trans hrun
      rcases evNil_bool hd with ⟨rfl, rfl⟩ | ⟨rfl, rfl⟩
      · exact gives_pure hc (V := .bool b) (by rw [run_eql_struct, hrun2]; rfl) (by simp [AVal.rel, AV.rel, Sc.rel, D.rel])
      · exact gives_pure hc (V := .bool !b) (by rw [run_neq_struct, hrun2]; rfl) (by simp [AVal.rel, AV.rel, Sc.rel, D.rel])
    · cases h
  · rename_i x y
    change x.rel φ m X at hx
    change y.rel m Y at hy
    split at h
    · rename_i ht
      have hu := (hT.at ht).desc (d := .bool) (fun d' hd => kindOf_bool hd)
      split at h
      · rename_i p q
        simp only [Sc.rel, D.rel] at hx hy
        subst hx; subst hy
        split at h <;> simp only [Option.some.injEq, reduceCtorEq] at h <;> subst h
        · refine gives_pure hc (V := .bool (p == q)) ?_ ?_
          · rw [binOp_eql_other trivial]; simp [run_equal_bool hu]
          · simp [AVal.rel, AV.rel, Sc.rel, D.rel, beq_decide]
        · refine gives_pure hc (V := .bool (!(p == q))) ?_ ?_
          · rw [binOp_neq_other trivial]; simp [run_equal_bool hu]
          · simp [AVal.rel, AV.rel, Sc.rel, D.rel, beq_decide]
      · cases h
    · rename_i e _ _ _ ht
      have hu := (hT.at ht).desc (d := .pointer e) (fun d' hd => kindOf_ptr hd)
      split at h
      · rename_i hl
        have := litP_ok hl hy
        subst this
        cases hn : nilP x with
        | none => simp [hn] at h
        | some b =>
          obtain ⟨p, rfl, hp⟩ := nilP_ok hn hx
          have hru : Sem.run P (Op.equal t (.pointer p) (.pointer none)) W = .ok b W := by
            rw [run_equal_ptr hu, hp]
          cases hd : evNil op b with
          | none => simp [hn, hd] at h
          | some d =>
            simp [hn, hd] at h
            subst h
            rcases evNil_bool hd with ⟨rfl, rfl⟩ | ⟨rfl, rfl⟩
            · exact gives_pure hc (V := .bool b) (by rw [binOp_eql_other trivial]; simp [hru]) (by simp [AVal.rel, AV.rel, Sc.rel, D.rel])
            · exact gives_pure hc (V := .bool !b) (by rw [binOp_neq_other trivial]; simp [hru]) (by simp [AVal.rel, AV.rel, Sc.rel, D.rel])
      · cases h
    · rename_i e _ _ _ ht
      have hu := (hT.at ht).desc (d := .slice e) (fun d' hd => kindOf_slice hd)
      split at h
      · rename_i hl
        have := litS_ok hl hy
        subst this
        cases hn : nilS x with
        | none => simp [hn] at h
        | some b =>
          cases hd : evNil op b.1 with
          | none => simp [hn, hd] at h
          | some d =>
            simp [hn, hd] at h
            subst h
            obtain ⟨p, n, k, rfl, hp⟩ := nilS_ok hn hob hx
            have hru : Sem.run P (Op.equal t (.slice p n k) (.slice none 0 0)) W = .ok b.1 W := by
              rw [run_equal_slice_nil W t e p n k hu, hp]
            rcases evNil_bool hd with ⟨rfl, rfl⟩ | ⟨rfl, rfl⟩
            · exact gives_pure hc (V := .bool b.1) (by rw [binOp_eql_other trivial]; simp [hru]) (by simp [AVal.rel, AV.rel, Sc.rel, D.rel])
            · exact gives_pure hc (V := .bool !b.1) (by rw [binOp_neq_other trivial]; simp [hru]) (by simp [AVal.rel, AV.rel, Sc.rel, D.rel])
      · cases h
    · exact evBinD_ok h hob hc hx hy t
  · cases h

def evUn (op : UnOp) (x : AV) : Option Res :=
  match op, x with
  | .not, .s (.d (.bool b)) => some (pureRes (dv (.bool (!b))) True)
  | .neg, .s (.d (.int k n)) => some (pureRes (dv (.int k (wrapK k (0 - n)))) (wrapOb k (0 - n)))
  | _, _ => none

theorem evUn_ok {op : UnOp} {x : AV} {r : Res} (h : evUn op x = some r) (hob : r.ob) (hc : RelC c φ m f a W) {X : Value} (hx : x.rel φ m X) : Gives P (Op.unary op X) c φ m f a W r := by
  unfold evUn at h
  split at h <;> simp only [Option.some.injEq, reduceCtorEq] at h <;> subst h <;> simp only [AV.rel, Sc.rel, D.rel] at hx <;> subst hx
  · exact gives_pure hc (V := .bool (!_)) (by simp [Op.unary]; rfl) (by simp [AVal.rel, AV.rel, Sc.rel, D.rel])
  · rename_i k n
    refine gives_pure hc (V := .int k (k.wrap (0 - n))) (by simp [Op.unary, Op.intArith]) ?_
    rw [wrapK_ok hob]
    simp [AVal.rel, AV.rel, Sc.rel, D.rel]

end
end Go.Proofs.Hg
