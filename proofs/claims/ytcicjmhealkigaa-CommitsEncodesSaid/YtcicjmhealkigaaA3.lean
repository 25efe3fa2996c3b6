/- Types as the abstract machine sees them, and operations on plain values. -/
import Derived.Test.YtcicjmhealkigaaA2
import Derived.WalkLawsBesides
import Derived.Laws.StructEq
import Derived.Lib.Builder
set_option linter.unusedVariables false
set_option linter.unusedSimpArgs false
namespace Go.Proofs.Hg
open Go.RowKit

inductive TK where
  | bool | int (k : IntKind) | float (k : FloatKind) | complex (k : FloatKind) | str
  | ptr (e : TypeId) | slice (e : TypeId) | array (n : Nat) (e : TypeId) | struct (fs : List (Nat × TypeId)) | map (k e : TypeId) | func | uptr | other

def kindOf : TypeDesc → TK
  | .bool => .bool
  | .int k => .int k
  | .float k => .float k
  | .complex k => .complex k
  | .string => .str
  | .pointer e => .ptr e
  | .slice e => .slice e
  | .array n e => .array n e
  | .struct fs => .struct (fs.toList.map fun f => (f.offset, f.type))
  | .map k e => .map k e
  | .func _ _ _ => .func
  | .unsafePointer => .uptr
  | _ => .other

def TK.agg : TK → Bool
  | .struct _ => true
  | .array _ _ => true
  | _ => false

structure TI where
  kind : TK
  size : Nat
  bytes : Nat
  zero : List D

def D.val : D → Value
  | .bool b => .bool b
  | .int k n => .int k n
  | .float k x => .float k x
  | .complex k x y => .complex k x y
  | .str s => .string ⟨s.toArray⟩
  | .nilp => .pointer none
  | .ptr _ => .pointer none
  | .slice _ _ _ => .slice none 0 0
  | .nilf => .nilFunc
  | .nilm => .map none
  | .nili => .nilIface
  | .func _ _ => .nilFunc

def D.zeroish : D → Bool
  | .ptr _ => false
  | .func _ _ => false
  | .slice z _ es => z != some false && es.isEmpty
  | _ => true

theorem D.rel_val {m : Mem} {d : D} (h : d.zeroish = true) : d.rel m d.val := by
  cases d <;> simp_all [D.zeroish, D.rel, D.val]

def TI.zeroVal (i : TI) : Value := if i.kind.agg then .agg (i.zero.map D.val).toArray else (i.zero.map D.val).headD (.pointer none)

/-- More of a type: no stand-in's; of a struct: its fields have names, its parts compare without harm, one of it lies where one lies. -/
def extraOk (P : Program) (t : TypeId) (i : TI) : Bool := !(P.stoodInHeld t) && (match i.kind with
  | .struct _ => (P.fieldsOf t).toList.all (fun f => f.name != "_") && !(P.eqGuardType P.depth t) && liesAt P P.depth t (i.size / P.cellsOf t) 0 t 1
  | _ => true)

structure TIOk (P : Program) (t : TypeId) (i : TI) : Prop where
  und : (P.underlying t).map kindOf = some i.kind
  info : (P.info? t).map (fun x => (x.size, x.bytes, x.zero)) = some (i.size, i.bytes, some i.zeroVal)
  zs : (i.zero.all D.zeroish && (i.zero.length == i.size) && (i.kind.agg || i.size == 1)) = true
  ext : extraOk P t i = true

def lookN {α : Type} (k : Nat) : List (Nat × α) → Option α
  | [] => none
  | (a, b) :: r => if a = k then some b else lookN k r

theorem lookN_mem {α : Type} {k : Nat} {l : List (Nat × α)} {v : α} (h : lookN k l = some v) : (k, v) ∈ l := by
  induction l with
  | nil => simp [lookN] at h
  | cons p r ih =>
    obtain ⟨a, b⟩ := p
    simp only [lookN] at h
    split at h
    · rename_i e; subst e; injection h with h; subst h; exact List.mem_cons_self ..
    · exact List.mem_cons_of_mem _ (ih h)

abbrev Tab := List (Nat × TI)
def TabOk (P : Program) (T : Tab) : Prop := ∀ p ∈ T, TIOk P p.1 p.2
theorem TabOk.at {P : Program} {T : Tab} (h : TabOk P T) {t : TypeId} {i : TI} (ht : lookN t T = some i) : TIOk P t i := h _ (lookN_mem ht)

section
variable {P : Program} {t : TypeId} {i : TI}

theorem TIOk.und' (h : TIOk P t i) : ∃ d, P.underlying t = some d ∧ kindOf d = i.kind := by
  have := h.und
  cases hd : P.underlying t with
  | none => simp [hd] at this
  | some d => exact ⟨d, rfl, by simpa [hd] using this⟩

theorem TIOk.info' (h : TIOk P t i) : ∃ x, P.info? t = some x ∧ x.size = i.size ∧ x.bytes = i.bytes ∧ x.zero = some i.zeroVal := by
  have := h.info
  cases hd : P.info? t with
  | none => simp [hd] at this
  | some d => simp [hd] at this; exact ⟨d, rfl, this.1, this.2.1, this.2.2⟩

theorem TIOk.len (h : TIOk P t i) : i.zero.length = i.size := by
  have := h.zs
  simp only [Bool.and_eq_true, beq_iff_eq] at this
  exact this.1.2

theorem run_sizeOf' (h : TIOk P t i) (w : World) : (sizeOf t).run P w = .ok i.size w := by
  obtain ⟨x, h1, h2, _⟩ := h.info'
  simp [sizeOf, typeInfo, h1, h2]

theorem run_bytes' (h : TIOk P t i) (w : World) : ∃ x, (typeInfo t).run P w = .ok x w ∧ x.bytes = i.bytes ∧ x.size = i.size := by
  obtain ⟨x, h1, h2, h3, _⟩ := h.info'
  exact ⟨x, by simp [typeInfo, h1], h3, h2⟩

theorem run_zero' (h : TIOk P t i) (w : World) : (zeroValue t).run P w = .ok i.zeroVal w := by
  obtain ⟨x, h1, h2, _, h3⟩ := h.info'
  simp [zeroValue, typeInfo, h1, h3]

theorem run_isAgg' (h : TIOk P t i) (w : World) : (isAgg t).run P w = .ok i.kind.agg w := by
  obtain ⟨d, h1, h2⟩ := h.und'
  unfold isAgg
  simp only [Sem.run_bind, run_underlying h1, Result.andThen]
  cases d <;> simp_all [kindOf] <;> rw [← h2] <;> rfl

theorem zeroVal_cells (h : TIOk P t i) : i.zeroVal.cells = (i.zero.map D.val).toArray := by
  have hz := h.zs
  simp only [Bool.and_eq_true, Bool.or_eq_true, beq_iff_eq] at hz
  unfold TI.zeroVal
  split
  · rfl
  · rename_i hk
    have h1 : i.size = 1 := by rcases hz.2 with h2 | h2; exact absurd h2 hk; exact h2
    match hzz : i.zero, hz.1.2 with
    | [x], _ => simp; cases x <;> rfl
    | [], hl => simp at hl; omega
    | _ :: _ :: _, hl => simp at hl; omega

theorem zero_rel (h : TIOk P t i) (φ : Names) (m : Mem) : relAll φ m (i.zero.map Sc.d) (i.zero.map D.val) := by
  have hz := h.zs
  simp only [Bool.and_eq_true, List.all_eq_true] at hz
  refine ⟨by simp, fun j x hx => ?_⟩
  rw [List.getElem?_map] at hx
  cases hj : i.zero[j]? with
  | none => simp [hj] at hx
  | some y =>
    simp [hj] at hx
    subst hx
    exact ⟨y.val, by simp [hj], D.rel_val (hz.1.1 y (List.mem_of_getElem? hj))⟩
end

/-! ### Operators on plain values -/
def inI64 (n : Int) : Prop := -9223372036854775808 ≤ n ∧ n ≤ 9223372036854775807

def wrapK : IntKind → Int → Int
  | .i64, n => n
  | k, n => k.wrap n
def wrapOb : IntKind → Int → Prop
  | .i64, n => inI64 n
  | _, _ => True
theorem wrapK_ok {k : IntKind} {n : Int} (h : wrapOb k n) : k.wrap n = wrapK k n := by
  cases k <;> simp only [wrapK]
  exact IntWalk.i64_in n h

def bitsV (op : BinOp) (k : IntKind) (x y : Int) : Int :=
  let a := BitVec.ofInt k.bits x
  let b := BitVec.ofInt k.bits y
  k.wrap (match op with | .and => a &&& b | .or => a ||| b | .xor => a ^^^ b | _ => a &&& ~~~b).toNat

def evInt (op : BinOp) (k : IntKind) (a b : Int) : Option (D × Prop) :=
  match op with
  | .add => some (.int k (wrapK k (a + b)), wrapOb k (a + b))
  | .sub => some (.int k (wrapK k (a - b)), wrapOb k (a - b))
  | .mul => some (.int k (wrapK k (a * b)), wrapOb k (a * b))
  | .quo => some (.int k (a / b), 0 ≤ a ∧ 0 < b ∧ k.wrap (a / b) = a / b)
  | .rem => some (.int k (a % b), 0 ≤ a ∧ 0 < b)
  | .and | .or | .xor | .andNot => some (.int k (bitsV op k a b), True)
  | .eql => some (.bool (decide (a = b)), True)
  | .neq => some (.bool (!decide (a = b)), True)
  | .lss => some (.bool (decide (a < b)), True)
  | .leq => some (.bool (decide (a ≤ b)), True)
  | .gtr => some (.bool (decide (b < a)), True)
  | .geq => some (.bool (decide (b ≤ a)), True)
  | _ => none

def evShift (op : BinOp) (k : IntKind) (a b : Int) : Option (D × Prop) :=
  match op with
  | .shl => some (.int k (wrapK k (a * 2 ^ min b.toNat k.bits)), 0 ≤ b ∧ wrapOb k (a * 2 ^ min b.toNat k.bits))
  | .shr => some (.int k (a / 2 ^ min b.toNat k.bits), 0 ≤ b)
  | _ => none

def ltS (a b : List UInt8) : Bool := Op.bytesLess a b

def evStr (op : BinOp) (a b : List UInt8) : Option (D × Prop) :=
  match op with
  | .add => some (.str (a ++ b), (a.length + b.length : Nat) ≤ 9223372036854775807)
  | .eql => some (.bool (decide (a = b)), True)
  | .neq => some (.bool (!decide (a = b)), True)
  | .lss => some (.bool (ltS a b), True)
  | .leq => some (.bool (ltS a b || decide (a = b)), True)
  | .gtr => some (.bool (!(ltS a b || decide (a = b))), True)
  | .geq => some (.bool (!ltS a b), True)
  | _ => none

def fcmp (op : BinOp) (k : FloatKind) (x y : Nat) : Option Bool :=
  let c := k.format.order x y
  match op with
  | .eql => some (c == some .eq)
  | .neq => some (c != some .eq)
  | .lss => some (c == some .lt)
  | .leq => some (c == some .lt || c == some .eq)
  | .gtr => some (c == some .gt)
  | .geq => some (c == some .gt || c == some .eq)
  | _ => none

def evBin (op : BinOp) (x y : D) : Option (D × Prop) :=
  match x, y with
  | .int k a, .int k' b =>
    match op with
    | .shl | .shr => evShift op k a b
    | _ => if k = k' then evInt op k a b else none
  | .float k a, .float k' b => if k = k' then (fcmp op k a b).map fun r => (.bool r, True) else none
  | .complex k a b, .complex k' c d => if k = k' then (match op with
    | .eql => some (.bool ((k.format.order a c == some .eq) && (k.format.order b d == some .eq)), True)
    | .neq => some (.bool (!((k.format.order a c == some .eq) && (k.format.order b d == some .eq))), True)
    | _ => none) else none
  | .str a, .str b => evStr op a b
  | _, _ => none

theorem ofList_toList (l : List UInt8) : (ByteArray.mk l.toArray).toList = l := by rw [ByteArray.toList_eq]

theorem beq_decide {α : Type} [BEq α] [LawfulBEq α] [DecidableEq α] (a b : α) : (a == b) = decide (a = b) := by
  by_cases h : a = b
  · simp [h]
  · simp [h]

theorem evInt_ok {P : Program} {op : BinOp} {k : IntKind} {a b : Int} {r : D} {ob : Prop} (h : evInt op k a b = some (r, ob)) (hob : ob) (m : Mem) (t : TypeId) (w : World) :
    ∃ R, (binOp op t (.int k a) (.int k b)).run P w = .ok R w ∧ r.rel m R := by
  cases op <;> simp only [evInt, reduceCtorEq, Option.some.injEq, Prod.mk.injEq] at h <;> obtain ⟨rfl, rfl⟩ := h
  case add => exact ⟨_, by simp [binOp, Op.intArith]; rfl, by rw [wrapK_ok hob]; simp [D.rel]⟩
  case sub => exact ⟨_, by simp [binOp, Op.intArith]; rfl, by rw [wrapK_ok hob]; simp [D.rel]⟩
  case mul => exact ⟨_, by simp [binOp, Op.intArith]; rfl, by rw [wrapK_ok hob]; simp [D.rel]⟩
  case quo =>
    refine ⟨_, by simp [binOp, Op.intDiv, show ¬ b = 0 by omega]; rfl, ?_⟩
    rw [Int.tdiv_eq_ediv_of_nonneg hob.1, hob.2.2]
    simp [D.rel]
  case rem =>
    refine ⟨_, by simp [binOp, Op.intDiv, show ¬ b = 0 by omega]; rfl, ?_⟩
    rw [Int.tmod_eq_emod_of_nonneg hob.1]
    simp [D.rel]
  case and => exact ⟨_, by simp [binOp, Op.intBits]; rfl, by simp [D.rel, bitsV]⟩
  case or => exact ⟨_, by simp [binOp, Op.intBits]; rfl, by simp [D.rel, bitsV]⟩
  case xor => exact ⟨_, by simp [binOp, Op.intBits]; rfl, by simp [D.rel, bitsV]⟩
  case andNot => exact ⟨_, by simp [binOp, Op.intBits]; rfl, by simp [D.rel, bitsV]⟩
  case eql => exact ⟨_, by simp [binOp, Op.intCmp]; rfl, by simp [D.rel, beq_decide]⟩
  case neq => exact ⟨_, by simp [binOp, Op.intCmp]; rfl, by simp [D.rel, bne, beq_decide]⟩
  case lss => exact ⟨_, by simp [binOp, Op.intCmp]; rfl, by simp [D.rel]⟩
  case leq => exact ⟨_, by simp [binOp, Op.intCmp]; rfl, by simp [D.rel]⟩
  case gtr => exact ⟨_, by simp [binOp, Op.intCmp]; rfl, by simp [D.rel]⟩
  case geq => exact ⟨_, by simp [binOp, Op.intCmp]; rfl, by simp [D.rel]⟩

theorem evShift_ok {P : Program} {op : BinOp} {k k' : IntKind} {a b : Int} {r : D} {ob : Prop} (h : evShift op k a b = some (r, ob)) (hob : ob) (m : Mem) (t : TypeId) (w : World) :
    ∃ R, (binOp op t (.int k a) (.int k' b)).run P w = .ok R w ∧ r.rel m R := by
  cases op <;> simp only [evShift, reduceCtorEq, Option.some.injEq, Prod.mk.injEq] at h <;> obtain ⟨rfl, rfl⟩ := h
  case shl =>
    refine ⟨_, by simp [binOp, Op.shift, show ¬ b < 0 by omega]; rfl, ?_⟩
    rw [wrapK_ok hob.2]; simp [D.rel]
  case shr =>
    refine ⟨_, by simp [binOp, Op.shift, show ¬ b < 0 by omega]; rfl, ?_⟩
    rw [Int.fdiv_eq_ediv_of_nonneg _ (Int.le_of_lt (Int.pow_pos (by omega)))]
    simp [D.rel]

theorem evStr_ok {P : Program} {op : BinOp} {a b : List UInt8} {r : D} {ob : Prop} (h : evStr op a b = some (r, ob)) (hob : ob) (m : Mem) (t : TypeId) (w : World) :
    ∃ R, (binOp op t (.string ⟨a.toArray⟩) (.string ⟨b.toArray⟩)).run P w = .ok R w ∧ r.rel m R := by
  cases op <;> simp only [evStr, reduceCtorEq, Option.some.injEq, Prod.mk.injEq] at h <;> obtain ⟨rfl, rfl⟩ := h
  case add =>
    refine ⟨.string (⟨a.toArray⟩ ++ ⟨b.toArray⟩), run_string_add_sum w _ _ (by simpa [ByteArray.size] using hob), ?_⟩
    simp only [D.rel]
    congr 1
  all_goals exact ⟨_, by simp [binOp, Op.stringOp]; rfl, by simp [D.rel, ofList_toList, ltS, beq_decide]⟩

theorem evBin_ok {P : Program} {op : BinOp} {x y r : D} {ob : Prop} (h : evBin op x y = some (r, ob)) (hob : ob) (m : Mem) {X Y : Value} (hx : x.rel m X) (hy : y.rel m Y) (t : TypeId) (w : World) :
    ∃ R, (binOp op t X Y).run P w = .ok R w ∧ r.rel m R := by
  unfold evBin at h
  split at h
  · rename_i k a k' b
    simp only [D.rel] at hx hy
    subst hx; subst hy
    split at h
    · exact evShift_ok h hob m t w
    · exact evShift_ok h hob m t w
    · split at h
      · rename_i e; subst e; exact evInt_ok h hob m t w
      · cases h
  · rename_i k a k' b
    simp only [D.rel] at hx hy
    subst hx; subst hy
    split at h
    · rename_i e
      subst e
      cases op <;> simp [fcmp] at h <;> obtain ⟨rfl, _⟩ := h <;> exact ⟨_, by simp [binOp, Op.floatCmp]; rfl, by simp [D.rel]⟩
    · cases h
  · rename_i k a b k' c d
    simp only [D.rel] at hx hy
    subst hx; subst hy
    split at h
    · rename_i e
      subst e
      cases op <;> simp at h <;> obtain ⟨rfl, _⟩ := h
      · exact ⟨_, run_eql_complex w t k a b c d, by simp [D.rel]⟩
      · exact ⟨_, run_neq_complex w t k a b c d, by simp [D.rel]⟩
    · cases h
  · rename_i a b
    simp only [D.rel] at hx hy
    subst hx; subst hy
    exact evStr_ok h hob m t w
  · cases h

end Go.Proofs.Hg
