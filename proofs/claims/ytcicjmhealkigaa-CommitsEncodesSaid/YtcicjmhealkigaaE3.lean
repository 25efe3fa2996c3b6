/- The end of a function that ranged over functions; iterators. -/
import Derived.Test.YtcicjmhealkigaaE2
set_option linter.unusedVariables false
set_option linter.unusedSimpArgs false
namespace Go.Proofs.Hg
open Go.RowKit

section
variable {P : Program}

/-- The blocks for deferred calls are shut. -/
def shutAll (W : World) : List Nat → World
  | [] => W
  | D :: ds => shutAll (W.putObj D (.deferred none)) ds

theorem leavesM {n : Nat} {fn : Func} {tmps : Array Value} {R : Ending → World → Prop} : ∀ (ds : List Nat) (W : World), (∀ D ∈ ds, W.heap[D]? = some (.deferred (some []))) → ds.Nodup →
    LeavesIn (wideR none) n P fn tmps R [] .returning (shutAll W ds) → LeavesInM (wideR none) n P fn tmps R (marksOf ds) .returning W
  | [], W, _, _, h => h
  | D :: ds, W, hd, hn, h => by
    have hD := hd D (List.mem_cons_self ..)
    refine ⟨by simp, .inl ⟨D, W.putObj D (.deferred none), rfl, run_takeDeferred hD, leavesM ds _ (fun E hE => ?_) (List.nodup_cons.1 hn).2 h⟩⟩
    have hne : E ≠ D := fun e => (List.nodup_cons.1 hn).1 (by rw [← e]; exact hE)
    rw [World.putObj_heap_other hne]
    exact hd E (List.mem_cons_of_mem _ hE)

theorem RelC.shut {c : Ctx} {φ : Names} {m : Mem} {f : StF} {a : Act} : ∀ (ds : List Nat) (W : World), RelC c φ m f a W → (∀ D ∈ ds, W.heap[D]? = some (.deferred (some [])) ∧ m D = none ∧ c.w0.heap.size ≤ D) → ds.Nodup → RelC c φ m f a (shutAll W ds)
  | [], W, h, _, _ => h
  | D :: ds, W, h, hd, hn => by
    obtain ⟨q1, q2, q3⟩ := hd D (List.mem_cons_self ..)
    refine RelC.shut ds _ (h.putAux q1 rfl q2 (.inl q3) _) (fun E hE => ?_) (List.nodup_cons.1 hn).2
    obtain ⟨r1, r2, r3⟩ := hd E (List.mem_cons_of_mem _ hE)
    have hne : E ≠ D := fun e => (List.nodup_cons.1 hn).1 (by rw [← e]; exact hE)
    exact ⟨by rw [World.putObj_heap_other hne]; exact r1, r2, r3⟩

theorem fn_givesM {g : FuncId} {i : CallIn} {nargs : Nat} {fresh : Nat} {r : Res} {args : List AV} (hf : P.funcs[g]? = some i.fn) (hb : i.fn.body = some i.code) (hname : (i.fn.name == "runtime.NumGoroutine") = false)
    (hw : AWpM P i.fn.ntmps i.k i.code i.S0 (Ends P i fresh r)) (hh : Handed i nargs r args) :
    ∀ (c : Ctx) (φ : Names) (m : Mem) (f : StF) (a : Act) (W : World) (vals : List Value), r.Reads fresh f → RelC c φ m f a W →
    vals.length = args.length → (∀ (j : Nat) (x : AV), args[j]? = some x → ∃ V : Value, vals[j]? = some V ∧ x.rel φ m V) →
    (∀ w, (callFunc g vals.toArray).run P w = .ok (.enter g vals.toArray) w) ∧ CallGives P g vals.toArray c φ m f a W r := by
  intro c φ m f a W vals hrd hc hl hv
  refine ⟨fun w => Go.MuLone.run_callFunc_enter hf hname hb _ w, fun ro n => ?_⟩
  have hstart := call_start hh hrd hc hl hv
  have key : CallsIn (wideR none) n P g vals.toArray W fun e W' => ∃ φ' m' V, e = .returned V ∧ RelC c φ' m' (wrApp r.wr f) a W' ∧ NamesLe φ φ' ∧ MemLe m m' ∧ r.val.rel φ' m' V := by
    refine callsIn_of_wp_marks hf hb trivial ?_ rfl
    refine wpIn_mono (hw (inCtx i φ m W) n _ _ _ _ [] rfl (fun x hx => by simp only [inCtx]; rw [if_neg (by omega)]) hstart rfl (MarkOk.nil _ _)) ?_
    rintro e a' W' ⟨φ1, m1, S1, ds, c1, d1, k1, he, o, ho, ht⟩
    have hm0 : ∀ D ∈ ds, (inCtx i φ m W).m0 D = none := by
      intro D hD
      cases hx : (inCtx i φ m W).m0 D with
      | none => rfl
      | some o =>
        have h1 := (Array.getElem?_eq_some_iff.1 (hc.mem D o hx)).1
        have h2 := (k1.at_ D hD).2
        simp only [inCtx] at h2
        omega
    have hheap : ∀ D ∈ ds, W'.heap[D]? = some (.deferred (some [])) := fun D hD => c1.mem D _ (k1.at_ D hD).1
    have c2 := c1.release ds hm0 (fun D hD O hO => by rw [(k1.at_ D hD).1] at hO; injection hO with hO; subst hO; rfl)
    have c3 := c2.shut ds W' (fun D hD => ⟨hheap D hD, by simp [Mem.cut, hD], (k1.at_ D hD).2⟩) k1.nd
    obtain ⟨φ2, m2, V, c4, r2, v2⟩ := ho (inCtx i φ m W) φ1 _ a' _ rfl (fun x hx => by simp only [inCtx]; rw [if_neg (by omega)]) c3
    obtain ⟨φ3, m3, q1, q2, q3, q4⟩ := call_end hh ht hrd hc c4 v2
    have hl : LeavesInM (wideR none) n P i.fn a'.tmps (fun e W' => ∃ φ' m' V, e = .returned V ∧ RelC c φ' m' (wrApp r.wr f) a W' ∧ NamesLe φ φ' ∧ MemLe m m' ∧ r.val.rel φ' m' V) a'.defers .returning W' := by
      rw [d1]
      exact leavesM ds W' hheap k1.nd ⟨V, r2, φ3, m3, V, rfl, q1, q2, q3, q4⟩
    rcases he with rfl | rfl
    · exact hl
    · exact hl
  exact key

/-- A function of values alone that ranges over functions. -/
theorem pure_okM {g : FuncId} {fn : Func} {code : Code} {nargs : Nat} {F : List AV → Option (AVal × Prop)} (hf : P.funcs[g]? = some fn) (hb : fn.body = some code) (hname : (fn.name == "runtime.NumGoroutine") = false) (hn : nargs ≤ fn.ntmps)
    (hF : ∀ args q, F args = some q → q.2 → args.length = nargs ∧ (∀ x ∈ args, x.ids = []) ∧ q.1.ids = [] ∧ (∀ b x, q.1 ≠ .opt b x) ∧ AWpM P fn.ntmps 0 code ⟨envOf args, [], 0⟩ (EndsP P fn q.1)) : ContOk P g (pureK F) := by
  intro fresh H args r hr hob
  simp only [pureK, Option.map_eq_some_iff] at hr
  obtain ⟨q, hq, rfl⟩ := hr
  obtain ⟨h1, h2, h3, h4, h5⟩ := hF args q hq hob
  refine fn_givesM (i := ⟨fn, code, ⟨envOf args, [], 0⟩, 0, id⟩) (nargs := nargs) hf hb hname (h5.mono ?_) ?_
  · rintro e S ⟨he, S2, hS⟩
    refine ⟨he, ⟨q.1, S2, none, id⟩, hS, ?_⟩
    exact { val := (AVal.ren_none h3).symm, plain := h4, vids := (fun x hx => by rw [h3] at hx; simp at hx), fr := rfl, exn := (fun x hx => by cases hx), hand := (fun p hp => by simp at hp), wr := (fun p hp => by simp at hp) }
  · refine { len := ⟨h1, hn⟩, env := (fun p hp => ?_), heap := (fun p hp => by simp at hp), nxt := rfl, inj := (fun p hp => by simp at hp) }
    simp only [envOf, List.mem_map] at hp
    obtain ⟨⟨x, j⟩, hx, rfl⟩ := hp
    have hj := List.mem_zipIdx_iff_getElem?.1 hx
    simp only at hj
    have hxm : x ∈ args := List.mem_of_getElem? hj
    refine ⟨x, hj, ?_, fun y hy => ?_⟩
    · simp only [AVal.ren]
      rw [AV.ren_none (h2 x hxm)]
    · simp only [AVal.ids] at hy
      rw [h2 x hxm] at hy
      simp at hy

end

/-! ### iterators -/
/-- The root of an iterator's activation: it owns nothing; yield's loop is l. -/
def ICtx (W : World) (m : Mem) (N l : Nat) : Ctx := ⟨W, m, fun i => if i = 0 then some (.blk l 0 0) else none, fun _ => False, N⟩

/-- From here on. -/
theorem RelC.iroot {W0 W : World} {m0 m : Mem} {N l : Nat} {φ : Names} {f : StF} {a : Act} (h : RelC (ICtx W0 m0 N l) φ m f a W) (hn : ∀ i o, f (.h i) ≠ .o o) {W' : World} {m' : Mem} (hm : MemLe m m') (hin : ∀ b o, m' b = some o → W'.heap[b]? = some o) : RelC (ICtx W' m' N l) φ m' f a W' :=
  { os := rfl, out := rfl, tape := rfl, size := Nat.le_refl _, frame := fun _ _ _ => rfl, mem := hin, m0 := MemLe.refl _, mnew := fun _ _ x => .inl x, ext := h.ext
    obj := fun i o hi => absurd hi (hn i o), own := fun i o b C e hi => absurd hi (hn i o), inj := fun i j o o' b C e C' e' hi => absurd hi (hn i o), free := h.free
    env := fun t v hv => let ⟨V, q1, q2⟩ := h.env t v hv; ⟨V, q1, AVal.rel_le (NamesLe.refl φ) hm v V q2⟩, nt := h.nt }

theorem RelC.ibelow {W0 W : World} {m0 m : Mem} {N l : Nat} {φ : Names} {f : StF} {a : Act} (h : RelC (ICtx W0 m0 N l) φ m f a W) : Below W0.heap.size W0 W ∧ (∀ b o, m b = some o → W.heap[b]? = some o) ∧ (∀ b o, m b = some o → m0 b = some o ∨ W0.heap.size ≤ b) :=
  ⟨⟨h.os, h.tape, h.out, h.size, fun b hb => h.frame b hb (fun x => x)⟩, h.mem, fun b o hb => by
    rcases h.mnew b o hb with h1 | h1 | h1
    · exact .inl h1
    · exact .inr h1
    · exact h1.elim⟩

def noObj (S : St) : Prop := S.heap = []
theorem noObj.fn {S : St} (h : noObj S) : ∀ i o, S.fn (.h i) ≠ .o o := by
  intro i o hi
  unfold noObj at h
  simp only [St.fn, h, lookN] at hi
  split at hi <;> cases hi

section
variable {P : Program} {n N l : Nat} {G : Nat → Mem → World → Prop}

/-- What an iterator's code does: i rounds have been made. -/
def AWpG (P : Program) (n N l : Nat) (G : Nat → Mem → World → Prop) (code : Code) (i : Nat) (S : St) (Q : Exit → Nat → St → Prop) : Prop :=
  ∀ (φ : Names) (m : Mem) (a : Act) (W : World), RelC (ICtx W m N l) φ m S.fn a W → noObj S → G i m W → a.defers = [] →
    code.wpIn (wideR none) n P (fun e a' W' => ∃ φ' m' i' S', RelC (ICtx W' m' N l) φ' m' S'.fn a' W' ∧ noObj S' ∧ G i' m' W' ∧ a'.defers = [] ∧ Q e i' S') a W

def thenG (next : Nat → St → Prop) (Q : Exit → Nat → St → Prop) : Exit → Nat → St → Prop
  | .normal, i, S => next i S
  | e, i, S => Q e i S
def inBlockG (id : Nat) (Q : Exit → Nat → St → Prop) : Exit → Nat → St → Prop
  | .exit j, i, S => if j = id then Q .normal i S else Q (.exit j) i S
  | e, i, S => Q e i S

variable {i : Nat} {S S' : St} {Q Q' : Exit → Nat → St → Prop}

theorem AWpG.plain (hG : GOk G) {code : Code} (hw : AWp P N 1 code S fun e S' => noObj S' ∧ Q e i S') : AWpG P n N l G code i S Q := fun φ m a W hc hn hg hd => by
  refine wpIn_mono (hw (ICtx W m N l) none n φ m a W rfl (fun x hx => by simp only [ICtx]; rw [if_neg (by omega)]) hc) ?_
  rintro e a' W' ⟨φ1, m1, S1, c1, d1, n1, q1⟩
  obtain ⟨b1, b2, b3⟩ := c1.ibelow
  exact ⟨φ1, m1, i, S1, c1.iroot n1.fn (MemLe.refl _) b2, n1, hG.stable i m W m1 W' hg b1 c1.m0 b2 b3, d1.trans hd, q1⟩

theorem AWpG.conv (hG : GOk G) {code : Code} (hv : Conv N 1 S S') (hn' : noObj S') (hw : AWpG P n N l G code i S' Q) : AWpG P n N l G code i S Q := fun φ m a W hc hn hg hd => by
  obtain ⟨φ1, m1, c1⟩ := hv (ICtx W m N l) φ m a W rfl (fun x hx => by simp only [ICtx]; rw [if_neg (by omega)]) hc
  obtain ⟨b1, b2, b3⟩ := c1.ibelow
  exact hw φ1 m1 a W (c1.iroot hn'.fn (MemLe.refl _) b2) hn' (hG.stable i m W m1 W hg b1 c1.m0 b2 b3) hd

theorem AWpG.seq {x y : Code} (hx : AWpG P n N l G x i S (thenG (fun j S1 => AWpG P n N l G y j S1 Q) Q)) : AWpG P n N l G (.seq x y) i S Q := fun φ m a W hc hn hg hd => by
  refine wpIn_seq (wpIn_mono (hx φ m a W hc hn hg hd) ?_)
  rintro e a' W' ⟨φ1, m1, i1, S1, c1, n1, g1, d1, q1⟩
  cases e with
  | normal => exact q1 φ1 m1 a' W' c1 n1 g1 d1
  | exit j => exact ⟨φ1, m1, i1, S1, c1, n1, g1, d1, q1⟩
  | goto j => exact ⟨φ1, m1, i1, S1, c1, n1, g1, d1, q1⟩
  | ret => exact ⟨φ1, m1, i1, S1, c1, n1, g1, d1, q1⟩
  | panic j => exact ⟨φ1, m1, i1, S1, c1, n1, g1, d1, q1⟩
  | outgrown => exact ⟨φ1, m1, i1, S1, c1, n1, g1, d1, q1⟩

theorem AWpG.block {id : Nat} {x : Code} (hx : AWpG P n N l G x i S (inBlockG id Q)) : AWpG P n N l G (.block id x) i S Q := fun φ m a W hc hn hg hd => by
  refine wpIn_block (wpIn_mono (hx φ m a W hc hn hg hd) ?_)
  rintro e a' W' ⟨φ1, m1, i1, S1, c1, n1, g1, d1, q1⟩
  cases e with
  | normal => exact ⟨φ1, m1, i1, S1, c1, n1, g1, d1, q1⟩
  | exit j =>
    simp only [Exit.inBlock]
    simp only [inBlockG] at q1
    split
    · rename_i e; rw [if_pos e] at q1; exact ⟨φ1, m1, i1, S1, c1, n1, g1, d1, q1⟩
    · rename_i e; rw [if_neg e] at q1; exact ⟨φ1, m1, i1, S1, c1, n1, g1, d1, q1⟩
  | goto j => exact ⟨φ1, m1, i1, S1, c1, n1, g1, d1, q1⟩
  | ret => exact ⟨φ1, m1, i1, S1, c1, n1, g1, d1, q1⟩
  | panic j => exact ⟨φ1, m1, i1, S1, c1, n1, g1, d1, q1⟩
  | outgrown => exact ⟨φ1, m1, i1, S1, c1, n1, g1, d1, q1⟩

theorem AWpG.cond {o : Operand} {x y : Code} {b : Bool} (ho : S.opnd o = some (.one (dv (.bool b)))) (ht : b = true → AWpG P n N l G x i S Q) (hf : b = false → AWpG P n N l G y i S Q) : AWpG P n N l G (.cond o x y) i S Q :=
  fun φ m a W hc hn hg hd =>
  have hv : a.eval o = .bool b := opnd_at hc ho
  wpIn_cond_split hv (fun e => ht e φ m a W hc hn hg hd) (fun e => hf e φ m a W hc hn hg hd)

theorem AWpG.loop {x : Code} (I : Nat → Nat → St → Prop) (k : Nat) (h0 : I k i S) (round : ∀ k i S, I k i S → AWpG P n N l G x i S (thenG (fun i' S' => ∃ k', k' < k ∧ I k' i' S') Q)) : AWpG P n N l G (.loop x) i S Q :=
  fun φ m a W hc hn hg hd => by
  refine wpIn_loop_ghost (fun k a' W' => ∃ φ' m' i' S', RelC (ICtx W' m' N l) φ' m' S'.fn a' W' ∧ noObj S' ∧ G i' m' W' ∧ a'.defers = [] ∧ I k i' S') k ⟨φ, m, i, S, hc, hn, hg, hd, h0⟩ ?_
  rintro k a1 W1 ⟨φ1, m1, i1, S1, c1, n1, g1, d1, j1⟩
  refine wpIn_mono (round k i1 S1 j1 φ1 m1 a1 W1 c1 n1 g1 d1) ?_
  rintro e a' W' ⟨φ2, m2, i2, S2, c2, n2, g2, d2, q2⟩
  cases e with
  | normal =>
    obtain ⟨k', hk, j2⟩ := q2
    exact ⟨k', hk, φ2, m2, i2, S2, c2, n2, g2, d2, j2⟩
  | exit j => exact ⟨φ2, m2, i2, S2, c2, n2, g2, d2, q2⟩
  | goto j => exact ⟨φ2, m2, i2, S2, c2, n2, g2, d2, q2⟩
  | ret => exact ⟨φ2, m2, i2, S2, c2, n2, g2, d2, q2⟩
  | panic x => exact ⟨φ2, m2, i2, S2, c2, n2, g2, d2, q2⟩
  | outgrown => exact ⟨φ2, m2, i2, S2, c2, n2, g2, d2, q2⟩

theorem AWpG.mono {code : Code} (hw : AWpG P n N l G code i S Q) (hq : ∀ e i' S', Q e i' S' → Q' e i' S') : AWpG P n N l G code i S Q' := fun φ m a W hc hn hg hd => by
  refine wpIn_mono (hw φ m a W hc hn hg hd) ?_
  rintro e a' W' ⟨φ1, m1, i1, S1, c1, n1, g1, d1, q1⟩
  exact ⟨φ1, m1, i1, S1, c1, n1, g1, d1, hq e i1 S1 q1⟩

/-- Some of a region's operations in the text's order, more behind. -/
theorem runL_more {ops : Array Oper} {ro : Option Nat} {c : Ctx} (hN : c.nt = N) {Q : Exit → Act → World → Prop} {rest : List Nat} :
    ∀ (ts : List (Nat × LT)) (f g : StF) (φ : Names) (m : Mem) (a : Act) (W : World), (∀ p ∈ ts, SoundAt P N ops p.1 p.2) → RunL (ts.map (·.2)) f g → RelC c φ m f a W →
      (∀ φ' m' a' W', RelC c φ' m' g a' W' → a'.defers = a.defers → wpOpsIn (wideR ro) n P ops Q rest a' W') → wpOpsIn (wideR ro) n P ops Q (ts.map (·.1) ++ rest) a W := by
  intro ts
  induction ts with
  | nil => intro f g φ m a W _ hr hc hq; simp only [List.map_nil, RunL] at hr; subst hr; exact hq φ m a W hc rfl
  | cons p ts ih =>
    intro f g φ m a W hs hr hc hq
    obtain ⟨hf, hr⟩ := hr
    rw [List.map_cons, List.cons_append, wpOpsIn_cons]
    refine hs p (List.mem_cons_self ..) ro n c φ m f a W Q _ hN hc hf fun φ' m' a' W' hc' hd => ?_
    exact ih _ g φ' m' a' W' (fun q hq => hs q (List.mem_cons_of_mem _ hq)) hr hc' (fun φ2 m2 a2 W2 h hd2 => hq φ2 m2 a2 W2 h (hd2.trans hd))

theorem zip_fst {α : Type} (k : Nat) : ∀ (l : List α), ((l.zipIdx k).map fun p => (p.2, p.1)).map (·.1) = (List.range' k l.length)
  | [] => rfl
  | x :: r => by
    rw [List.zipIdx_cons, List.map_cons, List.map_cons, zip_fst (k + 1) r]
    rfl
theorem zip_snd {α : Type} (k : Nat) : ∀ (l : List α), ((l.zipIdx k).map fun p => (p.2, p.1)).map (·.2) = l
  | [] => rfl
  | x :: r => by
    rw [List.zipIdx_cons, List.map_cons, List.map_cons, zip_snd (k + 1) r]

theorem runOps_more {T : Tab} (hT : TabOk P T) {K : Know} (hK : KnowOk P K) {ops : Array Oper} {ro : Option Nat} {c : Ctx} {Q : Exit → Act → World → Prop} {rest : List Nat} {os : List Oper} {i0 : Nat} {q : St × Prop} (hN : c.nt = N)
    (hos : ∀ (k : Nat) (o : Oper), os[k]? = some o → ops[i0 + k]? = some o) (hrun : runS T K N (gdOf ops) os S = some q) (hob : q.2) {φ : Names} {m : Mem} {a : Act} {W : World} (hc : RelC c φ m S.fn a W)
    (hq : ∀ φ' m' a' W', RelC c φ' m' q.1.fn a' W' → a'.defers = a.defers → wpOpsIn (wideR ro) n P ops Q rest a' W') : wpOpsIn (wideR ro) n P ops Q (List.range' i0 os.length ++ rest) a W := by
  obtain ⟨lts, hl⟩ := runS_ops hrun
  obtain ⟨h1, h2, g, h3, h4⟩ := runOps_ok (ops := ops) hT hK (fun _ _ h => h) os i0 S (lts, q.1, q.2) hos hl hob S.fn (fun k => .inr rfl)
  have h1' : lts.length = os.length := h1
  have := runL_more (P := P) (n := n) (ro := ro) (ops := ops) (Q := Q) (rest := rest) hN ((lts.zipIdx i0).map fun p => (p.2, p.1)) S.fn g φ m a W (fun p hp => by
    obtain ⟨z, hz, rfl⟩ := List.mem_map.1 hp
    have := List.mem_zipIdx hz
    have hz2 := h2 (z.2 - i0) z.1 (by rw [this.2.2]; simp only [List.getElem?_eq_getElem (show z.2 - i0 < lts.length by omega)])
    rw [show i0 + (z.2 - i0) = z.2 by omega] at hz2
    exact hz2) (by rw [zip_snd]; exact h3) hc (fun φ' m' a' W' hc' hd => hq φ' m' a' W' (hc'.weaken h4) hd)
  rw [zip_fst, h1'] at this
  exact this

/-- **A REGION WITH A CALL OF yield IN IT**, the p-th operation. -/
theorem AWpG.yreg {T : Tab} (hT : TabOk P T) {K : Know} (hK : KnowOk P K) (hG : GOk G) {xs : List D} (hY : YieldsTo P n l xs G) {id : Nat} {ops : Array Oper} (p : Nat) {t u d : Tmp} {ats : Array TypeId} {ty : TypeId} {pos : String} {after : Array Edge}
    {S1 S2 : St} {ob1 ob2 : Prop} {x : D} (hop : ops.toList[p]? = some ⟨some d, .call { callee := .value (.tmp t), args := #[.tmp u], argTypes := ats }, ty, pos, after, none⟩) (hd : d < N)
    (hrun1 : runS T K N (gdOf ops) (ops.toList.take p) S = some (S1, ob1)) (hob1 : ob1) (hn1 : noObj S1) (ht : lookN t S1.env = some (.one (.s (.yield 0)))) (hu : lookN u S1.env = some (.one (dv x))) (hx : xs[i]? = some x)
    (hrun2 : runS T K N (gdOf ops) (ops.toList.drop (p + 1)) ⟨(d, .one (dv (.bool true))) :: S1.env, S1.heap, S1.nxt⟩ = some (S2, ob2)) (hob2 : ob2) (hn2 : noObj S2) (hq : Q .normal (i + 1) S2) : AWpG P n N l G (.region id ops false) i S Q := fun φ m a W hc hn hg hdf => by
  refine wpIn_region ?_
  obtain ⟨pre, hpre⟩ : ∃ pre, pre = ops.toList.take p := ⟨_, rfl⟩
  obtain ⟨post, hpost⟩ : ∃ post, post = ops.toList.drop (p + 1) := ⟨_, rfl⟩
  have hops : ops.toList = pre ++ ⟨some d, .call { callee := .value (.tmp t), args := #[.tmp u], argTypes := ats }, ty, pos, after, none⟩ :: post := by
    have hlt := (List.getElem?_eq_some_iff.1 hop).1
    rw [hpre, hpost, ← (List.getElem?_eq_some_iff.1 hop).2, ← List.drop_eq_getElem_cons hlt, List.take_append_drop]
  rw [← hpre] at hrun1
  rw [← hpost] at hrun2
  have hsz : ops.size = pre.length + (1 + post.length) := by rw [← Array.length_toList, hops]; simp; omega
  have hrange : List.range ops.size = List.range' 0 pre.length ++ (pre.length :: (List.range' (pre.length + 1) post.length ++ [])) := by
    rw [hsz, List.range_eq_range', List.append_nil, ← List.range'_append_1, Nat.zero_add, Nat.add_comm 1, List.range'_succ]
  have hget : ∀ (k : Nat) (o : Oper), (pre ++ ⟨some d, .call { callee := .value (.tmp t), args := #[.tmp u], argTypes := ats }, ty, pos, after, none⟩ :: post)[k]? = some o → ops[k]? = some o := fun k o hk => by
    rw [← hops] at hk; simpa using hk
  rw [hrange]
  refine runOps_more (q := (S1, ob1)) hT hK (c := ICtx W m N l) rfl (fun k o hk => ?_) hrun1 hob1 hc fun φ1 m1 a1 W1 c1 d1 => ?_
  · rw [Nat.zero_add]
    exact hget k o (by rw [List.getElem?_append_left (List.getElem?_eq_some_iff.1 hk).1]; exact hk)
  obtain ⟨b1, b2, b3⟩ := c1.ibelow
  have hg1 := hG.stable i m W m1 W1 hg b1 c1.m0 b2 b3
  obtain ⟨Vy, y1, y2⟩ := c1.env t _ (fn_t ht)
  obtain ⟨bb, CC, ee, y3, rfl⟩ := y2
  have hl0 : φ1 0 = some (.blk l 0 0) := c1.ext 0 _ (by simp [ICtx])
  rw [hl0] at y3
  injection y3 with y3
  injection y3 with y3 _ _
  subst y3
  obtain ⟨V, v1, v2⟩ := c1.env u _ (fn_t hu)
  obtain ⟨fn, tmps, assign, body, hy, hround⟩ := hY i x V m1 W1 hx v2 hg1
  rw [wpOpsIn_cons]
  have hop2 := hget pre.length _ (by rw [List.getElem?_append_right (Nat.le_refl _), Nat.sub_self]; rfl)
  unfold wpOpIn
  rw [hop2]
  have hw : Region.wanted (⟨some d, .call { callee := .value (.tmp t), args := #[.tmp u], argTypes := ats }, ty, pos, after, none⟩ : Oper) (yielded ops a1.tmps) = true := by simp [Region.wanted]
  simp only [hw, if_true]
  refine ⟨fun _ _ => trivial, ?_⟩
  have et : a1.eval (.tmp t) = .func (.yield l) #[] #[] := by simp [Act.eval, y1]
  have eu : a1.eval (.tmp u) = V := by simp [Act.eval, v1]
  have hsem : (Oper.semAt (wideR none).round a1.eval (⟨some d, .call { callee := .value (.tmp t), args := #[.tmp u], argTypes := ats }, ty, pos, after, none⟩ : Oper)).run P W1 = .ok (.round l fn tmps assign body) W1 := by
    rw [Oper.semAt_eq _ _ _ (fun d hd => by cases hd)]
    simp [execOp, resolve, et, eu, Deferred.ofValue, invoke, hy]
  rw [hsem, Oper.uponIn_round]
  refine ⟨fun hx => by simp [wideR, Fence.wide] at hx, ?_⟩
  have hmono : ∀ (R R' : Ending → World → Prop), (∀ e w, R e w → R' e w) → RoundIn (wideR none) (n - 1) P l fn tmps assign body W1 R → RoundIn (wideR none) (n - 1) P l fn tmps assign body W1 R' := by
    intro R R' hRR hr
    refine ⟨hr.1, fun c cs h => ?_⟩
    obtain ⟨e, w, h1, h2⟩ := hr.2 c cs h
    exact ⟨e, w, hRR _ _ h1, h2⟩
  refine hmono _ _ ?_ hround
  rintro e W2 ⟨rfl, m2, hm2, hg2⟩
  have hin := hG.mem _ _ _ hg2
  have c2 := (c1.iroot hn1.fn hm2 hin).put (d := d) (val := .one (dv (.bool true))) (V := .bool true) hd (by simp [AVal.rel, AV.rel, Sc.rel, D.rel])
  refine runOps_more (q := (S2, ob2)) (S := ⟨(d, .one (dv (.bool true))) :: S1.env, S1.heap, S1.nxt⟩) hT hK (c := ICtx W2 m2 N l) rfl (fun k o hk => ?_) hrun2 hob2 (c2.weaken (fun k => .inr ?_)) fun φ3 m3 a3 W3 c3 d3 => ?_
  · refine hget _ o ?_
    rw [List.getElem?_append_right (by omega), show pre.length + 1 + k - pre.length = k + 1 by omega, List.getElem?_cons_succ]
    exact hk
  · cases k with
    | t j =>
      simp only [St.fn, lookN, upd]
      by_cases e : j = d
      · subst e; simp
      · rw [if_neg (fun x => e x.symm)]; simp [e]
    | h j => simp [upd]; rfl
  · obtain ⟨f1, f2, f3⟩ := c3.ibelow
    exact ⟨φ3, m3, i + 1, S2, c3.iroot hn2.fn (MemLe.refl _) f2, hn2, hG.stable (i + 1) m2 W2 m3 W3 hg2 f1 c3.m0 f2 f3, by rw [d3]; exact d1.trans hdf, hq⟩

/-- **AN ITERATOR, ITS BODY WALKED.** -/
theorem iter_ok {gf : Nat} {fn : Func} {code : Code} {caps xs : List D} (hf : P.funcs[gf]? = some fn) (hb : fn.body = some code) (hname : (fn.name == "runtime.NumGoroutine") = false) (hn : 1 + caps.length ≤ fn.ntmps) (hres : fn.results = #[])
    (hw : ∀ (n l : Nat) (G : Nat → Mem → World → Prop), GOk G → YieldsTo P n l xs G → AWpG P n fn.ntmps l G code 0 ⟨(0, .one (.s (.yield 0))) :: (caps.zipIdx 1).map (fun p => (p.2, .one (dv p.1))), [], 1⟩ fun e i S => (e = .normal ∨ e = .ret) ∧ i = xs.length) : IterOk P gf caps xs := by
  refine ⟨fun args w => Go.MuLone.run_callFunc_enter hf hname hb _ w, fun n l m vs W G hG hcaps hY hg => ?_⟩
  have hmem := hG.mem _ _ _ hg
  have hvl : ∀ (ds : List D) (us : List Value), D.relVals m ds us → us.length = ds.length ∧ ∀ (j : Nat) (d : D), ds[j]? = some d → ∃ v, us[j]? = some v ∧ d.rel m v := by
    intro ds
    induction ds with
    | nil => intro us h; unfold D.relVals at h; subst h; exact ⟨rfl, fun j d hj => by simp at hj⟩
    | cons d ds ih =>
      intro us h
      unfold D.relVals at h
      obtain ⟨v, r, rfl, h1, h2⟩ := h
      obtain ⟨q1, q2⟩ := ih r h2
      refine ⟨by simp [q1], fun j d' hj => ?_⟩
      cases j with
      | zero => simp at hj; subst hj; exact ⟨v, rfl, h1⟩
      | succ j => simpa using q2 j d' (by simpa using hj)
  obtain ⟨hvl1, hvl2⟩ := hvl caps vs hcaps
  refine callsIn_of_wp hf hb trivial ?_ rfl
  have hstart : RelC (ICtx W m fn.ntmps l) (ICtx W m fn.ntmps l).φ0 m (St.fn ⟨(0, .one (.s (.yield 0))) :: (caps.zipIdx 1).map (fun p => (p.2, .one (dv p.1))), [], 1⟩) { tmps := (#[.func (.yield l) #[] #[]] ++ vs.toArray) ++ Array.replicate (fn.ntmps - (#[(.func (.yield l) #[] #[] : Value)] ++ vs.toArray).size) undef, defers := [] } W :=
    { os := rfl, out := rfl, tape := rfl, size := Nat.le_refl _, frame := fun _ _ _ => rfl, mem := hmem, m0 := MemLe.refl _, mnew := fun _ _ x => .inl x, ext := NamesLe.refl _
      obj := fun i o hi => absurd hi (noObj.fn (S := ⟨_, [], 1⟩) rfl i o), own := fun i o b C e hi => absurd hi (noObj.fn (S := ⟨_, [], 1⟩) rfl i o), inj := fun i j o o' b C e C' e' hi => absurd hi (noObj.fn (S := ⟨_, [], 1⟩) rfl i o)
      free := fun i hi => by
        simp only [St.fn, lookN] at hi
        split at hi
        · simp only [ICtx]; rw [if_neg (by omega)]
        · cases hi
      env := fun t v ht => by
        simp only [St.fn] at ht
        cases hl : lookN t ((0, AVal.one (.s (.yield 0))) :: (caps.zipIdx 1).map (fun p => (p.2, AVal.one (dv p.1)))) with
        | none => rw [hl] at ht; cases ht
        | some v' =>
          rw [hl] at ht
          simp only [Ent.v.injEq] at ht
          subst ht
          rcases List.mem_cons.1 (lookN_mem hl) with h1 | h1
          · injection h1 with h1 h2
            subst h1 h2
            exact ⟨.func (.yield l) #[] #[], by rw [Array.getElem?_append_left (by simp), Array.getElem?_append_left (by simp)]; rfl, l, 0, 0, by simp [ICtx], rfl⟩
          · obtain ⟨⟨d, j⟩, hd, he⟩ := List.mem_map.1 h1
            injection he with he1 he2
            subst he1 he2
            have hj := List.mem_zipIdx hd
            obtain ⟨v, w1, w2⟩ := hvl2 (j - 1) d (by rw [hj.2.2]; exact List.getElem?_eq_getElem _)
            refine ⟨v, ?_, w2⟩
            have hlt := (List.getElem?_eq_some_iff.1 w1).1
            rw [Array.getElem?_append_left (by simp; omega), Array.getElem?_append_right (by simp; omega)]
            simpa using w1
      nt := by simp [ICtx]; omega }
  refine wpIn_mono (hw n l G hG hY _ _ _ _ hstart rfl hg rfl) ?_
  rintro e a' W' ⟨φ', m', i', S', c', n', g', d', he, rfl⟩
  have hr : (results fn a'.tmps).run P W' = .ok (.tuple #[]) W' := by
    rw [results_eq, hres]
    simp
  rcases he with rfl | rfl
  · exact ⟨d', _, hr, ⟨_, rfl⟩, m', g'⟩
  · exact ⟨d', _, hr, ⟨_, rfl⟩, m', g'⟩

end
end Go.Proofs.Hg
