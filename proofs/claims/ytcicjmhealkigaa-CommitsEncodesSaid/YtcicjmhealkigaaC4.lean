/- The evaluation of the abstract machine, as rewriting. -/
import Derived.Test.YtcicjmhealkigaaC3
import Derived.Attr
set_option linter.unusedVariables false
namespace Go.Proofs.Hg
open Go.RowKit



def St.keepT (ts : List Nat) (S : St) : St := ⟨keepE ts S.env, S.heap, S.nxt⟩

section
variable {P : Program} {N h : Nat} {S S1 S' : St} {Q : Exit → St → Prop}

theorem Conv.keepT (ts : List Nat) (hk : S.keepT ts = S') : Conv N h S S' := by
  subst hk
  refine Conv.weaken fun k => ?_
  cases k with
  | t n =>
    simp only [St.fn, St.keepT, lookN_keepE]
    by_cases hn : n ∈ ts
    · simp [hn]
    · simp [hn]
  | h n => exact .inr rfl

/-- A region in the text's order; then what is kept of it. -/
theorem AWp.reg {T : Tab} (hT : TabOk P T) {K : Know} (hK : KnowOk P K) (hm : P.follows .mixedOrders = true) (ts : List Nat) {id : Nat} {ops : Array Oper} {ob : Prop}
    (hrun : runS T K N (gdOf ops) ops.toList S = some (S1, ob)) (hob : ob) (hk : S1.keepT ts = S') (hw : Q .normal S') : AWp P N h (.region id ops false) S Q :=
  (AWp.region (Q := fun e S => e = .normal ∧ S = S1) hT hK hm hrun hob ⟨rfl, rfl⟩).mono fun e S hs => ⟨S', hs.2 ▸ Conv.keepT ts hk, hs.1 ▸ hw⟩

/-- A region in any order; then what is kept of it. -/
theorem AWp.drw {T : Tab} (hT : TabOk P T) {K : Know} (hK : KnowOk P K) (hm : P.follows .mixedOrders = true) (ts : List Nat) {id : Nat} {ops : Array Oper} {lts : List LT} {ob : Prop}
    (hrun : runOps T K N (gdOf ops) ops.toList S = some (lts, S1, ob)) (hord : (edgesOk ops && orderOk ops lts) = true) (hob : ob) (hk : S1.keepT ts = S') (hw : Q .normal S') : AWp P N h (.region id ops true) S Q :=
  (AWp.draws (Q := fun e S => e = .normal ∧ S = S1) hT hK hm hrun hord hob ⟨rfl, rfl⟩).mono fun e S hs => ⟨S', hs.2 ▸ Conv.keepT ts hk, hs.1 ▸ hw⟩

theorem AWp.convE {code : Code} (hv : Conv N h S S') (hw : AWp P N h code S' Q) : AWp P N h code S Q := AWp.conv hv hw

theorem thenA_exit {n : St → Prop} {i : Nat} (hq : Q (.exit i) S) : thenA n Q (.exit i) S := hq
theorem inB_eq {id : Nat} (hq : Q .normal S) : inBlockA id Q (.exit id) S := by simpa [inBlockA] using hq
theorem inB_ne {id i : Nat} (hi : (i == id) = false) (hq : Q (.exit i) S) : inBlockA id Q (.exit i) S := by
  have : ¬ i = id := by simpa using hi
  simpa [inBlockA, this] using hq

/-- The end of a function of values alone. -/
theorem ends_p {T : Tab} (hT : TabOk P T) {fn : Func} {val : AVal} {e : Exit} {vs vs' : List AV} {ks : List (Nat × AObj)} {ob ob2 : Prop} (he : e = .normal ∨ e = .ret) (hr : evRes T S fn.results.toList = some (vs, ob)) (ho : ob)
    (hf : frzVs S.H vs = some (vs', ks, ob2)) (ho2 : ob2) (hn : (ks.map (·.1)).Nodup) (hk : ∀ p ∈ ks, lookN p.1 S.heap = some p.2 ∧ p.1 < S.nxt) (hv : val = pack vs') : EndsP P fn val e S := by
  subst hv
  exact ⟨he, _, EndsTo.freeze (EndsTo.read hT hr ho) hf ho2 hn hk⟩

end

attribute [go_sem] runOps stepOp dstPost wrPost preOf opndsOf freeIf guardPre runS stepS guardOf evOp evBuiltin evCall arg1 arg2
  argO argL arg St.opnd St.H lookN use withOb
  ofVal under obUnder nxtIf wrHeap eraseN isStore evBox
  evAlloc evLoad evStore evFieldAddr evIndexAddr evField evIndex evBuild
  fillL stPlace splL evBinOp evBinD evBin evInt evShift
  evStr evUn evLen evConvert cvt evPick asB evExtract
  valRes pureRes evUns evUnsBack evMakeSlice evSliceData evUStr eqK scD eqFs Option.any evSlice bndI cutL loN hiN capOf
  cutOb evBuildSlice frzL frz kills killW chunksD evAppend
  srcOf srcSz viewOf elemSz evAppRow srcK TK.agg AV.cells
  Sc.nojunk evMakeFunc capsOf wrapK wrapOb gdOf Option.bind Option.map
  Option.all Option.isSome Option.getD_some Option.getD_none Option.bind_some Option.map_some Array.toList List.all_cons
  List.all_nil List.any_cons List.any_nil List.map_cons List.map_nil List.append_nil List.nil_append List.cons_append
  List.filterMap_cons List.filterMap_nil List.flatMap_cons List.flatMap_nil List.zip_cons_cons List.zip_nil_left List.drop_zero List.drop_succ_cons
  List.take_succ_cons List.take_zero List.take_nil List.drop_nil List.getD_cons_zero List.getD_cons_succ List.getD_nil List.getElem?_cons_zero
  List.getElem?_cons_succ List.length_cons List.length_nil List.set_cons_zero List.set_cons_succ List.forall_mem_cons  List.not_mem_nil
  List.getElem?_toArray List.isEmpty_nil Array.isEmpty List.size_toArray List.headD_cons List.nodup_nil List.nodup_cons List.range_succ
  List.range_zero decide_true decide_false Bool.not_true Bool.not_false Bool.or_false Bool.false_or Bool.true_or
  Bool.or_true Bool.and_true Bool.true_and Bool.and_false Bool.false_and cond_true cond_false Bool.false_eq_true
  and_true true_and implies_true false_implies true_implies Nat.zero_add Nat.add_zero
  Nat.mul_zero Nat.zero_mul Nat.succ_ne_self BEq.rfl beq_self_eq_true
  imp_self Bool.cond_false_right Bool.cond_true_left Bool.cond_false_left Bool.cond_true_right eq_self List.length_append List.length_map pack evRes cellVal frzVs frzAV pureK envOf List.zipIdx_cons List.zipIdx_nil knowL thenA inBlockA not_false_eq_true not_true_eq_false St.keep keepE St.keepT eraseL List.foldr_cons List.foldr_nil
end Go.Proofs.Hg
