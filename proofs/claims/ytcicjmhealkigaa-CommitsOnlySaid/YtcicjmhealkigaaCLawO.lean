/- headgatelaw20.CommitsOnly returns true at every input, and its arguments read as they did. -/
import Derived.Test.YtcicjmhealkigaaRows
import Derived.ProofKit
import Derived.OpenShut
import Derived.Below
import Derived.SizedLaws
import Derived.Carry
import Derived.Test.YtcicjmhealkigaaM3
import Derived.Test.YtcicjmhealkigaaM8
set_option linter.unusedVariables false
set_option linter.unusedSimpArgs false
namespace Go.Proofs.Ytcicjmhealkigaa
open Go.ChangeShapes Go.WideShapes Go.ChangeAt Go.RowKit
open Go.Proofs.Hg

theorem own : ownKnob Try.prog.godebug = none := by kernel_rfl
theorem laidOut : laidOutB Try.prog = true := by kernel_rfl

theorem law_walk {H : Type} {enc : TypeId × Value → H} {W : World} {base b0 : Nat} {s0 : Nat → Bool} {r0 : Bool} {v0 : Value} {d0 : DataW H} {p0 : List MemPlace} (hv0 : Value.okWide Try.prog W .any base 27 v0)
    (h0 : DataW.Trod enc Try.prog W b0 s0 r0 27 v0 d0 p0) : Calls Try.prog 6 #[v0] W fun e W' => e = .returned (.bool true) ∧ Below W.heap.size W W' := by
  have hT0 : tyOf Try.prog 6 27 = some (.slice (.slice (.int .u8))) := by kernel_rfl
  obtain ⟨x0, a0, q0⟩ := arg_s (by have := okWide_slice Try.underlying27 hv0; revert this; rintro ⟨_, _, _, rfl⟩; rfl) hT0 h0 rfl
  simp only [Ty.has, Ty.hasL] at a0
  obtain ⟨z, es, hx, _, hes⟩ := a0
  injection hx with hx _
  subst hx
  refine law_calls (F := onlyF) (vals := [v0]) onlyF_ok (args := [.s (.d (.slice z 1 es))]) rfl ⟨rfl, has_rows (fun r hr => by simp only [Ty.has, Ty.hasL]; exact hes r hr)⟩ rfl ?_
  intro j x hj
  match j with
  | 0 => simp at hj; subst hj; exact ⟨v0, rfl, q0⟩
  | j + 1 => simp at hj

set_option maxRecDepth 100000 in
theorem law_lifted (os : Os) (started : os.Started) (H : Type) (enc : TypeId × Value → H) :
    ReturnsInHanded {} Try.checked os 6 .any (Rows.commitsOnlySpec.pre6 enc Try.prog Try.f6 Rows.commitsOnlyRow.domain false) (Rows.commitsOnlySpec.post enc Try.prog Try.f6 false true false false) := by
  refine returnsInHanded_of_change_sized (C := Try.checked) own started (by kernel_rfl) Try.func6
    (ChangeSpec.witness6 (enc := enc) (C := Try.checked) false ⟨#[], #[.slice none 0 0], []⟩ 8 (by kernel_rfl) (by kernel_rfl) (by kernel_rfl) (by kernel_rfl)) ?_
  intro W base args ds gs before hval0 hW hcnd hsz0 _
  have hval : ∀ (j : Nat) t v, Try.f6.params[j]? = some t → args[j]? = some v → Value.okWide Try.prog W .any base t v := hval0
  have hW' := hW
  obtain ⟨p, q, hA0, hV, rfl, hfz, hnd⟩ := hW
  have hA : DataW.TrodAll enc Try.prog W 0 (fun _ => true) true Try.f6.params.toList args.toList ds p := hA0
  rw [Try.params6] at hA hval
  obtain ⟨v0, vs0, d0, ds0, p0, q0, hargs, rfl, rfl, h0, r0⟩ := trodAll_cons hA
  obtain ⟨rfl, rfl, rfl⟩ := trodAll_nil r0
  obtain rfl : args = #[v0] := by cases args; simp_all
  obtain ⟨rfl, rfl⟩ := trodVars_none hV
  have k0 := h0
  have lt0 : ∀ x ∈ p0, x.block < W.heap.size := by obtain ⟨m, hm⟩ := k0; exact DataW.trod_lt m _ _ _ hm
  refine (law_walk (hval 0 27 v0 rfl rfl) h0).mono fun e W' ⟨he, bel⟩ => ?_
  subst he
  exact ⟨_, rfl, _, _, _, [], _, [], hW', trodAll_mk1 (shut_bool Try.underlying4 _), (trodAll_cons_mk (Below.trod laidOut (by kernel_rfl) (of_decide_eq_true (by kernel_rfl)) k0 bel lt0) trodAll_mk0), rfl, bel.frame _, fun h => by cases h⟩

theorem commitsOnly_holds : Rows.CommitsOnlySaid :=
  OpenClaim.holds_of_wide 6 Try.f6 rfl rfl rfl rfl rfl rfl rfl ⟨rfl, rfl, rfl, rfl, rfl⟩ rfl rfl rfl rfl rfl (by kernel_rfl) Try.func6 (by kernel_rfl)
    (of_decide_eq_true (by kernel_rfl)) (by unfold Func.isWrapper; first | (rw [if_pos (by decide +kernel)]; kernel_rfl) | (rw [if_neg (by decide +kernel)]; exact ⟨rfl, rfl⟩))
    (fun os started H enc _ => law_lifted os started H enc)
end Go.Proofs.Ytcicjmhealkigaa
