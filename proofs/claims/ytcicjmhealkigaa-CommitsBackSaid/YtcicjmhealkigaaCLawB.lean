/- headgatelaw20.CommitsBack returns true at every input, and its arguments read as they did. -/
import Derived.Test.YtcicjmhealkigaaRows
import Derived.ProofKit
import Derived.OpenShut
import Derived.Below
import Derived.SizedLaws
import Derived.Carry
import Derived.Test.YtcicjmhealkigaaM3
import Derived.Test.YtcicjmhealkigaaM8
set_option linter.unusedVariables false
set_option linter.unusedSimpArgs false
namespace Go.Proofs.Ytcicjmhealkigaa
open Go.ChangeShapes Go.WideShapes Go.ChangeAt Go.RowKit
open Go.Proofs.Hg

theorem own : ownKnob Try.prog.godebug = none := by kernel_rfl
theorem laidOut : laidOutB Try.prog = true := by kernel_rfl

theorem law_walk {H : Type} {enc : TypeId × Value → H} {W : World} {base b0 b1 b2 : Nat} {s0 s1 s2 : Nat → Bool} {r0 r1 r2 : Bool} {v0 v1 v2 : Value} {d0 d1 d2 : DataW H} {p0 p1 p2 : List MemPlace} (hv0 : Value.okWide Try.prog W .any base 3 v0) (hv1 : Value.okWide Try.prog W .any base 22 v1) (hv2 : Value.okWide Try.prog W .any base 27 v2)
    (h0 : DataW.Trod enc Try.prog W b0 s0 r0 3 v0 d0 p0) (h1 : DataW.Trod enc Try.prog W b1 s1 r1 22 v1 d1 p1) (h2 : DataW.Trod enc Try.prog W b2 s2 r2 27 v2 d2 p2) : Calls Try.prog 5 #[v0, v1, v2] W fun e W' => e = .returned (.bool true) ∧ Below W.heap.size W W' := by
  have hT0 : tyOf Try.prog 6 3 = some (.int .i64) := by kernel_rfl
  obtain ⟨x0, a0, q0⟩ := arg_s (by have := okWide_int Try.underlying3 hv0; revert this; rintro ⟨_, rfl⟩; rfl) hT0 h0 rfl
  simp only [Ty.has, Ty.hasL] at a0
  obtain ⟨n, hn, _⟩ := a0
  injection hn with hn _
  subst hn
  have hT1 : tyOf Try.prog 6 22 = some (.slice (.struct [.str, .int .i64, .str, .int .i64])) := by kernel_rfl
  obtain ⟨x1, a1, q1⟩ := arg_s (by have := okWide_slice Try.underlying22 hv1; revert this; rintro ⟨_, _, _, rfl⟩; rfl) hT1 h1 rfl
  simp only [Ty.has, Ty.hasL] at a1
  obtain ⟨z, es, hx, _, hes1⟩ := a1
  injection hx with hx _
  subst hx
  have hT2 : tyOf Try.prog 6 27 = some (.slice (.slice (.int .u8))) := by kernel_rfl
  obtain ⟨x2, a2, q2⟩ := arg_s (by have := okWide_slice Try.underlying27 hv2; revert this; rintro ⟨_, _, _, rfl⟩; rfl) hT2 h2 rfl
  simp only [Ty.has, Ty.hasL] at a2
  obtain ⟨z2, fs, hx2, _, hes2⟩ := a2
  injection hx2 with hx2 _
  subst hx2
  refine law_calls (F := backF) (vals := [v0, v1, v2]) backF_ok (args := [.s (.d (.int .i64 n)), .s (.d (.slice z 4 es)), .s (.d (.slice z2 1 fs))]) rfl ⟨rfl, has_bigs (fun r hr => by simp only [Ty.has, Ty.hasL]; exact hes1 r hr), rfl, has_rows (fun r hr => by simp only [Ty.has, Ty.hasL]; exact hes2 r hr)⟩ rfl ?_
  intro j x hj
  match j with
  | 0 => simp at hj; subst hj; exact ⟨v0, rfl, q0⟩
  | 1 => simp at hj; subst hj; exact ⟨v1, rfl, q1⟩
  | 2 => simp at hj; subst hj; exact ⟨v2, rfl, q2⟩
  | j + 3 => simp at hj

set_option maxRecDepth 100000 in
theorem law_lifted (os : Os) (started : os.Started) (H : Type) (enc : TypeId × Value → H) :
    ReturnsInHanded {} Try.checked os 5 .any (Rows.commitsBackSpec.pre6 enc Try.prog Try.f5 Rows.commitsBackRow.domain false) (Rows.commitsBackSpec.post enc Try.prog Try.f5 false true false false) := by
  refine returnsInHanded_of_change_sized (C := Try.checked) own started (by kernel_rfl) Try.func5
    (ChangeSpec.witness6 (enc := enc) (C := Try.checked) false ⟨#[], #[.int .i64 0, .slice none 0 0, .slice none 0 0], []⟩ 8 (by kernel_rfl) (by kernel_rfl) (by kernel_rfl) (by kernel_rfl)) ?_
  intro W base args ds gs before hval0 hW hcnd hsz0 _
  have hval : ∀ (j : Nat) t v, Try.f5.params[j]? = some t → args[j]? = some v → Value.okWide Try.prog W .any base t v := hval0
  have hW' := hW
  obtain ⟨p, q, hA0, hV, rfl, hfz, hnd⟩ := hW
  have hA : DataW.TrodAll enc Try.prog W 0 (fun _ => true) true Try.f5.params.toList args.toList ds p := hA0
  rw [Try.params5] at hA hval
  obtain ⟨v0, vs0, d0, ds0, p0, q0, hargs, rfl, rfl, h0, r0⟩ := trodAll_cons hA
  obtain ⟨v1, vs1, d1, ds1, p1, q1, rfl, rfl, rfl, h1, r1⟩ := trodAll_cons r0
  obtain ⟨v2, vs2, d2, ds2, p2, q2, rfl, rfl, rfl, h2, r2⟩ := trodAll_cons r1
  obtain ⟨rfl, rfl, rfl⟩ := trodAll_nil r2
  obtain rfl : args = #[v0, v1, v2] := by cases args; simp_all
  obtain ⟨rfl, rfl⟩ := trodVars_none hV
  have k0 := h0
  have lt0 : ∀ x ∈ p0, x.block < W.heap.size := by obtain ⟨m, hm⟩ := k0; exact DataW.trod_lt m _ _ _ hm
  have k1 := h1
  have lt1 : ∀ x ∈ p1, x.block < W.heap.size := by obtain ⟨m, hm⟩ := k1; exact DataW.trod_lt m _ _ _ hm
  have k2 := h2
  have lt2 : ∀ x ∈ p2, x.block < W.heap.size := by obtain ⟨m, hm⟩ := k2; exact DataW.trod_lt m _ _ _ hm
  refine (law_walk (hval 0 3 v0 rfl rfl) (hval 1 22 v1 rfl rfl) (hval 2 27 v2 rfl rfl) h0 h1 h2).mono fun e W' ⟨he, bel⟩ => ?_
  subst he
  exact ⟨_, rfl, _, _, _, [], _, [], hW', trodAll_mk1 (shut_bool Try.underlying4 _), (trodAll_cons_mk (Below.trod laidOut (by kernel_rfl) (of_decide_eq_true (by kernel_rfl)) k0 bel lt0) (trodAll_cons_mk (Below.trod laidOut (by kernel_rfl) (of_decide_eq_true (by kernel_rfl)) k1 bel lt1) (trodAll_cons_mk (Below.trod laidOut (by kernel_rfl) (of_decide_eq_true (by kernel_rfl)) k2 bel lt2) trodAll_mk0))), rfl, bel.frame _, fun h => by cases h⟩

theorem commitsBack_holds : Rows.CommitsBackSaid :=
  OpenClaim.holds_of_wide 5 Try.f5 rfl rfl rfl rfl rfl rfl rfl ⟨rfl, rfl, rfl, rfl, rfl⟩ rfl rfl rfl rfl rfl (by kernel_rfl) Try.func5 (by kernel_rfl)
    (of_decide_eq_true (by kernel_rfl)) (by unfold Func.isWrapper; first | (rw [if_pos (by decide +kernel)]; kernel_rfl) | (rw [if_neg (by decide +kernel)]; exact ⟨rfl, rfl⟩))
    (fun os started H enc _ => law_lifted os started H enc)
end Go.Proofs.Ytcicjmhealkigaa
