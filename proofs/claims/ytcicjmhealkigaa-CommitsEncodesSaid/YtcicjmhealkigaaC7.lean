/- A nil slice in a cell becomes a row of its own. -/
import Derived.Test.YtcicjmhealkigaaC6
set_option linter.unusedVariables false
set_option linter.unusedSimpArgs false
namespace Go.Proofs.Hg
open Go.RowKit

section
variable {N h : Nat} {S S' : St}

theorem lookN_cons_ne {α : Type} {i n : Nat} {v : α} {l : List (Nat × α)} (hn : n ≠ i) : lookN n ((i, v) :: l) = lookN n l := by
  simp only [lookN]
  rw [if_neg (fun e => hn e.symm)]

/-- The nil slice in the k-th cell of the object i becomes a row. -/
def St.nilCell (S : St) (i k e : Nat) (vs : List Sc) (ty ety : TypeId) : St := ⟨S.env, (S.nxt, .row [] ety) :: (i, .cells (vs.set k (.row S.nxt e 0 0 none)) ty) :: eraseN i S.heap, S.nxt + 1⟩

theorem Conv.nilCell (i k : Nat) {e e0 : Nat} {vs : List Sc} {ty ety : TypeId} (hi : lookN i S.heap = some (.cells vs ty)) (hlt : i < S.nxt) (hn : lookN S.nxt S.heap = none) (hk : vs[k]? = some (.d (.slice (some true) e0 []))) :
    Conv N h S (S.nilCell i k e vs ty ety) := by
  intro c φ m a W _ _ hc
  have hfree : S.fn (.h S.nxt) = .free := by simp [St.fn, hn]
  have h1 := hc.allocNil hfree (ty := ety)
  have hφ := hc.free _ hfree
  have hle : NamesLe φ (updN φ S.nxt .nil) := updN_le _ hφ
  have hne : i ≠ S.nxt := by omega
  have hcell : (AObj.cells (vs.set k (.row S.nxt e 0 0 none)) ty).rel (updN φ S.nxt .nil) m W i := by
    obtain ⟨b, C, e', cs, fr, q1, q2, q3, q4⟩ := hc.obj i _ (fn_h hi)
    refine ⟨b, C, e', cs, fr, hle _ _ q1, q2, q3, ?_⟩
    have q5 := relAll_le hle (MemLe.refl m) q4
    refine ⟨by simpa using q5.1, fun j x hj => ?_⟩
    rw [List.getElem?_set] at hj
    split at hj
    · rename_i e1
      subst e1
      split at hj
      · injection hj with hj
        subst hj
        obtain ⟨v, r1, r2⟩ := q4.2 k _ hk
        refine ⟨v, r1, ?_⟩
        simp only [Sc.rel, D.rel] at r2
        rcases r2 with ⟨_, _, rfl⟩ | ⟨hz, _⟩
        · exact .inl ⟨updN_self _ _ _, rfl, rfl, rfl, rfl⟩
        · exact absurd rfl hz
      · cases hj
    · exact q5.2 j x hj
  refine ⟨updN φ S.nxt .nil, m, ?_⟩
  have hget : ∀ n o, (S.nilCell i k e vs ty ety).fn (.h n) = .o o → (n = i ∧ o = .cells (vs.set k (.row S.nxt e 0 0 none)) ty) ∨ (n ≠ i ∧ upd S.fn (.h S.nxt) (.o (.row [] ety)) (.h n) = .o o) := by
    intro n o hno
    simp only [St.fn, St.nilCell] at hno
    by_cases e1 : n = i
    · subst e1
      left
      rw [lookN_cons_ne (by omega)] at hno
      simp only [lookN, if_true, Ent.o.injEq] at hno
      exact ⟨rfl, hno.symm⟩
    · right
      refine ⟨e1, ?_⟩
      by_cases e2 : n = S.nxt
      · subst e2
        rw [upd_self]
        simpa [lookN] using hno
      · rw [upd_other (by simpa using e2)]
        rw [lookN_cons_ne e2, lookN_cons_ne e1, lookN_erase, if_neg e1] at hno
        simp only [St.fn]
        cases hl : lookN n S.heap with
        | some o' => rw [hl] at hno; exact hno
        | none =>
          rw [hl] at hno
          by_cases hx : S.nxt + 1 ≤ n
          · simp [hx] at hno
          · simp [hx] at hno
  refine { os := h1.os, out := h1.out, tape := h1.tape, size := h1.size, frame := h1.frame, mem := h1.mem, m0 := h1.m0, mnew := h1.mnew, ext := h1.ext, obj := ?_, own := ?_, inj := ?_, free := ?_, env := ?_, nt := h1.nt }
  · intro n o hno
    rcases hget n o hno with ⟨rfl, rfl⟩ | ⟨_, h2⟩
    · exact hcell
    · exact h1.obj n o h2
  · intro n o b C e' hno hb
    rcases hget n o hno with ⟨rfl, rfl⟩ | ⟨_, h2⟩
    · exact h1.own n (.cells vs ty) b C e' (by rw [upd_other (by simpa using hne)]; exact fn_h hi) hb
    · exact h1.own n o b C e' h2 hb
  · intro x y o1 o2 b C e1 C' e2 hx hy bx by_
    have key : ∀ n o, (S.nilCell i k e vs ty ety).fn (.h n) = .o o → ∃ o', upd S.fn (.h S.nxt) (.o (.row [] ety)) (.h n) = .o o' := by
      intro n o hno
      rcases hget n o hno with ⟨rfl, rfl⟩ | ⟨_, h2⟩
      · exact ⟨_, by rw [upd_other (by simpa using hne)]; exact fn_h hi⟩
      · exact ⟨o, h2⟩
    obtain ⟨p1, hp1⟩ := key x o1 hx
    obtain ⟨p2, hp2⟩ := key y o2 hy
    exact h1.inj x y p1 p2 b C e1 C' e2 hp1 hp2 bx by_
  · intro n hno
    simp only [St.fn, St.nilCell] at hno
    by_cases e1 : n = S.nxt
    · subst e1; simp [lookN] at hno
    · by_cases e2 : n = i
      · subst e2; rw [lookN_cons_ne e1] at hno; simp [lookN] at hno
      · rw [lookN_cons_ne e1, lookN_cons_ne e2, lookN_erase, if_neg e2] at hno
        refine h1.free n ?_
        rw [upd_other (by simpa using e1)]
        simp only [St.fn]
        cases hl : lookN n S.heap with
        | some o' => rw [hl] at hno; cases hno
        | none =>
          rw [hl] at hno
          by_cases hx : S.nxt + 1 ≤ n
          · have hy : S.nxt ≤ n := by omega
            simp [hy]
          · simp [hx] at hno
  · intro t v hv
    exact h1.env t v (by rw [upd_other (by simp)]; exact hv)
end

attribute [go_sem] evToStr ne_eq St.nilCell
end Go.Proofs.Hg
