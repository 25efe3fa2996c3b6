/- A function of values, called with rows that nobody will write any more. -/
import Derived.Test.YtcicjmhealkigaaC7
set_option linter.unusedVariables false
set_option linter.unusedSimpArgs false
namespace Go.Proofs.Hg
open Go.RowKit

/-- Rows among the arguments become values first. -/
def viewK (F : List AV → Option (AVal × Prop)) : Cont := fun _ H args => match frzVs H args with
  | some p => (F p.1).map fun q => ⟨q.1, p.2.1, false, killW p.2.1, p.2.2 ∧ (p.2.1.map (·.1)).Nodup ∧ q.2⟩
  | none => none

theorem frzAV_len {H : Heap} : ∀ {l : List AV} {q : List AV × List (Nat × AObj) × Prop}, frzVs H l = some q → q.1.length = l.length
  | [], q, h => by simp only [frzVs, Option.some.injEq] at h; subst h; rfl
  | x :: r, q, h => by
    simp only [frzVs] at h
    split at h
    · rename_i p q2 h1 h2
      simp only [Option.some.injEq] at h
      subst h
      simp [frzAV_len h2]
    · cases h

theorem viewK_ok {P : Program} {g : Nat} {F : List AV → Option (AVal × Prop)} (hk : ContOk P g (pureK F)) : ContOk P g (viewK F) := by
  intro fresh H args r hr hob c φ m f a W vals hrd hc hl hv
  unfold viewK at hr
  split at hr
  · rename_i p hp
    simp only [Option.map_eq_some_iff] at hr
    obtain ⟨q, hq, rfl⟩ := hr
    obtain ⟨o1, o2, o3⟩ := hob
    obtain ⟨m1, c1, l1, e1, r1⟩ := frzVs_ok args vals p m hp o1 (fun z hz => hrd.1 z hz) o2 hl hv hc
    obtain ⟨g1, g2⟩ := hk fresh H p.1 ⟨q.1, [], false, [], q.2⟩ (by simp [pureK, hq]) o3 c φ m1 _ a W vals ⟨fun z hz => by simp at hz, by simp⟩ c1 e1 r1
    refine ⟨g1, fun ro n => ?_⟩
    refine (g2 ro n).mono ?_
    rintro e W' ⟨φ', m', V, h1, h2, h3, h4, h5⟩
    exact ⟨φ', m', V, h1, h2, h3, l1.trans h4, h5⟩
  · cases hr

attribute [go_sem] viewK
end Go.Proofs.Hg
