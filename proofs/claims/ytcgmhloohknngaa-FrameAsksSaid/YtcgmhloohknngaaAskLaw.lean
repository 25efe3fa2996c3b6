/- The two ways to read a request give the same. -/
import Derived.Test.YtcgmhloohknngaaF14
set_option linter.unusedSimpArgs false
set_option linter.unusedVariables false
namespace Go.Proofs.Hg
open Go.RowKit

theorem byte7 (m : UInt8) (h : m.toNat ≤ 7) : m = 0 ∨ m = 1 ∨ m = 2 ∨ m = 3 ∨ m = 4 ∨ m = 5 ∨ m = 6 ∨ m = 7 := by
  have key : ∀ k : UInt8, m.toNat = k.toNat → m = k := fun k hk => UInt8.toNat_inj.1 hk
  have h' : m.toNat = 0 ∨ m.toNat = 1 ∨ m.toNat = 2 ∨ m.toNat = 3 ∨ m.toNat = 4 ∨ m.toNat = 5 ∨ m.toNat = 6 ∨ m.toNat = 7 := by omega
  rcases h' with e | e | e | e | e | e | e | e
  · exact .inl (key 0 e)
  · exact .inr (.inl (key 1 e))
  · exact .inr (.inr (.inl (key 2 e)))
  · exact .inr (.inr (.inr (.inl (key 3 e))))
  · exact .inr (.inr (.inr (.inr (.inl (key 4 e)))))
  · exact .inr (.inr (.inr (.inr (.inr (.inl (key 5 e))))))
  · exact .inr (.inr (.inr (.inr (.inr (.inr (.inl (key 6 e)))))))
  · exact .inr (.inr (.inr (.inr (.inr (.inr (.inr (key 7 e)))))))

theorem flags_eq (m : UInt8) (h : m.toNat ≤ 7) : andB m 1 = rB1 m ∧ andB m 2 = rB2 m ∧ andB m 4 = rB4 m := by
  rcases byte7 m h with rfl | rfl | rfl | rfl | rfl | rfl | rfl | rfl <;> exact ⟨rfl, rfl, rfl⟩

theorem filesP_false (n : Nat) (s : List UInt8) (fs : List (List UInt8)) : filesP n (false, s) fs = ((false, s), fs) := filesP_stop n _ fs (.inl rfl)

theorem nxt_ok {n : Int} {s : List UInt8} (h : n ≤ (s.length : Int)) : nxt n (true, s) = (true, s.drop n.toNat) ∧ got n (true, s) = s.take n.toNat := by
  have : takeOk true n s = true := by simp [takeOk, h]
  simp [nxt, got, takeL, restL, this]
theorem nxt_bad {n : Int} {s : List UInt8} (h : (s.length : Int) < n) : nxt n (true, s) = (false, s) ∧ got n (true, s) = [0, 0] := by
  have : takeOk true n s = false := by simp [takeOk]; omega
  simp [nxt, got, takeL, restL, this]
theorem nxt_false (n : Int) (s : List UInt8) : nxt n (false, s) = (false, s) ∧ got n (false, s) = [0, 0] := by
  have : takeOk false n s = false := by simp [takeOk]
  simp [nxt, got, takeL, restL, this]

theorem take1_get (s : List UInt8) : (s.take 1).getD 0 0 = s.getD 0 0 := by cases s <;> rfl

/-- The loops. -/
theorem loops_eq : ∀ (n : Nat) (s : List UInt8) (fs : List (List UInt8)), (∀ q, rFiles n s fs = some q → filesP n (true, s) fs = ((true, q.1), q.2)) ∧ (rFiles n s fs = none → (filesP n (true, s) fs).1.1 = false)
  | 0, s, fs => ⟨fun q hq => by simp only [rFiles, Option.some.injEq] at hq; subst hq; rfl, fun hq => by simp [rFiles] at hq⟩
  | n + 1, s, fs => by
    have hF : filesP (n + 1) (true, s) fs = filesP n (nxt (((got 1 (true, s)).getD 0 0).toNat : Int) (nxt 1 (true, s))) (fs ++ [got (((got 1 (true, s)).getD 0 0).toNat : Int) (nxt 1 (true, s))]) := by simp [filesP]
    by_cases h0 : s.length = 0
    · have hb := nxt_bad (n := 1) (s := s) (by omega)
      have hR : rFiles (n + 1) s fs = none := by simp only [rFiles]; rw [if_pos (.inl h0)]
      refine ⟨(fun q hq => by rw [hR] at hq; cases hq), fun _ => ?_⟩
      rw [hF, hb.1, (nxt_false _ s).1, filesP_false]
    · have hk := nxt_ok (n := 1) (s := s) (by omega)
      have e1 : (1 : Int).toNat = 1 := rfl
      rw [e1] at hk
      rw [hk.1, hk.2, take1_get] at hF
      by_cases h1 : s.length - 1 < (s.getD 0 0).toNat
      · have hR : rFiles (n + 1) s fs = none := by simp only [rFiles]; rw [if_pos (.inr h1)]
        refine ⟨(fun q hq => by rw [hR] at hq; cases hq), fun _ => ?_⟩
        have hb := nxt_bad (n := ((s.getD 0 0).toNat : Int)) (s := s.drop 1) (by simp only [List.length_drop]; omega)
        rw [hF, hb.1, filesP_false]
      · have hR : rFiles (n + 1) s fs = rFiles n (s.drop (1 + (s.getD 0 0).toNat)) (fs ++ [(s.drop 1).take (s.getD 0 0).toNat]) := by simp only [rFiles]; rw [if_neg (by omega)]
        have hb := nxt_ok (n := ((s.getD 0 0).toNat : Int)) (s := s.drop 1) (by simp only [List.length_drop]; omega)
        rw [hF, hb.1, hb.2, hR, Int.toNat_natCast, List.drop_drop]
        exact loops_eq n _ _

theorem p0_false {id kind : Int} {body : List UInt8} (h : askR0 id kind body = false) : askOk id kind body = false ∧ (askEnd id kind body).2 = [] := by
  have h0 : askP0 id kind body = (false, body) := by simp [askP0, h]
  have h1 : askP1 id kind body = (false, body) := by rw [askP1, h0, (nxt_false _ _).1]
  have h2 : askP2 id kind body = (false, body) := by rw [askP2, h1, (nxt_false _ _).1]
  have h3 : askP3 id kind body = (false, body) := by rw [askP3, h2, (nxt_false _ _).1]
  have h4 : askP4 id kind body = (false, body) := by rw [askP4, h3, (nxt_false _ _).1]
  have h5 : askEnd id kind body = ((false, body), []) := by rw [askEnd, h4, filesP_false]
  exact ⟨by simp [askOk, h5], by rw [h5]⟩

theorem p4_false {id kind : Int} {body : List UInt8} (s : List UInt8) (h4 : askP4 id kind body = (false, s)) : askOk id kind body = false := by
  have h5 : askEnd id kind body = ((false, s), []) := by rw [askEnd, h4, filesP_false]
  simp [askOk, h5]

theorem num_eq (body : List UInt8) : numberL ((body.drop 1).take 2) = rN body := by
  unfold numberL rN
  have e1 : ((body.drop 1).take 2).getD 0 0 = body.getD 1 0 := by
    simp only [List.getD_eq_getElem?_getD]
    rw [List.getElem?_take_of_lt (by omega), List.getElem?_drop]
  have e2 : ((body.drop 1).take 2).getD 1 0 = body.getD 2 0 := by
    simp only [List.getD_eq_getElem?_getD]
    rw [List.getElem?_take_of_lt (by omega), List.getElem?_drop]
  rw [e1, e2]
  omega

theorem rN_nonneg (body : List UInt8) : 0 ≤ rN body := by unfold rN; omega

/-- Program and reference read the same. -/
theorem ask_eq (id kind : Int) (body : List UInt8) : askV id kind body = rAskV id kind body := by
  have hn0 := rN_nonneg body
  cases hr0 : askR0 id kind body with
  | false =>
    have h1 := (p0_false hr0).1
    have h2 : ¬ rHead id kind body := by
      intro h
      unfold rHead at h
      have : askR0 id kind body = true := by unfold askR0; simp; omega
      rw [hr0] at this
      cases this
    unfold askV rAskV
    rw [h1, if_neg h2]
    rfl
  | true =>
    have hr : (0 ≤ id ∧ id ≤ 65535 ∧ (body.length : Int) ≤ 4096) ∧ kind = 1 := by
      unfold askR0 at hr0
      simp only [Bool.and_eq_true, decide_eq_true_eq] at hr0
      omega
    have h0 : askP0 id kind body = (true, body) := by simp [askP0, hr0]
    have e1 : (1 : Int).toNat = 1 := rfl
    have e2 : (2 : Int).toNat = 2 := rfl
    -- how far the four takes come
    have hbad : (body.length : Int) < 4 + rN body → askOk id kind body = false := by
      intro hlt
      by_cases a1 : (1 : Int) ≤ (body.length : Int)
      · have p1 : askP1 id kind body = (true, body.drop 1) := by rw [askP1, h0, (nxt_ok a1).1, e1]
        by_cases a2 : (2 : Int) ≤ ((body.drop 1).length : Int)
        · have p2 : askP2 id kind body = (true, body.drop 3) := by rw [askP2, p1, (nxt_ok a2).1, e2, List.drop_drop]
          have pn : askN id kind body = rN body := by rw [askN, p1, (nxt_ok a2).2, e2, num_eq]
          by_cases a3 : rN body ≤ ((body.drop 3).length : Int)
          · have p3 : askP3 id kind body = (true, (body.drop 3).drop (rN body).toNat) := by rw [askP3, p2, pn, (nxt_ok a3).1]
            have a4 : (((body.drop 3).drop (rN body).toNat).length : Int) < 1 := by
              simp only [List.length_drop] at a2 a3 ⊢
              omega
            exact p4_false _ (by rw [askP4, p3, (nxt_bad a4).1])
          · have p3 : askP3 id kind body = (false, body.drop 3) := by rw [askP3, p2, pn, (nxt_bad (by omega)).1]
            exact p4_false _ (by rw [askP4, p3, (nxt_false _ _).1])
        · have p2 : askP2 id kind body = (false, body.drop 1) := by rw [askP2, p1, (nxt_bad (by omega)).1]
          have p3 : askP3 id kind body = (false, body.drop 1) := by rw [askP3, p2, (nxt_false _ _).1]
          exact p4_false _ (by rw [askP4, p3, (nxt_false _ _).1])
      · have p1 : askP1 id kind body = (false, body) := by rw [askP1, h0, (nxt_bad (by omega)).1]
        have p2 : askP2 id kind body = (false, body) := by rw [askP2, p1, (nxt_false _ _).1]
        have p3 : askP3 id kind body = (false, body) := by rw [askP3, p2, (nxt_false _ _).1]
        exact p4_false _ (by rw [askP4, p3, (nxt_false _ _).1])
    by_cases hl : (body.length : Int) < 4 + rN body
    · have h2 : ¬ rHead id kind body := by intro h; unfold rHead at h; omega
      unfold askV rAskV
      rw [hbad hl, if_neg h2]
      rfl
    · have p1 : askP1 id kind body = (true, body.drop 1) := by rw [askP1, h0, (nxt_ok (by omega)).1, e1]
      have pm : askM id kind body = body.getD 0 0 := by rw [askM, h0, (nxt_ok (by omega)).2, e1, take1_get]
      have a2 : (2 : Int) ≤ ((body.drop 1).length : Int) := by simp only [List.length_drop]; omega
      have p2 : askP2 id kind body = (true, body.drop 3) := by rw [askP2, p1, (nxt_ok a2).1, e2, List.drop_drop]
      have pn : askN id kind body = rN body := by rw [askN, p1, (nxt_ok a2).2, e2, num_eq]
      have a3 : rN body ≤ ((body.drop 3).length : Int) := by simp only [List.length_drop]; omega
      have p3 : askP3 id kind body = (true, body.drop (3 + rN body).toNat) := by
        rw [askP3, p2, pn, (nxt_ok a3).1, List.drop_drop]
        congr 2
        try omega
      have ps : askS id kind body = rS body := by
        rw [askS, p2, pn, (nxt_ok a3).2, rS]
        congr 1
        try omega
      have a4 : (1 : Int) ≤ ((body.drop (3 + rN body).toNat).length : Int) := by simp only [List.length_drop]; omega
      have p4 : askP4 id kind body = (true, body.drop (4 + rN body).toNat) := by
        rw [askP4, p3, (nxt_ok a4).1, e1, List.drop_drop]
        congr 2
        try omega
      have pc : askC id kind body = rC body := by
        rw [askC, p3, (nxt_ok a4).2, e1, take1_get, rC]
        simp only [List.getD_eq_getElem?_getD, List.getElem?_drop, Nat.add_zero]
      have pe : askEnd id kind body = filesP (rC body).toNat (true, body.drop (4 + rN body).toNat) [] := by rw [askEnd, p4, pc]
      obtain ⟨l1, l2⟩ := loops_eq (rC body).toNat (body.drop (4 + rN body).toNat) []
      by_cases hm : (body.getD 0 0).toNat ≤ 7
      · have h2 : rHead id kind body := by unfold rHead; omega
        obtain ⟨f1, f2, f4⟩ := flags_eq _ hm
        unfold askV rAskV
        rw [if_pos h2]
        cases hR : rEnd body with
        | none =>
          have h3 := l2 hR
          have : askOk id kind body = false := by simp [askOk, pe, h3]
          rw [this]
          rfl
        | some q =>
          have h3 := l1 q hR
          rw [← pe] at h3
          obtain ⟨qs, qf⟩ := q
          cases qs with
          | nil =>
            have : askOk id kind body = true := by
              simp only [askOk, h3, pm, List.length_nil, decide_true, Bool.true_and, Bool.and_true]
              exact decide_eq_true hm
            rw [this, h3, ps, pm, f1, f2, f4]
            rfl
          | cons b qs =>
            have : askOk id kind body = false := by simp [askOk, h3]
            rw [this]
            rfl
      · have h2 : ¬ rHead id kind body := by intro h; unfold rHead at h; omega
        have : askOk id kind body = false := by
          simp only [askOk, pm, Bool.and_eq_false_iff, decide_eq_false_iff_not]
          exact .inr hm
        unfold askV rAskV
        rw [this, if_neg h2]
        rfl
end Go.Proofs.Hg
