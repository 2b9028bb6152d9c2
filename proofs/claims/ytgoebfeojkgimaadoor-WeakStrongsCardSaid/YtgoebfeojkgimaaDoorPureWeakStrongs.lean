/- Proved: the pure statement of the law WeakStrongs, that the Lean functions printed for it answer true for every input; no condition beyond the statement's own. -/
import Derived.Test.YtgoebfeojkgimaaDoorPx6
import Derived.Test.YtgoebfeojkgimaaDoorPWk
namespace Go.Proofs.YtgoebfeojkgimaaDoor.Pure
open Go.RowKit Go.Proofs.YtgoebfeojkgimaaDoor.P Go.Proofs.YtgoebfeojkgimaaDoorW.PrintWords Go.Proofs.YtgoebfeojkgimaaDoorW.PrintLast Go.Proofs.YtgoebfeojkgimaaDoorW.PrintMore
set_option linter.unusedVariables false
set_option linter.unusedSimpArgs false

theorem strongs_l0 (l : List Int) (sos s : Int) (hs : sos = 0 ∨ sos = 1) (hl : l.length ≤ 200) : ∀ i : Nat, i ≤ l.length → strongM l sos i = s → Ev (fun k => ductuslaw09_WeakStrongs.l0 k l sos s ((i : Int) - 1)) true := by
  intro i
  induction i with
  | zero =>
    intro _ h
    refine ev_one fun k => ?_
    simp only [ductuslaw09_WeakStrongs.l0]
    rw [if_neg (by omega)]
    have : s = sos := h.symm
    rw [this]
    simp
  | succ i ih =>
    intro hi h
    have e0 : ((i + 1 : Nat) : Int) - 1 = (i : Int) := by omega
    rw [e0]
    have hw : wrap64 ((i : Int) - 1) = (i : Int) - 1 := wrap_id (by omega) (by omega)
    have g1 : (i : Int) ≥ 0 := by omega
    have g2 : (i : Int) < (l.length : Int) := by omega
    simp only [strongM] at h
    generalize hc : rd l (i : Int) = c at h
    have hj2 : Ev (fun k => ductuslaw09_WeakStrongs.j2 k l sos s (i : Int) c (noK c)) true := by
      by_cases hn : noK c = true
      · rw [if_pos hn] at h
        refine ev_one fun k => ?_
        simp only [ductuslaw09_WeakStrongs.j2]
        rw [if_pos hn, if_pos trivial, ← h]
        rfl
      · rw [if_neg hn] at h
        by_cases h2 : stgK c = true
        · rw [if_pos h2] at h
          refine ev_one fun k => ?_
          simp only [ductuslaw09_WeakStrongs.j2]
          rw [if_neg hn, ← h]
          rcases (stg_iff c).1 h2 with e | e | e
          · rw [if_pos e]
            simp
          · rw [if_neg (by omega), if_pos e]
            simp
          · rw [if_neg (by omega), if_neg (by omega), if_pos e]
            simp
        · rw [if_neg h2] at h
          have h3 : ¬ (c = 0 ∨ c = 1 ∨ c = 2) := fun x => h2 ((stg_iff c).2 x)
          refine ev_step (ih (by omega) h) fun k hk => ?_
          simp only [ductuslaw09_WeakStrongs.j2]
          rw [if_neg hn, if_neg (fun e => h3 (.inl e)), if_neg (fun e => h3 (.inr (.inl e))), if_neg (fun e => h3 (.inr (.inr e))), hw]
          exact hk
    refine ev_step hj2 fun k hk => ?_
    simp only [ductuslaw09_WeakStrongs.l0]
    rw [if_pos g1, if_pos g1, if_pos g2, hc]
    by_cases h0 : c < 0
    · have e : noK c = true := decide_eq_true (.inl h0)
      rw [e] at hk
      rw [if_pos h0]
      exact hk
    · have e : noK c = decide (c > 22) := by
        unfold noK
        by_cases h4 : 22 < c
        · rw [decide_eq_true (show c > 22 from h4), decide_eq_true (.inr h4)]
        · rw [decide_eq_false (show ¬ c > 22 from h4), decide_eq_false (by omega)]
      rw [e] at hk
      rw [if_neg h0]
      exact hk
theorem strongs_j0 (l : List Int) (a sos : Int) (hs : sos = 0 ∨ sos = 1) (hl : l.length ≤ 200) (ha : 0 ≤ a ∧ a ≤ 255) : Ev (fun k => ductuslaw09_WeakStrongs.j0 k l a sos) true := by
  obtain ⟨q, hq⟩ : ∃ q : Nat, (q : Int) = Int.tmod a ((l.length + 1 : Nat) : Int) := ⟨(Int.tmod a ((l.length + 1 : Nat) : Int)).toNat, Int.toNat_of_nonneg (Int.tmod_nonneg _ ha.1)⟩
  have hql : q ≤ l.length := by
    have := Int.tmod_lt_of_pos a (show (0 : Int) < ((l.length + 1 : Nat) : Int) by omega)
    omega
  have h1 := strong_ev l sos hs (by omega) q hql
  have h2 := strongs_l0 l sos _ hs hl q hql rfl
  have g5 : ¬ ((l.length + 1 : Nat) : Int) = 0 := by omega
  have q1 : l.length < 9223372036854775807 := by omega
  have q2 : -9223372036854775808 ≤ a ∧ a ≤ 9223372036854775807 := by omega
  have q3 : -9223372036854775808 ≤ (q : Int) - 1 ∧ (q : Int) - 1 ≤ 9223372036854775807 := by omega
  have w1 : wrap64 ((l.length : Int) + 1) = ((l.length + 1 : Nat) : Int) := wrap_succ _ q1
  have wa : wrap64 a = a := wrap_id q2.1 q2.2
  have wq : wrap64 ((q : Int) - 1) = (q : Int) - 1 := wrap_id q3.1 q3.2
  refine ev_step2 h1 h2 fun k hk hk2 => ?_
  simp only [ductuslaw09_WeakStrongs.j0]
  rw [w1, wa, if_neg g5, ← hq, hk, Option.bind_some, wq]
  exact hk2
theorem u8_bd {x : Int} (h : (Lit.int .u8 x).wf = true) : 0 ≤ x ∧ x ≤ 255 := by
  have hmin : IntKind.u8.min = 0 := rfl
  have hmax : IntKind.u8.max = 255 := rfl
  simp only [Lit.wf, Bool.and_eq_true, decide_eq_true_eq] at h
  omega
theorem WeakStrongs : ductuslaw09_WeakStrongs.Pure := by
  intro l a b hm hl hw wa
  have ha := u8_bd wa
  refine Ev.rounds ?_
  by_cases h : (l.length : Int) > 200
  · refine ev_same alive09 fun k hk => ?_
    unfold ductuslaw09_WeakStrongs.f
    rw [hk, Option.bind_some, if_pos rfl, if_pos h]
  · cases b with
    | true =>
      refine ev_same2 alive09 (strongs_j0 l a 1 (.inr rfl) (by omega) ha) fun k hk hk2 => ?_
      unfold ductuslaw09_WeakStrongs.f
      rw [hk, Option.bind_some, if_pos rfl, if_neg h, if_pos rfl]
      exact hk2
    | false =>
      refine ev_same2 alive09 (strongs_j0 l a 0 (.inl rfl) (by omega) ha) fun k hk hk2 => ?_
      unfold ductuslaw09_WeakStrongs.f
      rw [hk, Option.bind_some, if_pos rfl, if_neg h, if_neg (by simp)]
      exact hk2
end Go.Proofs.YtgoebfeojkgimaaDoor.Pure
