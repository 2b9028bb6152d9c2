/- Proved: the pure statement of the law BalanceWrong, that the Lean functions printed for it answer true for every input; no condition beyond the statement's own. -/
import Derived.Test.YtpgpckglgkichaaPx11
import Derived.Test.YtpgpckglgkichaaPBalP
namespace Go.Proofs.Ytpgpckglgkichaa.Pure
open Go.RowKit Go.Proofs.Ytpgpckglgkichaa.P Go.Proofs.YtpgpckglgkichaaW.PrintWords Go.Proofs.YtpgpckglgkichaaW.PrintLast Go.Proofs.YtpgpckglgkichaaW.PrintMore
set_option linter.unusedVariables false
set_option linter.unusedSimpArgs false

theorem wrong_j0 (x y : List Int) (hx : x.length ≤ 500) (hy : y.length ≤ 500) : Ev (fun k => ductuslaw26_BalanceWrong.j0 k x y false) true := by
  have g1 : x.length < 8796093022208 := by omega
  have g2 : x.length < 4398046511104 := by omega
  obtain ⟨a, b, q, hq, hw, hr, hc⟩ := walk_take x
  refine ev_step (ints_ev x (by omega)) fun k hi => ?_
  simp only [ductuslaw26_BalanceWrong.j0]
  rw [if_neg (by simp), wrong_f _ g1, Option.bind_some]
  by_cases hneg : (walkM 0 [] 0 x).2.2 < 0
  · have h1 : (walkM 0 [] 0 x).2.2 = -1 := by
      rcases walkM_wrong x 0 [] 0 with h | ⟨_, h, _, _⟩
      · exact h
      · omega
    have hcl : closeM x = x := by
      unfold closeM
      rw [if_pos h1]
    rw [if_pos hneg, right_f _ g1, Option.bind_some, h1, if_pos (by decide), close_f _ g2, Option.bind_some, hcl, hi]
    rfl
  · have hwq : (walkM 0 [] 0 x).2.2 = (q : Int) := by
      rcases hc with ⟨h2, h3, h4⟩ | ⟨_, h3, _⟩
      · by_cases ha : a = []
        · rw [if_pos ha] at h4
          omega
        · rw [if_neg ha] at h4
          exact h4
      · exact h3
    rw [if_neg hneg, hwq]
    have ht : (x.take q).length = q := by rw [List.length_take]; omega
    have hwt : (walkM 0 [] 0 (x.take q)).2.2 = if a = [] then -1 else (q : Int) := by
      rw [walk_run _ 0 [] 0 _ hr, ht, Nat.zero_add]
    have g3 : (x.take q).length < 8796093022208 := by omega
    have g4 : ¬ (q : Int) > (x.length : Int) := by omega
    have g5 : (0 : Int) ≤ (q : Int) := by omega
    have g6 : (q : Int) ≤ (x.length : Int) := by omega
    rw [if_neg g4, if_pos g5, if_pos g6, Int.toNat_natCast, wrong_f _ g3, Option.bind_some, hwt]
    have hrest : ¬ (q : Int) = (x.length : Int) → (walkM 0 [] 0 ([] ++ x ++ y)).2.2 = (q : Int) := by
      intro hne
      rcases hc with ⟨h2, _, _⟩ | ⟨h3, _, _⟩
      · omega
      · rw [List.nil_append, walk_stays x y 0 [] 0 h3]
        exact hwq
    have g7 : ([] : List Int).length + x.length < 17592186044416 := by simp; omega
    have g8 : ([] ++ x : List Int).length + y.length < 17592186044416 := by simp; omega
    have g9 : ([] ++ x ++ y : List Int).length < 8796093022208 := by simp; omega
    by_cases ha : a = []
    · rw [if_pos ha, if_neg (by decide)]
      by_cases hqx : (q : Int) = (x.length : Int)
      · rw [if_pos hqx]
      · rw [if_neg hqx, Option.bind_some, if_pos g7, Option.bind_some, if_pos g8, wrong_f _ g9, Option.bind_some, hrest hqx]
        simp
    · rw [if_neg ha, if_pos (show (q : Int) ≥ 0 from g5), if_pos rfl]
      by_cases hqx : (q : Int) = (x.length : Int)
      · rw [if_pos hqx]
      · rw [if_neg hqx, Option.bind_some, if_pos g7, Option.bind_some, if_pos g8, wrong_f _ g9, Option.bind_some, hrest hqx]
        simp
theorem BalanceWrong : ductuslaw26_BalanceWrong.Pure := by
  intro x y hm hl hw hm2 hl2 hw2
  refine Ev.rounds ?_
  have hT : Ev (fun k => ductuslaw26_BalanceWrong.j0 k x y true) true := ev_one fun k => by
    simp only [ductuslaw26_BalanceWrong.j0]
    rw [if_pos trivial]
  by_cases h : (x.length : Int) > 500
  · refine ev_same2 alive26 hT fun k ha hk => ?_
    unfold ductuslaw26_BalanceWrong.f
    rw [ha, Option.bind_some, if_pos rfl, if_pos h]
    exact hk
  · by_cases h2 : (y.length : Int) > 500
    · refine ev_same2 alive26 hT fun k ha hk => ?_
      unfold ductuslaw26_BalanceWrong.f
      rw [ha, Option.bind_some, if_pos rfl, if_neg h, decide_eq_true h2]
      exact hk
    · refine ev_same2 alive26 (wrong_j0 x y (by omega) (by omega)) fun k ha hk => ?_
      unfold ductuslaw26_BalanceWrong.f
      rw [ha, Option.bind_some, if_pos rfl, if_neg h, decide_eq_false h2]
      exact hk
end Go.Proofs.Ytpgpckglgkichaa.Pure
