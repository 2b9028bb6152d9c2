/- Proved: the pure statement of the law BalanceControls, that the Lean functions printed for it answer true for every input; no condition beyond the statement's own. -/
import Derived.Test.YtpgpckglgkichaaPx11
import Derived.Test.YtpgpckglgkichaaPBalP
namespace Go.Proofs.Ytpgpckglgkichaa.Pure
open Go.RowKit Go.Proofs.Ytpgpckglgkichaa.P Go.Proofs.YtpgpckglgkichaaW.PrintWords Go.Proofs.YtpgpckglgkichaaW.PrintLast Go.Proofs.YtpgpckglgkichaaW.PrintMore
set_option linter.unusedVariables false
set_option linter.unusedSimpArgs false

theorem core_eq {a b : List Int × Int × Int} (h : core a = core b) : a.2.1 = b.2.1 ∧ decide (a.2.2 = -1) = decide (b.2.2 = -1) := by
  unfold core at h
  injection h with _ h
  injection h with h1 h2
  exact ⟨h1, h2⟩
theorem controls_l0 (l : List Int) (hl : l.length ≤ 1000) (d : Nat) : ∀ i : Nat, i ≤ l.length → l.length - i = d → (∀ c ∈ l.take i, cls c ≠ 10) →
    Ev (fun k => ductuslaw26_BalanceControls.l0 k l (l.filter opc) (i : Int)) true := by
  have hfl := List.length_filter_le opc l
  have hcl := close_len (l.filter opc)
  induction d with
  | zero =>
    intro i hi hd hn
    rw [List.take_of_length_le (by omega)] at hn
    obtain ⟨hdp, hrt⟩ := core_eq (core_same (l.filter opc) l (by rw [filter_idem, filter_nn l hn]))
    have hid : (l.filter opc).filter opc = l.filter opc := by rw [List.filter_filter]; simp
    have hic : (closeM (l.filter opc)).filter opc = closeM (l.filter opc) := List.filter_eq_self.2 (close_ctl _ fun c hc => (List.mem_filter.1 hc).2)
    have g1 : (l.filter opc).length < 8796093022208 := by omega
    have g2 : l.length < 8796093022208 := by omega
    have g3 : (l.filter opc).length < 4398046511104 := by omega
    have g4 : (l.filter opc).length < 17592186044416 := by omega
    have g5 : (closeM (l.filter opc)).length < 17592186044416 := by omega
    refine ev_step2 (ints_ev (l.filter opc) (by omega)) (ints_ev (closeM (l.filter opc)) (by omega)) fun k h1 h2 => ?_
    simp only [ductuslaw26_BalanceControls.l0]
    rw [if_neg (by omega), right_f _ g1, Option.bind_some, right_f _ g2, Option.bind_some, hrt, if_pos (by simp), depth_f _ g1, Option.bind_some, depth_f _ g2, Option.bind_some, if_pos hdp, ctl_f _ g4, Option.bind_some, hid, h1, Option.bind_some, if_pos rfl, close_f _ g3, Option.bind_some, ctl_f _ g5, Option.bind_some, Option.bind_some, hic, h2]
    rfl
  | succ d ih =>
    intro i hi hd hn
    have w1 : wrap64 ((i : Int) + 1) = ((i + 1 : Nat) : Int) := wrap_succ i (by omega)
    have g1 : (i : Int) < (l.length : Int) := by omega
    have g2 : (0 : Int) ≤ (i : Int) := by omega
    by_cases hc : cls (rd l (i : Int)) = 10
    · refine ev_one fun k => ?_
      simp only [ductuslaw26_BalanceControls.l0]
      rw [if_pos g1, if_pos g2, show ductusref02_Of.f (rd l (i : Int)) = some (cls (rd l (i : Int))) from rfl, Option.bind_some, if_pos hc]
    · refine ev_step (ih (i + 1) (by omega) (by omega) fun c hm => ?_) fun k hk => ?_
      · rw [List.take_succ_eq_append_getElem (by omega), ← rd_get l i (by omega)] at hm
        rcases List.mem_append.1 hm with h | h
        · exact hn c h
        · obtain rfl := List.mem_singleton.1 h
          exact hc
      · simp only [ductuslaw26_BalanceControls.l0]
        rw [if_pos g1, if_pos g2, show ductusref02_Of.f (rd l (i : Int)) = some (cls (rd l (i : Int))) from rfl, Option.bind_some, if_neg hc, w1]
        exact hk
theorem BalanceControls : ductuslaw26_BalanceControls.Pure := by
  intro l hm hl hw
  refine Ev.rounds ?_
  by_cases h : (l.length : Int) > 1000
  · refine ev_same alive26 fun k ha => ?_
    unfold ductuslaw26_BalanceControls.f
    rw [ha, Option.bind_some, if_pos rfl, if_pos h]
  · refine ev_same2 alive26 (controls_l0 l (by omega) l.length 0 (by omega) (by omega) (by simp)) fun k ha hk => ?_
    unfold ductuslaw26_BalanceControls.f
    rw [ha, Option.bind_some, if_pos rfl, if_neg h, ctl_f l (by omega), Option.bind_some]
    exact hk
end Go.Proofs.Ytpgpckglgkichaa.Pure
