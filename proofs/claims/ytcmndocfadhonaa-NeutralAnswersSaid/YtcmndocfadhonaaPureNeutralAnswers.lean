/- Proved: the pure statement of the law NeutralAnswers, that the Lean functions printed for it answer true for every input; no condition beyond the statement's own. -/
import Derived.Test.YtcmndocfadhonaaPx6
import Derived.Test.YtcmndocfadhonaaPNeutRef
namespace Go.Proofs.Ytcmndocfadhonaa.Pure
open Go.RowKit Go.Proofs.Ytcmndocfadhonaa.P Go.Proofs.YtcmndocfadhonaaW.PrintWords Go.Proofs.YtcmndocfadhonaaW.PrintLast Go.Proofs.YtcmndocfadhonaaW.PrintMore
set_option linter.unusedVariables false
set_option linter.unusedSimpArgs false

theorem alive11 (k : Nat) (hk : 60 ≤ k) : ductuslaw11_alive.f k = some true := more ductuslaw11_alive.mono 60 k hk _ (by decide +kernel)
theorem NeutralAnswers : ductuslaw11_NeutralAnswers.Pure := by
  intro l a b c hm hl hw wa wb wc
  have ha := wf_bound wa
  refine ⟨(l.length + 10) * (l.length + 10) + 100, ?_⟩
  obtain ⟨k, hk⟩ : ∃ k, k = (l.length + 10) * (l.length + 10) + 100 := ⟨_, rfl⟩
  rw [← hk]
  have m1 : (l.length + 10) * (l.length + 10) ≥ (l.length + 2) * (l.length + 5) := Nat.mul_le_mul (by omega) (by omega)
  have m2 : (l.length + 10) * (l.length + 10) ≥ (l.length + 2) * (l.length + 3) := Nat.mul_le_mul (by omega) (by omega)
  have m3 : (l.length + 10) * (l.length + 10) ≥ (l.length + 10) * 2 := Nat.mul_le_mul (Nat.le_refl _) (by omega)
  unfold ductuslaw11_NeutralAnswers.f
  rw [alive11 _ (by omega)]
  simp only [Option.bind_some, if_true]
  by_cases h : (l.length : Int) > 500
  · rw [if_pos h]
  · rw [if_neg h]
    have h5 : l.length ≤ 500 := by omega
    have hgl := groups_len l
    rw [if_pos (by simp; omega), List.nil_append]
    simp only [nof_eq k l a b c h5 (by omega), rof_eq k l a b c h5 (by omega), Option.bind_some, ints_same k (neutOf l a b c) (by rw [neut_len]; omega) (by rw [neut_len]; omega), if_true,
      groups_eq k l h5 (by omega), rgroups_eq k l h5 (by omega), gsame_eq k (groupsOf l) (by omega) (by omega), levels_eq k l a ha.1 ha.2 h5 (by omega), rlevels_eq k l a ha.1 ha.2 h5 (by omega),
      ints_same k (l.map fun c => levelOf c a) (by simp; omega) (by simp; omega), level_eq b a ha.1 ha.2, rlevel_eq k (by omega) b a ha.1 ha.2, ints_same k l (by omega) (by omega)]
end Go.Proofs.Ytcmndocfadhonaa.Pure
