/- Proved: the pure statement of the law NormAnswers, that the Lean functions printed for it answer true for every input; no condition beyond the statement's own. -/
import Derived.Test.YtmgagebjdldenaaPx10
import Derived.Test.YtmgagebjdldenaaPNorm
namespace Go.Proofs.Ytmgagebjdldenaa.Pure
open Go.RowKit Go.Proofs.Ytmgagebjdldenaa.P Go.Proofs.YtmgagebjdldenaaW.PrintWords Go.Proofs.YtmgagebjdldenaaW.PrintLast Go.Proofs.YtmgagebjdldenaaW.PrintMore
set_option linter.unusedVariables false
set_option linter.unusedSimpArgs false

theorem alive23a (k : Nat) (hk : 200 ≤ k) : ductuslaw23_alive.f k = some true := more ductuslaw23_alive.mono 200 k hk _ (by decide +kernel)
theorem NormAnswers : ductuslaw23_NormAnswers.Pure := by
  intro l s0 s1 a b c hm hl hw w0 w1 wa wb wc
  refine ⟨2 * l.length + 300, ?_⟩
  unfold ductuslaw23_NormAnswers.f
  rw [alive23a _ (by omega)]
  simp only [Option.bind_some, if_true]
  by_cases h : (l.length : Int) > 2000
  · rw [if_pos h]
  · rw [if_neg h]
    have h1 := filter_len l
    simp only [norm_of_eq (2 * l.length + 300) l a (by omega) (by omega), rnorm_of_eq (2 * l.length + 300) l a (by omega) (by omega), Option.bind_some, back_eq l (show l.length ≤ 4001 by omega), rback_eq (2 * l.length + 300) (by omega) l (show l.length ≤ 4001 by omega),
      bytes_eq, rbytes_eq, ints_same (2 * l.length + 300) (chrs a l) (by rw [chrs_len]; omega) (by rw [chrs_len]; omega), ints_same (2 * l.length + 300) (plcs l) (by rw [plcs_len]; omega) (by rw [plcs_len]; omega), if_true,
      ahead_eq (2 * l.length + 300) l b (by omega) (by omega), rahead_eq (2 * l.length + 300) l b (by omega) (by omega), control_eq (2 * l.length + 300) (by omega) c, rcontrol_eq, beq_self_eq_true, Bool.and_self]
end Go.Proofs.Ytmgagebjdldenaa.Pure
