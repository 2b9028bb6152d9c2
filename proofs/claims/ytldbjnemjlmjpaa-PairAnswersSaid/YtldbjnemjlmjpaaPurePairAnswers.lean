/- Proved: the pure statement of the law PairAnswers, that the Lean functions printed for it answer true for every input; no condition beyond the statement's own. -/
import Derived.Test.YtldbjnemjlmjpaaPx3
import Derived.Test.YtldbjnemjlmjpaaPInts
import Derived.Test.YtldbjnemjlmjpaaPPair
import Derived.Test.YtldbjnemjlmjpaaPPairRef
namespace Go.Proofs.Ytldbjnemjlmjpaa.Pure
open Go.RowKit Go.Proofs.Ytldbjnemjlmjpaa.P Go.Proofs.YtldbjnemjlmjpaaW.PrintWords Go.Proofs.YtldbjnemjlmjpaaW.PrintLast Go.Proofs.YtldbjnemjlmjpaaW.PrintMore
set_option linter.unusedVariables false
set_option linter.unusedSimpArgs false

theorem alive3 (k : Nat) (hk : 20 ≤ k) : ductuslaw03_alive.f k = some true := more ductuslaw03_alive.mono 20 k hk _ (by decide +kernel)

theorem PairAnswers : ductuslaw03_PairAnswers.Pure := by
  intro a0 a1 l w0 w1 hm hl hw
  refine ⟨l.length + 30, ?_⟩
  unfold ductuslaw03_PairAnswers.f
  rw [alive3 _ (by omega)]
  simp only [Option.bind_some, if_true]
  by_cases h : (l.length : Int) > 5000
  · rw [if_pos h]
  · rw [if_neg h]
    simp only [pair_Other.f, Option.bind_some, rother_eq _ (show 14 ≤ l.length + 30 by omega), if_true, beq_self_eq_true, same_eq, rsame_eq _ (show 14 ≤ l.length + 30 by omega), mirror_eq _ (show 4 ≤ l.length + 30 by omega),
      rmirror_eq _ (show 14 ≤ l.length + 30 by omega), mirrored_eq _ (show 4 ≤ l.length + 30 by omega), rmirrored_eq _ (show 14 ≤ l.length + 30 by omega), plain_eq _ l hl (show l.length + 4 < l.length + 30 by omega), rplain_eq _ l hl (show l.length + 14 < l.length + 30 by omega)]
    rw [ints_same _ _ (by simp [plainL]; omega) (by simp [plainL])]
    rfl

end Go.Proofs.Ytldbjnemjlmjpaa.Pure
