/- Proved: the pure statement of the law PairSames, that the Lean functions printed for it answer true for every input; no condition beyond the statement's own. -/
import Derived.Test.YtldbjnemjlmjpaaPx4
import Derived.Test.YtldbjnemjlmjpaaPInts
import Derived.Test.YtldbjnemjlmjpaaPPair

namespace Go.Proofs.Ytldbjnemjlmjpaa.Pure
open Go.RowKit Go.Proofs.Ytldbjnemjlmjpaa.P Go.Proofs.YtldbjnemjlmjpaaW.PrintWords Go.Proofs.YtldbjnemjlmjpaaW.PrintLast Go.Proofs.YtldbjnemjlmjpaaW.PrintMore
set_option linter.unusedVariables false
set_option linter.unusedSimpArgs false

theorem alive3 (k : Nat) (hk : 20 ≤ k) : ductuslaw03_alive.f k = some true := more ductuslaw03_alive.mono 20 k hk _ (by decide +kernel)

theorem same_comm (a b : Int) : sameb a b = sameb b a := by
  unfold sameb
  have hc : (asb a == asb b) = (asb b == asb a) := by
    rw [Bool.eq_iff_iff, beq_iff_eq, beq_iff_eq]
    exact eq_comm
  rw [hc]
  cases (pair_Other.ans a).2.2 <;> cases (pair_Other.ans b).2.2 <;> simp
theorem same_self (a : Int) : sameb a a = (pair_Other.ans a).2.2 := by
  unfold sameb
  cases (pair_Other.ans a).2.2 <;> simp
theorem same_on {a b c : Int} (h : sameb a b = true) (h2 : sameb b c = true) : sameb a c = true := by
  unfold sameb at *
  simp only [Bool.and_eq_true, beq_iff_eq] at *
  exact ⟨⟨h.1.1, h2.1.2⟩, h.2.trans h2.2⟩
theorem same_others (a b : Int) : sameb a b = true → ((pair_Other.ans a).2.1 == (pair_Other.ans b).2.1) = true ∧ sameb (pair_Other.ans a).1 (pair_Other.ans b).1 = true := by
  revert b
  revert a
  refine by_keys _ ?_ fun a h b hs => ?_
  · intro a ha b
    revert b
    refine by_keys _ ?_ fun b h hs => ?_
    · revert a
      decide +kernel
    · unfold sameb at hs
      rw [ans_out h] at hs
      simp at hs
  · unfold sameb at hs
    rw [ans_out h] at hs
    simp at hs
theorem last (k a b : Int) (n : Nat) : ductuslaw03_PairSames.j0 (n + 1) a b false = some true := by
  simp only [ductuslaw03_PairSames.j0, same_eq, Option.bind_some, pair_Other.f]
  by_cases h : sameb a b = true
  · obtain ⟨h1, h2⟩ := same_others a b h
    rw [if_neg (by decide), if_pos h, if_pos h1, h2]
  · rw [if_neg (by decide), if_neg h]
theorem PairSames : ductuslaw03_PairSames.Pure := by
  intro a b c w0 w1 w2
  refine ⟨30, ?_⟩
  unfold ductuslaw03_PairSames.f
  rw [alive3 _ (by omega)]
  simp only [pair_Other.f, Option.bind_some, if_true, same_eq]
  rw [if_neg (by rw [same_comm a b]; simp), if_neg (by rw [same_self]; simp)]
  by_cases h : sameb a b = true
  · rw [if_pos h]
    by_cases h2 : sameb b c = true
    · rw [if_pos h2, same_on h h2]
      exact last 0 a b 29
    · rw [if_neg h2]
      exact last 0 a b 29
  · rw [if_neg h]
    exact last 0 a b 29

end Go.Proofs.Ytldbjnemjlmjpaa.Pure
