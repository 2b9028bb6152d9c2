/- Proved: the pure statement of the law PairTwice, that the Lean functions printed for it answer true for every input; no condition beyond the statement's own. -/
import Derived.Test.YtldbjnemjlmjpaaPx3
import Derived.Test.YtldbjnemjlmjpaaPInts
import Derived.Test.YtldbjnemjlmjpaaPPair

namespace Go.Proofs.Ytldbjnemjlmjpaa.Pure
open Go.RowKit Go.Proofs.Ytldbjnemjlmjpaa.P Go.Proofs.YtldbjnemjlmjpaaW.PrintWords Go.Proofs.YtldbjnemjlmjpaaW.PrintLast Go.Proofs.YtldbjnemjlmjpaaW.PrintMore
set_option linter.unusedVariables false
set_option linter.unusedSimpArgs false

theorem alive3 (k : Nat) (hk : 20 ≤ k) : ductuslaw03_alive.f k = some true := more ductuslaw03_alive.mono 20 k hk _ (by decide +kernel)

theorem mn_twice (c : Int) : mn (mn c (mir c)) (mir (mn c (mir c))) = mn c (mir c) := by
  unfold mn
  by_cases h : mir c < c
  · rw [if_pos h, mir_mir, if_neg (by omega)]
  · rw [if_neg h, if_neg h]
theorem plain_twice (l : List Int) : plainL (plainL l) = plainL l := by
  unfold plainL
  rw [List.map_map]
  exact List.map_congr_left fun c _ => mn_twice c
/-- What is a bracket's other one. -/
theorem other_twice (c : Int) : (pair_Other.ans c).2.2 = true → (pair_Other.ans (pair_Other.ans c).1).2.2 = true ∧ (pair_Other.ans (pair_Other.ans c).1).1 = c ∧ ((pair_Other.ans c).2.1 != (pair_Other.ans (pair_Other.ans c).1).2.1) = true ∧ mir c = (pair_Other.ans c).1 ∧ sameb c c = true ∧ sameb c (pair_Other.ans c).1 = false := by
  revert c
  refine by_keys _ (by decide +kernel) fun c h => ?_
  rw [ans_out h]
  intro h
  cases h
theorem PairTwice : ductuslaw03_PairTwice.Pure := by
  intro a0 l w0 hm hl hw
  refine ⟨l.length + 30, ?_⟩
  have hp : (plainL l).length = l.length := by simp [plainL]
  have hk : 4 ≤ l.length + 30 := by omega
  have e1 : pair_Plain.f (l.length + 30) l = some (plainL l) := plain_eq _ l hl (by omega)
  have e2 : pair_Plain.f (l.length + 30) (plainL l) = some (plainL l) := by rw [plain_eq _ (plainL l) (by omega) (by omega), plain_twice]
  have e3 : ductusref01_Ints.f (l.length + 30) (plainL l) (plainL l) = some true := ints_same _ _ (by omega) (by omega)
  unfold ductuslaw03_PairTwice.f
  rw [alive3 _ (by omega)]
  simp only [Option.bind_some, if_true]
  by_cases h : (l.length : Int) > 5000
  · rw [if_pos h]
  · rw [if_neg h]
    simp only [pair_Other.f, Option.bind_some, mirror_eq _ hk, mir_mir, e1, e2, e3, if_true, same_eq, hp, beq_self_eq_true]
    by_cases ho : (pair_Other.ans a0).2.2 = true
    · obtain ⟨h1, h2, h3, h4, h5, h6⟩ := other_twice a0 ho
      rw [if_pos ho, if_pos h1, if_pos h2, if_pos h3, if_pos h4, if_pos h5, if_neg (by rw [h6]; simp)]
    · rw [if_neg ho]

end Go.Proofs.Ytldbjnemjlmjpaa.Pure
