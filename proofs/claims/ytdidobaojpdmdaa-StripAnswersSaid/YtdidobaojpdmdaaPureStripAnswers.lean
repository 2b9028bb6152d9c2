/- Proved: the pure statement of the law StripAnswers, that the Lean functions printed for it answer true for every input; no condition beyond the statement's own. -/
import Derived.Test.YtdidobaojpdmdaaPx4
import Derived.Test.YtdidobaojpdmdaaPInts
import Derived.Test.YtdidobaojpdmdaaPStripRef
namespace Go.Proofs.Ytdidobaojpdmdaa.Pure
open Go.RowKit Go.Proofs.Ytdidobaojpdmdaa.P Go.Proofs.YtdidobaojpdmdaaW.PrintWords Go.Proofs.YtdidobaojpdmdaaW.PrintLast Go.Proofs.YtdidobaojpdmdaaW.PrintMore
set_option linter.unusedVariables false
set_option linter.unusedSimpArgs false

theorem alive07 (k : Nat) (hk : 110 ≤ k) : ductuslaw07_alive.f k = some true := more ductuslaw07_alive.mono 110 k hk _ (by decide +kernel)
theorem StripAnswers : ductuslaw07_StripAnswers.Pure := by
  intro a b i hm0 hl0 hw0 hm1 hl1 hw1 hi
  obtain ⟨K, hK⟩ : ∃ K, K = 2 * a.length + b.length + 200 := ⟨_, rfl⟩
  have hj : ductuslaw07_StripAnswers.j0 (K + 1) a b i false = some true := by
    have h1 : (placesOf keepc 0 a).length ≤ a.length := by rw [places_len]; exact filter_le _ _
    have h2 := filter_le keepc a
    have h3 := filter_le outc a
    simp only [ductuslaw07_StripAnswers.j0]
    rw [if_neg (by decide), strip_kept_places K a hl0 (by omega), rkept_eq K a hl0 (by omega)]
    simp only [Option.bind_some]
    rw [ints_same K _ (by omega) (by omega)]
    simp only [Option.bind_some, if_true]
    rw [strip_chars_eq K a hl0 (by omega), rchars_eq K a hl0 (by omega)]
    simp only [Option.bind_some]
    rw [ints_same K _ (by omega) (by omega)]
    simp only [Option.bind_some, if_true]
    rw [strip_only_eq K a hl0 (by omega), ronly_eq K a hl0 (by omega)]
    simp only [Option.bind_some]
    rw [ints_same K _ (by omega) (by omega)]
    simp only [Option.bind_some, if_true]
    rw [strip_rank_eq K a i hl0 (by omega), rrank_eq K a i hl0 (by omega)]
    simp only [Option.bind_some, if_true]
    rw [strip_same_eq K a b hl0 hl1 (by omega) (by omega), rsame7_eq K a b hl0 hl1 (by omega) (by omega)]
    simp
  have ht : ductuslaw07_StripAnswers.j0 (K + 1) a b i true = some true := by simp only [ductuslaw07_StripAnswers.j0, if_true]
  refine ⟨K + 1, ?_⟩
  unfold ductuslaw07_StripAnswers.f
  rw [alive07 _ (by omega)]
  simp only [Option.bind_some, if_true]
  by_cases h : (a.length : Int) > 2000
  · rw [if_pos h, ht]
  · rw [if_neg h]
    by_cases h2 : (b.length : Int) > 2000
    · rw [decide_eq_true h2, ht]
    · rw [decide_eq_false h2, hj]

end Go.Proofs.Ytdidobaojpdmdaa.Pure
