/- Proved: the pure statement of the law StripRanks, that the Lean functions printed for it answer true for every input; no condition beyond the statement's own. -/
import Derived.Test.YtdidobaojpdmdaaPx6
import Derived.Test.YtdidobaojpdmdaaPInts
import Derived.Test.YtdidobaojpdmdaaPStrip
namespace Go.Proofs.Ytdidobaojpdmdaa.Pure
open Go.RowKit Go.Proofs.Ytdidobaojpdmdaa.P Go.Proofs.YtdidobaojpdmdaaW.PrintWords Go.Proofs.YtdidobaojpdmdaaW.PrintLast Go.Proofs.YtdidobaojpdmdaaW.PrintMore
set_option linter.unusedVariables false
set_option linter.unusedSimpArgs false

theorem alive07 (k : Nat) (hk : 110 ≤ k) : ductuslaw07_alive.f k = some true := more ductuslaw07_alive.mono 110 k hk _ (by decide +kernel)
theorem rank_take (l : List Int) (n : Nat) : rankOf l (n : Int) = (((l.take n).filter keepc).length : Int) := by
  unfold rankOf
  rw [Int.toNat_natCast]
theorem rank_succ (l : List Int) (n : Nat) : rankOf l (n : Int) ≤ rankOf l ((n + 1 : Nat) : Int) ∧ rankOf l ((n + 1 : Nat) : Int) ≤ rankOf l (n : Int) + 1 := by
  rw [rank_take, rank_take]
  by_cases h : n < l.length
  · rw [List.take_succ_eq_append_getElem h, List.filter_append, List.length_append]
    have := List.length_filter_le keepc [l[n]]
    simp only [List.length_cons, List.length_nil] at this
    omega
  · rw [List.take_of_length_le (by omega), List.take_of_length_le (by omega)]
    omega
theorem StripRanks : ductuslaw07_StripRanks.Pure := by
  intro l i hm hl hw hi
  have hi0 : 0 ≤ i ∧ i ≤ 65535 := by
    have hmin : IntKind.u16.min = 0 := rfl
    have hmax : IntKind.u16.max = 65535 := rfl
    simp only [Lit.wf, Bool.and_eq_true, decide_eq_true_eq] at hi
    omega
  obtain ⟨K, hK⟩ : ∃ K, K = l.length + 200 := ⟨_, rfl⟩
  refine ⟨K, ?_⟩
  unfold ductuslaw07_StripRanks.f
  rw [alive07 _ (by omega)]
  simp only [Option.bind_some, if_true]
  by_cases h : (l.length : Int) > 1000
  · rw [if_pos h]
  · rw [if_neg h, wrap_id (x := (l.length : Int) + 1) (by omega) (by omega), wrap_id (x := i) (by omega) (by omega), if_neg (by omega)]
    obtain ⟨n, hn⟩ : ∃ n : Nat, (n : Int) = Int.tmod i ((l.length : Int) + 1) := ⟨(Int.tmod i ((l.length : Int) + 1)).toNat, by
      have := Int.tmod_nonneg ((l.length : Int) + 1) hi0.1
      omega⟩
    have hnl : n ≤ l.length := by
      have := Int.tmod_lt_of_pos i (show 0 < (l.length : Int) + 1 by omega)
      omega
    rw [← hn, wrap_succ n (by omega), strip_rank_eq K l _ hl (by omega), strip_rank_eq K l _ hl (by omega)]
    simp only [Option.bind_some]
    have ht : (l.take n).length ≤ l.length := by rw [List.length_take]; omega
    have hr := rank_succ l n
    have hr0 : 0 ≤ rankOf l (n : Int) ∧ rankOf l (n : Int) ≤ 1000 := by
      rw [rank_take]
      have := filter_le keepc (l.take n)
      omega
    rw [if_pos (by omega), if_pos (by omega), Int.toNat_natCast, strip_chars_eq K _ (by omega) (by omega)]
    simp only [Option.bind_some]
    rw [if_pos (rank_take l n), if_pos (by omega), wrap_id (by omega) (by omega), if_pos (by omega), strip_rank_eq K l _ hl (by omega), strip_kept_places K l hl (by omega)]
    simp only [Option.bind_some]
    rw [if_pos (by rw [rank_take, places_len, List.take_length]), strip_rank_eq K l _ hl (by omega)]
    rfl

end Go.Proofs.Ytdidobaojpdmdaa.Pure
