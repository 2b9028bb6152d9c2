/- Proved: the pure statement of the law PairPlains, that the Lean functions printed for it answer true for every input; no condition beyond the statement's own. -/
import Derived.Test.YtldbjnemjlmjpaaPx4
import Derived.Test.YtldbjnemjlmjpaaPInts
import Derived.Test.YtldbjnemjlmjpaaPPair

namespace Go.Proofs.Ytldbjnemjlmjpaa.Pure
open Go.RowKit Go.Proofs.Ytldbjnemjlmjpaa.P Go.Proofs.YtldbjnemjlmjpaaW.PrintWords Go.Proofs.YtldbjnemjlmjpaaW.PrintLast Go.Proofs.YtldbjnemjlmjpaaW.PrintMore
set_option linter.unusedVariables false
set_option linter.unusedSimpArgs false

theorem alive3 (k : Nat) (hk : 20 ≤ k) : ductuslaw03_alive.f k = some true := more ductuslaw03_alive.mono 20 k hk _ (by decide +kernel)

theorem round_loop (a b : List Int) (hl : a.length * 8 ≤ 140737488351232) (r : Option Bool) (K : Nat) (hr : ∀ k, K ≤ k → ductuslaw03_PairPlains.l0 k a b (a.map mir) (a.length : Int) = r) (hK : 4 ≤ K) (d : Nat) : ∀ (k i : Nat) (acc : List Int), i ≤ a.length → a.length - i = d → d + K ≤ k → acc = (a.take i).map mir →
    ductuslaw03_PairPlains.l0 k a b acc (i : Int) = r := by
  induction d with
  | zero =>
    intro k i acc hi hd hk ha
    obtain rfl : i = a.length := by omega
    rw [List.take_length] at ha
    subst ha
    exact hr k (by omega)
  | succ d ih =>
    intro k i acc hi hd hk ha
    obtain ⟨k, rfl⟩ : ∃ m, k = m + 1 := ⟨k - 1, by omega⟩
    have hla : acc.length = i := by rw [ha, List.length_map, List.length_take]; omega
    simp only [ductuslaw03_PairPlains.l0]
    rw [if_pos (by omega), if_pos (by omega), mirror_eq k (by omega)]
    simp only [Option.bind_some]
    rw [if_pos (by omega), wrap_succ i (by omega)]
    refine ih k (i + 1) _ (by omega) (by omega) (by omega) ?_
    rw [ha, List.take_succ_eq_append_getElem (by omega), List.map_append, rd_get a i (by omega)]
    rfl
theorem plain_round (a : List Int) : plainL (a.map mir) = plainL a := by
  unfold plainL
  rw [List.map_map]
  refine List.map_congr_left fun c _ => ?_
  show mn (mir c) (mir (mir c)) = mn c (mir c)
  rw [mir_mir]
  unfold mn
  by_cases h : c < mir c
  · rw [if_pos h, if_neg (by omega)]
  · by_cases h2 : mir c < c
    · rw [if_neg h, if_pos h2]
    · rw [if_neg h, if_neg h2]
      omega
theorem PairPlains : ductuslaw03_PairPlains.Pure := by
  intro a b hm0 hl0 hw0 hm1 hl1 hw1
  obtain ⟨K, hK⟩ : ∃ K, K = a.length + b.length + 30 := ⟨_, rfl⟩
  have hj : ∀ k, a.length + K + 1 ≤ k → a.length ≤ 1000 → b.length ≤ 1000 → ductuslaw03_PairPlains.l0 k a b [] 0 = some true := by
    intro k hk ha hb
    refine round_loop a b hl0 (some true) K ?_ (by omega) a.length k 0 [] (by omega) (by omega) (by omega) rfl
    intro k hk
    obtain ⟨k, rfl⟩ : ∃ m, k = m + 1 := ⟨k - 1, by omega⟩
    have l1 : (plainL a).length = a.length := by simp [plainL]
    have l2 : (plainL b).length = b.length := by simp [plainL]
    have l3 : (a.map mir).length = a.length := by simp
    simp only [ductuslaw03_PairPlains.l0]
    rw [if_neg (by omega), plain_eq k (a.map mir) (by omega) (by omega), plain_eq k a hl0 (by omega), plain_round]
    simp only [Option.bind_some]
    rw [ints_same k _ (by omega) (by omega)]
    simp only [Option.bind_some, if_true, List.nil_append, List.length_nil, Nat.zero_add]
    rw [if_pos (by omega), if_pos (by omega), plain_eq k (a ++ b) (by simp; omega) (by simp; omega), plain_eq k b hl1 (by omega)]
    simp only [Option.bind_some]
    rw [if_pos (by omega), if_pos (by omega)]
    have e : plainL (a ++ b) = plainL a ++ plainL b := by simp [plainL]
    rw [e, ints_same k _ (by simp; omega) (by simp; omega)]
    rfl
  refine ⟨a.length + K + 3, ?_⟩
  unfold ductuslaw03_PairPlains.f
  rw [alive3 _ (by omega)]
  simp only [Option.bind_some, if_true]
  by_cases h : (a.length : Int) > 1000
  · rw [if_pos h]
    simp only [ductuslaw03_PairPlains.j0, if_true]
  · rw [if_neg h]
    by_cases h2 : (b.length : Int) > 1000
    · rw [decide_eq_true h2]
      simp only [ductuslaw03_PairPlains.j0, if_true]
    · rw [decide_eq_false h2]
      simp only [ductuslaw03_PairPlains.j0]
      rw [if_neg (by decide)]
      exact hj _ (by omega) (by omega) (by omega)

end Go.Proofs.Ytldbjnemjlmjpaa.Pure
