/- Proved: the pure statement of the law ClassWords, that the Lean functions printed for it answer true for every input; no condition beyond the statement's own. -/
import Derived.Test.YtnbhncmggfjgdaaDoorPx2
import Derived.Test.YtnbhncmggfjgdaaDoorPCls
namespace Go.Proofs.YtnbhncmggfjgdaaDoor.Pure
open Go.RowKit Go.Proofs.YtnbhncmggfjgdaaDoor.P Go.Proofs.YtnbhncmggfjgdaaDoorW.PrintWords Go.Proofs.YtnbhncmggfjgdaaDoorW.PrintLast Go.Proofs.YtnbhncmggfjgdaaDoorW.PrintMore
set_option linter.unusedVariables false
set_option linter.unusedSimpArgs false

theorem word_in (a : Int) : ((wordM a).toList != ([] : List UInt8)) = decide (0 ≤ a ∧ a ≤ 22) := by
  by_cases h : 0 ≤ a ∧ a ≤ 22
  · rw [decide_eq_true h]
    have hc := in_classes h.1 h.2
    revert a
    exact fun a _ hc => (by decide +kernel : ∀ a ∈ classes, ((wordM a).toList != ([] : List UInt8)) = true) a hc
  · rw [decide_eq_false h]
    have e : wordM a = ⟨#[]⟩ := by
      unfold wordM
      by_cases h0 : a < 0
      · rw [if_pos h0]
      · rw [if_neg h0, if_pos (by omega)]
    rw [e]
    decide +kernel
theorem words_apart (a b : Int) (ha : 0 ≤ a ∧ a ≤ 22) (hb : 0 ≤ b ∧ b ≤ 22) : (((wordM a).toList == (wordM b).toList) == (a == b)) = true := by
  have h : ∀ a ∈ classes, ∀ b ∈ classes, (((wordM a).toList == (wordM b).toList) == (a == b)) = true := by decide +kernel
  exact h a (in_classes ha.1 ha.2) b (in_classes hb.1 hb.2)
theorem words_j0 (a b : Int) : Ev (fun k => ductuslaw02_ClassWords.j0 k a b (decide (0 ≤ a ∧ a ≤ 22))) true := by
  have hwa := word_in a
  have hwb := word_in b
  by_cases h : 0 ≤ a ∧ a ≤ 22
  · rw [decide_eq_true h] at hwa ⊢
    refine ev_one fun k => ?_
    simp only [ductuslaw02_ClassWords.j0]
    rw [word_f a, Option.bind_some, hwa, if_neg (by simp), if_pos trivial, word_f b, Option.bind_some]
    by_cases h2 : (wordM b).toList = ([] : List UInt8)
    · rw [if_pos h2]
    · rw [if_neg h2, Option.bind_some, Option.bind_some]
      have hb : 0 ≤ b ∧ b ≤ 22 := by
        have h3 : ((wordM b).toList != ([] : List UInt8)) = true := by simpa using h2
        rw [hwb] at h3
        exact of_decide_eq_true h3
      rw [words_apart a b h hb]
  · rw [decide_eq_false h] at hwa ⊢
    have e1 : stgK a = false := by
      unfold stgK
      rw [decide_eq_false_iff_not]
      simp only [List.mem_cons, List.not_mem_nil, or_false]
      omega
    have e2 : outK a = false := by
      unfold outK
      rw [decide_eq_false_iff_not]
      simp only [List.mem_cons, List.not_mem_nil, or_false]
      omega
    have e3 : opnK a = false := by
      unfold opnK
      rw [decide_eq_false_iff_not]
      simp only [List.mem_cons, List.not_mem_nil, or_false]
      omega
    have e4 : neuK a = false := by
      unfold neuK
      rw [decide_eq_false_iff_not]
      simp only [List.mem_cons, List.not_mem_nil, or_false]
      omega
    have s1 := stg_ev a
    have s2 := out_ev a
    have s3 := opens_ev a
    have s4 := neu_ev a
    rw [e1] at s1
    rw [e2] at s2
    rw [e3] at s3
    rw [e4] at s4
    obtain ⟨K1, s1⟩ := s1
    obtain ⟨K2, s2⟩ := s2
    obtain ⟨K3, s3⟩ := s3
    obtain ⟨K4, s4⟩ := s4
    refine ⟨K1 + K2 + K3 + K4 + 1, fun k hk => ?_⟩
    obtain ⟨k, rfl⟩ : ∃ j, k = j + 1 := ⟨k - 1, by omega⟩
    replace s1 := s1 k (by omega)
    replace s2 := s2 k (by omega)
    replace s3 := s3 k (by omega)
    replace s4 := s4 k (by omega)
    dsimp only at s1 s2 s3 s4
    show ductuslaw02_ClassWords.j0 (k + 1) a b false = some true
    simp only [ductuslaw02_ClassWords.j0]
    rw [word_f a, Option.bind_some, hwa, if_neg (by simp), if_neg (by simp), s1, Option.bind_some, if_neg (by simp), s2, Option.bind_some, if_neg (by simp), s3, Option.bind_some, if_neg (by simp), s4, Option.bind_some]
    rfl
theorem ClassWords : ductuslaw02_ClassWords.Pure := by
  intro a b ha hb
  refine Ev.rounds (ev_same2 alive02 (words_j0 a b) fun k h0 hk => ?_)
  unfold ductuslaw02_ClassWords.f
  rw [h0, Option.bind_some, if_pos rfl]
  by_cases h : a ≥ 0
  · rw [if_pos h]
    have e : decide (0 ≤ a ∧ a ≤ 22) = decide (a ≤ 22) := by
      by_cases h2 : a ≤ 22
      · rw [decide_eq_true h2, decide_eq_true ⟨h, h2⟩]
      · rw [decide_eq_false h2, decide_eq_false (fun x => h2 x.2)]
    rw [e] at hk
    exact hk
  · rw [if_neg h]
    have e : decide (0 ≤ a ∧ a ≤ 22) = false := decide_eq_false (fun x => h x.1)
    rw [e] at hk
    exact hk
end Go.Proofs.YtnbhncmggfjgdaaDoor.Pure
