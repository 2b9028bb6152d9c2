/- Proved: the pure statement of the law UtfSizes, that the Lean functions printed for it answer true for every input; no condition beyond the statement's own. -/
import Derived.Test.YtgcdhjgdlnpknaaDoorPx7
import Derived.Test.YtgcdhjgdlnpknaaDoorPUtf
namespace Go.Proofs.YtgcdhjgdlnpknaaDoor.Pure
open Go.RowKit Go.Proofs.YtgcdhjgdlnpknaaDoor.P Go.Proofs.YtgcdhjgdlnpknaaDoorW.PrintWords Go.Proofs.YtgcdhjgdlnpknaaDoorW.PrintLast Go.Proofs.YtgcdhjgdlnpknaaDoorW.PrintMore
set_option linter.unusedVariables false
set_option linter.unusedSimpArgs false

theorem size_mono {a b : Int} (ha : RightC a) (hb : RightC b) (h : a ≤ b) : (bytesC a).length ≤ (bytesC b).length := by
  rw [bytesC_len, bytesC_len, if_pos ha, if_pos hb]
  clear ha hb
  repeat' split
  all_goals omega
theorem UtfSizes : ductuslaw01_UtfSizes.Pure := by
  intro a b wa wb
  refine Ev.rounds ?_
  obtain ⟨K0, h0⟩ := alive01
  obtain ⟨K1, h1⟩ := sizeU_ev a
  obtain ⟨K2, h2⟩ := sizeU_ev b
  obtain ⟨K3, h3⟩ := rightU_ev a
  obtain ⟨K4, h4⟩ := encU_ev [a] (by simp)
  have l4 := bytes_le a
  have hr : RightC a ↔ 0 < (bytesC a).length := by
    constructor
    · exact bytesC_pos
    · intro hp
      by_cases h : RightC a
      · exact h
      · rw [bytesC_no h] at hp
        simp at hp
  have hrb : ¬ RightC b → (bytesC b).length = 0 := fun h => by rw [bytesC_no h]; rfl
  refine ⟨K0 + K1 + K2 + K3 + K4 + 1, fun k hk => ?_⟩
  obtain ⟨k, rfl⟩ : ∃ m, k = m + 1 := ⟨k - 1, by omega⟩
  have g0 := h0 (k + 1) (by omega)
  have g1 := h1 (k + 1) (by omega)
  have g2 := h2 (k + 1) (by omega)
  have g3 := h3 (k + 1) (by omega)
  have g4 := h4 k (by omega)
  dsimp only at g0 g1 g2 g3 g4
  have e1 : (decide (RightC a) != decide (((bytesC a).length : Int) > 0)) = false := by
    by_cases h : RightC a
    · rw [decide_eq_true h, decide_eq_true (by have := hr.1 h; omega)]
      rfl
    · rw [decide_eq_false h, decide_eq_false (fun x => h (hr.2 (by omega)))]
      rfl
  show ductuslaw01_UtfSizes.f (k + 1) a b = some true
  unfold ductuslaw01_UtfSizes.f
  rw [g0, Option.bind_some, if_pos rfl, g1, Option.bind_some, g2, Option.bind_some, g3, Option.bind_some, e1, if_neg (by simp), if_neg (by omega), decide_eq_false (show ¬ ((bytesC a).length : Int) < 0 by omega)]
  simp only [ductuslaw01_UtfSizes.j0]
  rw [if_neg (by simp), g4, Option.bind_some]
  by_cases h : RightC a
  · have hp := hr.1 h
    have ee : encB [a] = bytesC a := by simp [encB]
    have e2 : encM [a] = (bytesC a, 0) := by
      unfold encM
      rw [if_pos (show allR [a] from fun x hx => by simp at hx; rw [hx]; exact h), ee, if_pos (by omega)]
    rw [e2, if_neg (by omega), if_pos rfl, if_pos rfl]
    by_cases hm : ((bytesC b).length : Int) = 0
    · rw [if_pos hm]
    · rw [if_neg hm]
      by_cases hab : a > b
      · rw [if_pos hab]
      · have hb : RightC b := Decidable.byContradiction fun x => hm (by rw [hrb x]; rfl)
        have := size_mono h hb (by omega)
        rw [if_neg hab, decide_eq_true (by omega)]
  · have e0 : ((bytesC a).length : Int) = 0 := by rw [bytesC_no h]; rfl
    have e2 : encM [a] = ([], 1) := by
      unfold encM
      rw [if_neg (show ¬ allR [a] from fun x => h (x a (by simp)))]
    rw [e2, if_pos e0, if_pos rfl]
    rfl
end Go.Proofs.YtgcdhjgdlnpknaaDoor.Pure
