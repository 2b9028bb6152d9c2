/- Proved: where those of a list stand that a test lets; no condition. -/
import Derived.Test.YtmgagebjdldenaaPLib
namespace Go.Proofs.Ytmgagebjdldenaa.P
open Go.RowKit Go.Proofs.YtmgagebjdldenaaW.PrintWords Go.Proofs.YtmgagebjdldenaaW.PrintLast
set_option linter.unusedVariables false

/-- The places of those that a test lets. -/
def placesOf (p : Int → Bool) : Nat → List Int → List Int
  | _, [] => []
  | i, c :: l => if p c then (i : Int) :: placesOf p (i + 1) l else placesOf p (i + 1) l
theorem places_len (p : Int → Bool) : ∀ (i : Nat) (l : List Int), (placesOf p i l).length = (l.filter p).length
  | _, [] => rfl
  | i, c :: l => by
    simp only [placesOf, List.filter_cons]
    split <;> simp [places_len p (i + 1) l]
theorem places_mem (p : Int → Bool) : ∀ (i : Nat) (l : List Int) (x : Int), x ∈ placesOf p i l → (i : Int) ≤ x ∧ x < ((i + l.length : Nat) : Int)
  | _, [], _, h => by simp [placesOf] at h
  | i, c :: l, x, h => by
    simp only [placesOf] at h
    have h2 : ∀ x ∈ placesOf p (i + 1) l, (i : Int) ≤ x ∧ x < ((i + (l.length + 1) : Nat) : Int) := fun x hx => by
      have := places_mem p (i + 1) l x hx
      omega
    simp only [List.length_cons]
    split at h
    · rcases List.mem_cons.1 h with rfl | h
      · omega
      · exact h2 x h
    · exact h2 x h
theorem places_rd (p : Int → Bool) (w : List Int) : ∀ (i : Nat) (l : List Int), w.drop i = l → (placesOf p i l).map (rd w) = l.filter p
  | _, [], _ => rfl
  | i, c :: l, h => by
    have hi : i < w.length := by
      rcases Nat.lt_or_ge i w.length with h2 | h2
      · exact h2
      · rw [List.drop_eq_nil_of_le h2] at h
        cases h
    rw [drop_cons w i hi] at h
    injection h with h1 h2
    simp only [placesOf, List.filter_cons]
    split
    · rw [List.map_cons, places_rd p w (i + 1) l h2, h1]
    · exact places_rd p w (i + 1) l h2
theorem filter_le (p : Int → Bool) (l : List Int) : (l.filter p).length ≤ l.length := List.length_filter_le _ _

theorem places_up (p : Int → Bool) : ∀ (i : Nat) (l : List Int), List.Pairwise (· < ·) (placesOf p i l)
  | _, [] => List.Pairwise.nil
  | i, c :: l => by
    simp only [placesOf]
    split
    · refine List.pairwise_cons.2 ⟨fun x hx => ?_, places_up p (i + 1) l⟩
      have := places_mem p (i + 1) l x hx
      omega
    · exact places_up p (i + 1) l
theorem places_app (p : Int → Bool) : ∀ (i : Nat) (a b : List Int), placesOf p i (a ++ b) = placesOf p i a ++ placesOf p (i + a.length) b
  | i, [], b => by simp [placesOf]
  | i, c :: a, b => by
    simp only [List.cons_append, placesOf, List.length_cons]
    have h := places_app p (i + 1) a b
    have e : i + 1 + a.length = i + (a.length + 1) := by omega
    rw [e] at h
    split <;> rw [h]
    rfl
theorem places_shift (p : Int → Bool) (d : Nat) : ∀ (i : Nat) (l : List Int), placesOf p (d + i) l = (placesOf p i l).map fun x => (d : Int) + x
  | i, [] => rfl
  | i, c :: l => by
    have h := places_shift p d (i + 1) l
    have e : d + (i + 1) = d + i + 1 := by omega
    rw [e] at h
    simp only [placesOf]
    split
    · rw [h, List.map_cons]
      congr 1
    · exact h

end Go.Proofs.Ytmgagebjdldenaa.P
