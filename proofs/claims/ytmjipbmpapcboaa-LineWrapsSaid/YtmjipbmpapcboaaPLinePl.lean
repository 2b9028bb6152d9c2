/- Proved: how lines lie one behind the other, and which one a place is in; plain lists, no condition beyond those written. -/
import Derived.Test.YtmjipbmpapcboaaPLine
namespace Go.Proofs.Ytmjipbmpapcboaa.P
open Go.RowKit Go.Proofs.YtmjipbmpapcboaaW.PrintWords Go.Proofs.YtmjipbmpapcboaaW.PrintLast Go.Proofs.YtmjipbmpapcboaaW.PrintMore
set_option linter.unusedVariables false
set_option linter.unusedSimpArgs false

/-- Where the line at i begins. -/
def prevI (f : Int) (l : List Int) (i : Nat) : Int := if i = 0 then f else rd l ((i - 1 : Nat) : Int)
theorem rd_cons_succ (x : Int) (l : List Int) (i : Nat) : rd (x :: l) ((i + 1 : Nat) : Int) = rd l (i : Int) := by
  rw [rd_nat, rd_nat]
  rfl
theorem rd_cons_zero (x : Int) (l : List Int) : rd (x :: l) ((0 : Nat) : Int) = x := by
  rw [rd_nat]
  rfl
theorem prev_succ (f x : Int) (l : List Int) (i : Nat) : prevI f (x :: l) (i + 1) = prevI x l i := by
  unfold prevI
  rw [if_neg (by omega)]
  cases i with
  | zero => rfl
  | succ i =>
    rw [if_neg (by omega)]
    have e : i + 1 + 1 - 1 = i + 1 := by omega
    rw [e, rd_cons_succ]
    rfl
theorem valid_iff (n : Int) : ∀ (l : List Int) (f : Int), validB f l n = true ↔ (∀ i, i < l.length → prevI f l i < rd l (i : Int)) ∧ prevI f l l.length = n
  | [], f => by simp [validB, prevI]
  | b :: l, f => by
    have h := valid_iff n l b
    simp only [validB, Bool.and_eq_true, decide_eq_true_eq, h, List.length_cons]
    rw [prev_succ]
    constructor
    · rintro ⟨h1, h2, h3⟩
      refine ⟨fun i hi => ?_, h3⟩
      cases i with
      | zero =>
        rw [rd_cons_zero]
        exact h1
      | succ i =>
        rw [prev_succ, rd_cons_succ]
        exact h2 i (by omega)
    · rintro ⟨h1, h2⟩
      refine ⟨?_, fun i hi => ?_, h2⟩
      · have := h1 0 (by omega)
        rw [rd_cons_zero] at this
        exact this
      · have := h1 (i + 1) (by omega)
        rw [prev_succ, rd_cons_succ] at this
        exact this
theorem span_at : ∀ (l : List Int) (f : Int) (i : Nat), i < l.length → rd_T29 (spansB f l) (i : Int) = ⟨prevI f l i, rd l (i : Int)⟩
  | [], _, _, h => by simp at h
  | b :: l, f, i, h => by
    rw [rdS _ _ (by rw [spansB_len]; exact h)]
    cases i with
    | zero => rfl
    | succ i =>
      have := span_at l b i (by simpa using h)
      rw [rdS _ _ (by rw [spansB_len]; simpa using h)] at this
      rw [prev_succ, rd_cons_succ]
      simpa [spansB] using this
theorem idx_ge (p : Int → Bool) : ∀ (l : List Int) (i : Nat), idxFrom p i l = -1 ∨ (i : Int) ≤ idxFrom p i l
  | [], _ => .inl rfl
  | x :: l, i => by
    simp only [idxFrom]
    split
    · exact .inr (Int.le_refl _)
    · rcases idx_ge p l (i + 1) with h | h
      · exact .inl h
      · exact .inr (by omega)
/-! one length -/
theorem wrapN_len (n w : Nat) : (wrapN n w).length = (n - 1) / w + 1 := by simp [wrapN, mults_len]
theorem wrapN_rd (n w i : Nat) (h : i < (n - 1) / w) : rd (wrapN n w) (i : Int) = (((i + 1) * w : Nat) : Int) := by
  rw [rd_nat, wrapN, List.getD_eq_getElem?_getD, List.getElem?_append_left (by rw [mults_len]; exact h)]
  simp [mults, h]
theorem wrapN_last (n w : Nat) : rd (wrapN n w) (((n - 1) / w : Nat) : Int) = (n : Int) := by
  rw [rd_nat, wrapN, List.getD_eq_getElem?_getD, List.getElem?_append_right (by rw [mults_len]; exact Nat.le_refl _), mults_len]
  simp
theorem wrapN_prev (n w i : Nat) (h : i ≤ (n - 1) / w) : prevI 0 (wrapN n w) i = ((i * w : Nat) : Int) := by
  unfold prevI
  cases i with
  | zero => simp
  | succ i =>
    rw [if_neg (by omega)]
    have e : i + 1 - 1 = i := by omega
    rw [e, wrapN_rd n w i (by omega)]
theorem wrapN_bd (n w : Nat) (hn : 1 ≤ n) (hw : 1 ≤ w) : (n - 1) / w * w ≤ n - 1 ∧ n - 1 < (n - 1) / w * w + w := by
  refine ⟨Nat.div_mul_le_self _ _, ?_⟩
  have := Nat.lt_mul_div_succ (n - 1) (show 0 < w by omega)
  rw [Nat.mul_comm, Nat.succ_mul] at this
  exact this
theorem wrapN_valid (n w : Nat) (hn : 1 ≤ n) (hw : 1 ≤ w) : validB 0 (wrapN n w) (n : Int) = true := by
  have hb := wrapN_bd n w hn hw
  rw [valid_iff, wrapN_len]
  constructor
  · intro i hi
    rw [wrapN_prev n w i (by omega)]
    by_cases h : i < (n - 1) / w
    · rw [wrapN_rd n w i h]
      have e : (i + 1) * w = i * w + w := Nat.succ_mul i w
      omega
    · obtain rfl : i = (n - 1) / w := by omega
      rw [wrapN_last]
      omega
  · unfold prevI
    rw [if_neg (Nat.succ_ne_zero _), Nat.add_sub_cancel, wrapN_last]
end Go.Proofs.Ytmjipbmpapcboaa.P
