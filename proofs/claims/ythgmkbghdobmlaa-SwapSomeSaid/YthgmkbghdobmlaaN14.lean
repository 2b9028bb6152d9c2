/- Texts of this claim put together by a program of its own, what no law of the claim uses left out: each part's statements bear their own conditions. -/
import Derived.Test.YthgmkbghdobmlaaN0
import Derived.Test.YthgmkbghdobmlaaN8
import Derived.Test.YthgmkbghdobmlaaN10
import Derived.Test.YthgmkbghdobmlaaN12
import Derived.Test.YthgmkbghdobmlaaN11
import Derived.Test.YthgmkbghdobmlaaN5
import Derived.Test.YthgmkbghdobmlaaN3
import Derived.Test.YthgmkbghdobmlaaN2
namespace Go.Proofs.Ythgmkbghdobmlaa.P
open Go.RowKit Go.Proofs.YthgmkbghdobmlaaW.PrintWords Go.Proofs.YthgmkbghdobmlaaW.PrintLast Go.Proofs.YthgmkbghdobmlaaW.PrintMore
attribute [local go_sem] max2_int min2_int max_two min_two max_three min_three max_four min_four   -- for this text's walks alone
set_option linter.unusedVariables false
set_option linter.unusedSimpArgs false

end Go.Proofs.Ythgmkbghdobmlaa.P
namespace Go.Proofs.Ythgmkbghdobmlaa.P
open Go.RowKit Go.Proofs.YthgmkbghdobmlaaW.PrintWords Go.Proofs.YthgmkbghdobmlaaW.PrintLast
set_option linter.unusedVariables false
set_option linter.unusedSimpArgs false

/-- Is it a character? -/
def RightC (c : Int) : Prop := 0 ≤ c ∧ c ≤ 1114111 ∧ (c < 55296 ∨ c > 57343)
instance (c : Int) : Decidable (RightC c) := inferInstanceAs (Decidable (0 ≤ c ∧ c ≤ 1114111 ∧ (c < 55296 ∨ c > 57343)))
theorem vrune_ev (c : Int) : Ev (fun k => utf8_ValidRune.f k c) (decide (RightC c)) := by
  have hj : ∀ b, (b = true → 0 ≤ c ∧ c < 55296) → (b = false → ¬ (0 ≤ c ∧ c < 55296)) → Ev (fun k => utf8_ValidRune.j0 k c b) (decide (RightC c)) := by
    intro b h1 h2
    refine ev_one fun k => ?_
    simp only [utf8_ValidRune.j0]
    cases b with
    | true =>
      have := h1 rfl
      rw [if_pos rfl, decide_eq_true (show RightC c from ⟨by omega, by omega, .inl (by omega)⟩)]
    | false =>
      have := h2 rfl
      rw [if_neg (by simp)]
      by_cases q1 : 57343 < c
      · rw [if_pos q1]
        by_cases q2 : c ≤ 1114111
        · rw [if_pos q2, decide_eq_true (show RightC c from ⟨by omega, q2, .inr q1⟩)]
        · rw [if_neg q2, decide_eq_false (show ¬ RightC c from fun h => q2 h.2.1)]
      · rw [if_neg q1, decide_eq_false (show ¬ RightC c from fun h => by have := h.1; have := h.2.2; omega)]
  by_cases h0 : 0 ≤ c
  · by_cases h1 : c < 55296
    · refine ev_same (hj true (fun _ => ⟨h0, h1⟩) (fun h => by cases h)) fun k hk => ?_
      unfold utf8_ValidRune.f
      rw [if_pos h0, decide_eq_true h1]
      exact hk
    · refine ev_same (hj false (fun h => by cases h) (fun _ h => h1 h.2)) fun k hk => ?_
      unfold utf8_ValidRune.f
      rw [if_pos h0, decide_eq_false h1]
      exact hk
  · refine ev_same (hj false (fun h => by cases h) (fun _ h => h0 h.1)) fun k hk => ?_
    unfold utf8_ValidRune.f
    rw [if_neg h0]
    exact hk
theorem wrap32_id {x : Int} (h0 : -2147483648 ≤ x) (h1 : x ≤ 2147483647) : wrap32 x = x := by
  unfold wrap32
  omega
theorem rightU_ev (c : Int) : Ev (fun k => utf_Right.f k c) (decide (RightC c)) := by
  by_cases h0 : c ≥ 0
  · by_cases h1 : c ≤ 1114111
    · have hw : wrap32 c = c := wrap32_id (by omega) (by omega)
      refine ev_same (vrune_ev c) fun k hk => ?_
      unfold utf_Right.f
      rw [if_pos h0, if_pos h1, hw, hk, Option.bind_some]
    · refine ev_now fun k => ?_
      unfold utf_Right.f
      rw [if_pos h0, if_neg h1, decide_eq_false (show ¬ RightC c from fun h => h1 h.2.1)]
  · refine ev_now fun k => ?_
    unfold utf_Right.f
    rw [if_neg h0, decide_eq_false (show ¬ RightC c from fun h => h0 h.1)]
def allR (l : List Int) : Prop := ∀ c ∈ l, RightC c
instance (l : List Int) : Decidable (allR l) := inferInstanceAs (Decidable (∀ c ∈ l, RightC c))
theorem idx_loop (l : List Int) (hl : l.length < 9223372036854775807) (d : Nat) : ∀ i : Nat, i + d = l.length → ∃ r, Ev (fun k => slices_IndexFunc_int_utf_Encode_1.l0 k l (l.length : Int) (i : Int)) r ∧ (r ≥ 0 ↔ ¬ allR (l.drop i)) := by
  induction d with
  | zero =>
    intro i hi
    refine ⟨-1, ev_one fun k => ?_, ?_⟩
    · simp only [slices_IndexFunc_int_utf_Encode_1.l0]
      rw [if_neg (by omega)]
    · rw [List.drop_eq_nil_of_le (by omega)]
      simp [allR]
  | succ d ih =>
    intro i hi
    have hw : wrap64 ((i : Int) + 1) = ((i + 1 : Nat) : Int) := wrap_succ i (by omega)
    have he : Ev (fun k => utf_Encode_1.f k (rd l (i : Int))) (!decide (RightC (rd l (i : Int)))) := ev_same (rightU_ev _) fun k hk => by
      unfold utf_Encode_1.f
      rw [hk]
      rfl
    by_cases h : RightC (rd l (i : Int))
    · obtain ⟨r, hr, hi2⟩ := ih (i + 1) (by omega)
      refine ⟨r, ev_step2 he hr fun k hk hk2 => ?_, ?_⟩
      · simp only [slices_IndexFunc_int_utf_Encode_1.l0]
        rw [if_pos (by omega), if_pos (by omega), if_pos (by omega), hk, decide_eq_true h, Option.bind_some, if_neg (by simp), hw]
        exact hk2
      · rw [hi2, drop_cons l i (by omega)]
        simp [allR, h]
    · refine ⟨(i : Int), ev_step he fun k hk => ?_, ?_⟩
      · simp only [slices_IndexFunc_int_utf_Encode_1.l0]
        rw [if_pos (by omega), if_pos (by omega), if_pos (by omega), hk, decide_eq_false h, Option.bind_some, if_pos (by rfl)]
      · rw [drop_cons l i (by omega)]
        simp [allR, h]
theorem contains_ev (l : List Int) (hl : l.length < 9223372036854775807) : Ev (fun k => slices_ContainsFunc_int_utf_Encode_1.f k l) (!decide (allR l)) := by
  obtain ⟨r, hr, hi⟩ := idx_loop l hl l.length 0 (by omega)
  rw [List.drop_zero] at hi
  refine ev_same hr fun k hk => ?_
  unfold slices_ContainsFunc_int_utf_Encode_1.f slices_IndexFunc_int_utf_Encode_1.f
  have hk : slices_IndexFunc_int_utf_Encode_1.l0 k l (l.length : Int) 0 = some r := hk
  rw [hk, Option.bind_some]
  by_cases h : allR l
  · rw [decide_eq_true h, decide_eq_false (show ¬ r ≥ 0 from fun x => hi.1 x h)]
    rfl
  · rw [decide_eq_false h, decide_eq_true (show r ≥ 0 from hi.2 h)]
    rfl
theorem sidx_loop (l : List Int) (hl : l.length < 9223372036854775807) (d : Nat) : ∀ i : Nat, i + d = l.length → ∃ r, Ev (fun k => slices_IndexFunc_int_swap_looked_1.l0 k l (l.length : Int) (i : Int)) r ∧ (r ≥ 0 ↔ ¬ allR (l.drop i)) := by
  induction d with
  | zero =>
    intro i hi
    refine ⟨-1, ev_one fun k => ?_, ?_⟩
    · simp only [slices_IndexFunc_int_swap_looked_1.l0]
      rw [if_neg (by omega)]
    · rw [List.drop_eq_nil_of_le (by omega)]
      simp [allR]
  | succ d ih =>
    intro i hi
    have hw : wrap64 ((i : Int) + 1) = ((i + 1 : Nat) : Int) := wrap_succ i (by omega)
    have he : Ev (fun k => swap_looked_1.f k (rd l (i : Int))) (!decide (RightC (rd l (i : Int)))) := ev_same (rightU_ev _) fun k hk => by
      unfold swap_looked_1.f
      rw [hk]
      rfl
    by_cases h : RightC (rd l (i : Int))
    · obtain ⟨r, hr, hi2⟩ := ih (i + 1) (by omega)
      refine ⟨r, ev_step2 he hr fun k hk hk2 => ?_, ?_⟩
      · simp only [slices_IndexFunc_int_swap_looked_1.l0]
        rw [if_pos (by omega), if_pos (by omega), if_pos (by omega), hk, decide_eq_true h, Option.bind_some, if_neg (by simp), hw]
        exact hk2
      · rw [hi2, drop_cons l i (by omega)]
        simp [allR, h]
    · refine ⟨(i : Int), ev_step he fun k hk => ?_, ?_⟩
      · simp only [slices_IndexFunc_int_swap_looked_1.l0]
        rw [if_pos (by omega), if_pos (by omega), if_pos (by omega), hk, decide_eq_false h, Option.bind_some, if_pos (by rfl)]
      · rw [drop_cons l i (by omega)]
        simp [allR, h]
theorem scontains_ev (l : List Int) (hl : l.length < 9223372036854775807) : Ev (fun k => slices_ContainsFunc_int_swap_looked_1.f k l) (!decide (allR l)) := by
  obtain ⟨r, hr, hi⟩ := sidx_loop l hl l.length 0 (by omega)
  rw [List.drop_zero] at hi
  refine ev_same hr fun k hk => ?_
  unfold slices_ContainsFunc_int_swap_looked_1.f slices_IndexFunc_int_swap_looked_1.f
  have hk : slices_IndexFunc_int_swap_looked_1.l0 k l (l.length : Int) 0 = some r := hk
  rw [hk, Option.bind_some]
  by_cases h : allR l
  · rw [decide_eq_true h, decide_eq_false (show ¬ r ≥ 0 from fun x => hi.1 x h)]
    rfl
  · rw [decide_eq_false h, decide_eq_true (show r ≥ 0 from hi.2 h)]
    rfl
end Go.Proofs.Ythgmkbghdobmlaa.P
namespace Go.Proofs.Ythgmkbghdobmlaa.P
open Go.RowKit Go.Proofs.YthgmkbghdobmlaaW.PrintWords Go.Proofs.YthgmkbghdobmlaaW.PrintLast Go.Proofs.YthgmkbghdobmlaaW.PrintMore
set_option linter.unusedVariables false
set_option linter.unusedSimpArgs false

end Go.Proofs.Ythgmkbghdobmlaa.P

