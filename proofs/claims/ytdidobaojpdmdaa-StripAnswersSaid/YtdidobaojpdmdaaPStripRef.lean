/- Proved: the document's answers for strip tell what the program's tell; conditions: enough rounds, and a list's bytes below 2^47. -/
import Derived.Test.YtdidobaojpdmdaaPStrip
import Derived.Test.YtdidobaojpdmdaaSOf
import Derived.Test.YtdidobaojpdmdaaPx3
import Derived.Test.YtdidobaojpdmdaaPx4
namespace Go.Proofs.Ytdidobaojpdmdaa.P
open Go.RowKit Go.Proofs.YtdidobaojpdmdaaW.PrintWords Go.Proofs.YtdidobaojpdmdaaW.PrintLast Go.Proofs.YtdidobaojpdmdaaW.PrintMore
set_option linter.unusedVariables false
set_option linter.unusedSimpArgs false

theorem rof_eq (c : Int) : ductusref02_Of.f c = some (cls c) := rfl
theorem rout0_eq (k : Int) : ductusref02_Out.f k = some (outK k) := by
  unfold ductusref02_Out.f outK
  repeat' split
  all_goals simp_all
  rfl
theorem rout_eq (c : Int) : ductusref07_Out.f c = some (outc c) := by
  unfold ductusref07_Out.f outc
  rw [rof_eq]
  simp only [Option.bind_some, rout0_eq]
theorem rkept_loop (l : List Int) (hn : l.length * 8 ≤ 140737488351232) (d : Nat) : ∀ (k i : Nat) (acc : List Int), i ≤ l.length → l.length - i = d → d < k → acc.length ≤ i →
    ductusref07_Kept.l0 k l acc (i : Int) = some (acc ++ placesOf keepc i (l.drop i)) := by
  induction d with
  | zero =>
    intro k i acc hi hd hk ha
    obtain ⟨k, rfl⟩ : ∃ m, k = m + 1 := ⟨k - 1, by omega⟩
    simp only [ductusref07_Kept.l0]
    rw [if_neg (by omega), List.drop_eq_nil_of_le (by omega)]
    simp [placesOf]
  | succ d ih =>
    intro k i acc hi hd hk ha
    obtain ⟨k, rfl⟩ : ∃ m, k = m + 1 := ⟨k - 1, by omega⟩
    simp only [ductusref07_Kept.l0]
    rw [if_pos (by omega), if_pos (by omega), rout_eq]
    simp only [Option.bind_some]
    rw [drop_cons l i (by omega), wrap_succ i (by omega)]
    by_cases h : outc (rd l (i : Int)) = true
    · have h2 : keepc (rd l (i : Int)) = false := by unfold keepc; unfold outc at h; rw [h]; rfl
      rw [if_pos h, ih k (i + 1) _ (by omega) (by omega) (by omega) (by omega)]
      simp [placesOf, h2]
    · have h2 : keepc (rd l (i : Int)) = true := by unfold keepc; unfold outc at h; simpa using h
      rw [if_neg h, if_pos (by omega), ih k (i + 1) _ (by omega) (by omega) (by omega) (by simp; omega)]
      simp [placesOf, h2]
theorem rkept_eq (k : Nat) (l : List Int) (hn : l.length * 8 ≤ 140737488351232) (hk : l.length < k) : ductusref07_Kept.f k l = some (placesOf keepc 0 l) := by
  unfold ductusref07_Kept.f
  have := rkept_loop l hn l.length k 0 [] (by omega) (by omega) hk (by simp)
  simpa using this
theorem rchars_loop (l : List Int) (hn : l.length * 8 ≤ 140737488351232) (d : Nat) : ∀ (k i : Nat) (acc : List Int), i ≤ l.length → l.length - i = d → d < k → acc.length ≤ i →
    ductusref07_Chars.l0 k l acc (i : Int) = some (acc ++ (l.drop i).filter keepc) := by
  induction d with
  | zero =>
    intro k i acc hi hd hk ha
    obtain ⟨k, rfl⟩ : ∃ m, k = m + 1 := ⟨k - 1, by omega⟩
    simp only [ductusref07_Chars.l0]
    rw [if_neg (by omega), List.drop_eq_nil_of_le (by omega)]
    simp
  | succ d ih =>
    intro k i acc hi hd hk ha
    obtain ⟨k, rfl⟩ : ∃ m, k = m + 1 := ⟨k - 1, by omega⟩
    simp only [ductusref07_Chars.l0]
    rw [if_pos (by omega), if_pos (by omega), rout_eq]
    simp only [Option.bind_some]
    rw [drop_cons l i (by omega), wrap_succ i (by omega)]
    by_cases h : outc (rd l (i : Int)) = true
    · have h2 : keepc (rd l (i : Int)) = false := by unfold keepc; unfold outc at h; rw [h]; rfl
      rw [if_pos h, ih k (i + 1) _ (by omega) (by omega) (by omega) (by omega)]
      simp [h2]
    · have h2 : keepc (rd l (i : Int)) = true := by unfold keepc; unfold outc at h; simpa using h
      rw [if_neg h, if_pos (by omega), ih k (i + 1) _ (by omega) (by omega) (by omega) (by simp; omega)]
      simp [h2]
theorem rchars_eq (k : Nat) (l : List Int) (hn : l.length * 8 ≤ 140737488351232) (hk : l.length < k) : ductusref07_Chars.f k l = some (l.filter keepc) := by
  unfold ductusref07_Chars.f
  have := rchars_loop l hn l.length k 0 [] (by omega) (by omega) hk (by simp)
  simpa using this
theorem ronly_loop (l : List Int) (hn : l.length * 8 ≤ 140737488351232) (d : Nat) : ∀ (k i : Nat) (acc : List Int), i ≤ l.length → l.length - i = d → d < k → acc.length ≤ i →
    ductusref07_Only.l0 k l acc (i : Int) = some (acc ++ (l.drop i).filter outc) := by
  induction d with
  | zero =>
    intro k i acc hi hd hk ha
    obtain ⟨k, rfl⟩ : ∃ m, k = m + 1 := ⟨k - 1, by omega⟩
    simp only [ductusref07_Only.l0]
    rw [if_neg (by omega), List.drop_eq_nil_of_le (by omega)]
    simp
  | succ d ih =>
    intro k i acc hi hd hk ha
    obtain ⟨k, rfl⟩ : ∃ m, k = m + 1 := ⟨k - 1, by omega⟩
    simp only [ductusref07_Only.l0]
    rw [if_pos (by omega), if_pos (by omega), rout_eq]
    simp only [Option.bind_some]
    rw [drop_cons l i (by omega), wrap_succ i (by omega)]
    by_cases h : outc (rd l (i : Int)) = true
    · rw [if_pos h, if_pos (by omega), ih k (i + 1) _ (by omega) (by omega) (by omega) (by simp; omega)]
      simp [h]
    · rw [if_neg h, ih k (i + 1) _ (by omega) (by omega) (by omega) (by omega)]
      simp [h]
theorem ronly_eq (k : Nat) (l : List Int) (hn : l.length * 8 ≤ 140737488351232) (hk : l.length < k) : ductusref07_Only.f k l = some (l.filter outc) := by
  unfold ductusref07_Only.f
  have := ronly_loop l hn l.length k 0 [] (by omega) (by omega) hk (by simp)
  simpa using this
theorem rrank_loop (l : List Int) (hn : l.length * 8 ≤ 140737488351232) (i : Int) (d : Nat) : ∀ (k x n : Nat), x ≤ l.length → l.length - x = d → 2 * d + 1 < k → n ≤ x →
    ductusref07_Rank.l0 k l i (n : Int) (x : Int) = some ((n : Int) + ((((l.take i.toNat).drop x).filter keepc).length : Int)) := by
  induction d with
  | zero =>
    intro k x n hi hd hk ha
    obtain ⟨k, rfl⟩ : ∃ m, k = m + 2 := ⟨k - 2, by omega⟩
    simp only [ductusref07_Rank.l0, ductusref07_Rank.j1]
    rw [if_neg (by omega), if_neg (by decide), List.drop_eq_nil_of_le (by rw [List.length_take]; omega)]
    simp
  | succ d ih =>
    intro k x n hi hd hk ha
    obtain ⟨k, rfl⟩ : ∃ m, k = m + 2 := ⟨k - 2, by omega⟩
    simp only [ductusref07_Rank.l0, ductusref07_Rank.j1]
    rw [if_pos (by omega)]
    by_cases hx : (x : Int) < i
    · have hlt : x < (l.take i.toNat).length := by rw [List.length_take]; omega
      have he : rd (l.take i.toNat) (x : Int) = rd l (x : Int) := by
        rw [rd_get _ x hlt, rd_get l x (by omega), List.getElem_take]
      rw [decide_eq_true hx, if_pos rfl, if_pos (by omega), if_pos (by omega), rout_eq]
      simp only [Option.bind_some]
      rw [drop_cons _ x hlt, he, wrap_succ x (by omega)]
      by_cases h : outc (rd l (x : Int)) = true
      · have h2 : keepc (rd l (x : Int)) = false := by unfold keepc; unfold outc at h; rw [h]; rfl
        rw [if_pos h, ih k (x + 1) n (by omega) (by omega) (by omega) (by omega)]
        simp [h2]
      · have h2 : keepc (rd l (x : Int)) = true := by unfold keepc; unfold outc at h; simpa using h
        rw [if_neg h, wrap_succ n (by omega), ih k (x + 1) (n + 1) (by omega) (by omega) (by omega) (by omega)]
        simp [h2]
        omega
    · rw [decide_eq_false hx, if_neg (by decide), List.drop_eq_nil_of_le (by rw [List.length_take]; omega)]
      simp
theorem rrank_eq (k : Nat) (l : List Int) (i : Int) (hn : l.length * 8 ≤ 140737488351232) (hk : 2 * l.length + 1 < k) : ductusref07_Rank.f k l i = some (rankOf l i) := by
  unfold ductusref07_Rank.f rankOf
  have := rrank_loop l hn i l.length k 0 0 (by omega) (by omega) hk (by omega)
  simpa using this
theorem rsame7_eq (k : Nat) (a b : List Int) (ha : a.length * 8 ≤ 140737488351232) (hb : b.length * 8 ≤ 140737488351232) (hk : a.length < k) (hk2 : b.length < k) : ductusref07_Same.f k a b = some (decide (a.filter keepc = b.filter keepc)) := by
  unfold ductusref07_Same.f
  rw [rchars_eq k a ha hk, rchars_eq k b hb hk2]
  simp only [Option.bind_some]
  have := filter_le keepc a
  rw [ints_eq k _ _ (by omega) (by omega)]
  rfl
end Go.Proofs.Ytdidobaojpdmdaa.P
