/- Proved: the pure statement of the law StripParts, that the Lean functions printed for it answer true for every input; no condition beyond the statement's own. -/
import Derived.Test.YtdidobaojpdmdaaPx5
import Derived.Test.YtdidobaojpdmdaaPInts
import Derived.Test.YtdidobaojpdmdaaPStrip
namespace Go.Proofs.Ytdidobaojpdmdaa.Pure
open Go.RowKit Go.Proofs.Ytdidobaojpdmdaa.P Go.Proofs.YtdidobaojpdmdaaW.PrintWords Go.Proofs.YtdidobaojpdmdaaW.PrintLast Go.Proofs.YtdidobaojpdmdaaW.PrintMore
set_option linter.unusedVariables false
set_option linter.unusedSimpArgs false

theorem alive07 (k : Nat) (hk : 110 ≤ k) : ductuslaw07_alive.f k = some true := more ductuslaw07_alive.mono 110 k hk _ (by decide +kernel)
theorem places_spec (p : Int → Bool) : ∀ (s : Nat) (l : List Int) (j : Nat) (h : j < (placesOf p s l).length), ∃ n : Nat, (placesOf p s l)[j] = ((s + n : Nat) : Int) ∧ n < l.length ∧ ((l.take n).filter p).length = j
  | _, [], j, h => by simp [placesOf] at h
  | s, c :: l, j, h => by
    by_cases hp : p c = true
    · have e : placesOf p s (c :: l) = (s : Int) :: placesOf p (s + 1) l := by simp [placesOf, hp]
      simp only [e] at h ⊢
      cases j with
      | zero => exact ⟨0, by simp, by simp, by simp⟩
      | succ j =>
        obtain ⟨n, h1, h2, h3⟩ := places_spec p (s + 1) l j (by simpa using h)
        refine ⟨n + 1, ?_, by simpa using h2, ?_⟩
        · rw [List.getElem_cons_succ, h1]
          omega
        · rw [List.take_succ_cons, List.filter_cons, if_pos hp, List.length_cons, h3]
    · have e : placesOf p s (c :: l) = placesOf p (s + 1) l := by simp [placesOf, hp]
      simp only [e] at h ⊢
      obtain ⟨n, h1, h2, h3⟩ := places_spec p (s + 1) l j h
      refine ⟨n + 1, ?_, by simpa using h2, ?_⟩
      · rw [h1]
        omega
      · rw [List.take_succ_cons, List.filter_cons, if_neg hp, h3]
theorem places_up (p : Int → Bool) : ∀ (s : Nat) (l : List Int), (placesOf p s l).Pairwise (· < ·)
  | _, [] => by simp [placesOf]
  | s, c :: l => by
    simp only [placesOf]
    split
    · rw [List.pairwise_cons]
      refine ⟨fun x hx => ?_, places_up p (s + 1) l⟩
      have := places_mem p (s + 1) l x hx
      omega
    · exact places_up p (s + 1) l
theorem parts_len (l : List Int) : (l.filter keepc).length + (l.filter outc).length = l.length := by
  induction l with
  | nil => rfl
  | cons c l ih =>
    have h : keepc c = !outc c := rfl
    simp only [List.filter_cons, h]
    cases outc c <;> simp <;> omega
theorem keep_keep (l : List Int) : (l.filter keepc).filter keepc = l.filter keepc := by simp [List.filter_filter]
theorem out_keep (l : List Int) : (l.filter keepc).filter outc = [] := by
  rw [List.filter_filter, List.filter_eq_nil_iff]
  intro c _
  have h : keepc c = !outc c := rfl
  rw [h]
  cases outc c <;> simp
theorem keep_out (l : List Int) : (l.filter outc).filter keepc = [] := by
  rw [List.filter_filter, List.filter_eq_nil_iff]
  intro c _
  have h : keepc c = !outc c := rfl
  rw [h]
  cases outc c <;> simp
theorem parts_loop (a b : List Int) (ha : a.length * 8 ≤ 140737488351232) (K : Nat) (hK : a.length + 100 < K) (r : Option Bool)
    (hr : ∀ k, K ≤ k → ductuslaw07_StripParts.l0 k a b (a ++ b) (placesOf keepc 0 a) (a.filter keepc) ((placesOf keepc 0 a).length : Int) = r) (d : Nat) : ∀ (k i : Nat), i ≤ (placesOf keepc 0 a).length → (placesOf keepc 0 a).length - i = d → d + K ≤ k →
    ductuslaw07_StripParts.l0 k a b (a ++ b) (placesOf keepc 0 a) (a.filter keepc) (i : Int) = r := by
  have hpl : (placesOf keepc 0 a).length ≤ a.length := by rw [places_len]; exact filter_le _ _
  induction d with
  | zero =>
    intro k i hi hd hk
    obtain rfl : i = (placesOf keepc 0 a).length := by omega
    exact hr k (by omega)
  | succ d ih =>
    intro k i hi hd hk
    obtain ⟨k, rfl⟩ : ∃ m, k = m + 1 := ⟨k - 1, by omega⟩
    have hil : i < (placesOf keepc 0 a).length := by omega
    obtain ⟨n, h1, h2, h3⟩ := places_spec keepc 0 a i hil
    have e1 : rd (placesOf keepc 0 a) (i : Int) = (n : Int) := by rw [rd_get _ i hil, h1]; omega
    have e2 : rd a (n : Int) = rd (a.filter keepc) (i : Int) := by
      have hm := places_rd keepc a 0 a (by simp)
      have hil2 : i < (a.filter keepc).length := by rw [← places_len keepc 0 a]; exact hil
      rw [rd_get (a.filter keepc) i hil2]
      have hq : (a.filter keepc)[i]? = some (rd a (placesOf keepc 0 a)[i]) := by
        rw [← hm, List.getElem?_map, List.getElem?_eq_getElem hil]
        rfl
      rw [List.getElem?_eq_getElem hil2] at hq
      injection hq with hq
      rw [hq, h1]
      simp
    have e3 : (placesOf keepc 0 a).length = (a.filter keepc).length := places_len _ _ _
    have e4 : rankOf a (n : Int) = (i : Int) := by
      unfold rankOf
      rw [Int.toNat_natCast, h3]
    simp only [ductuslaw07_StripParts.l0]
    rw [if_pos (by omega), if_pos (by omega), e1, if_neg (by omega), if_neg (by omega), if_pos (by omega), if_pos (by omega), if_pos (by omega), if_pos e2, strip_rank_eq k a _ ha (by omega)]
    simp only [Option.bind_some]
    rw [if_pos e4, wrap_succ i (by omega)]
    by_cases h0 : (i : Int) > 0
    · obtain ⟨j, rfl⟩ : ∃ j, i = j + 1 := ⟨i - 1, by omega⟩
      have ej : wrap64 (((j + 1 : Nat) : Int) - 1) = (j : Int) := by rw [wrap_id (by omega) (by omega)]; omega
      have hup := (List.pairwise_iff_getElem.1 (places_up keepc 0 a)) j (j + 1) (by omega) hil (by omega)
      rw [if_pos h0, ej, if_pos (by omega), if_pos (by omega), rd_get _ j (by omega), if_neg (by rw [h1] at hup; omega)]
      exact ih k (j + 1 + 1) (by omega) (by omega) (by omega)
    · rw [if_neg h0]
      exact ih k (i + 1) (by omega) (by omega) (by omega)
theorem StripParts : ductuslaw07_StripParts.Pure := by
  intro a b hm0 hl0 hw0 hm1 hl1 hw1
  obtain ⟨K, hK⟩ : ∃ K, K = 2 * a.length + b.length + 200 := ⟨_, rfl⟩
  have hpl : (placesOf keepc 0 a).length = (a.filter keepc).length := places_len _ _ _
  have hsum := parts_len a
  have hloop : ∀ k, a.length + K ≤ k → a.length ≤ 1000 → b.length ≤ 1000 → ductuslaw07_StripParts.l0 k a b (a ++ b) (placesOf keepc 0 a) (a.filter keepc) 0 = some true := by
    intro k hk h1 h2
    refine parts_loop a b hl0 K (by omega) (some true) ?_ (placesOf keepc 0 a).length k 0 (by omega) (by omega) (by omega)
    intro k hk
    obtain ⟨k, rfl⟩ : ∃ m, k = m + 1 := ⟨k - 1, by omega⟩
    have hab : (a ++ b).length = a.length + b.length := by simp
    have hb := filter_le keepc b
    simp only [ductuslaw07_StripParts.l0]
    rw [if_neg (by omega), strip_chars_eq k (a ++ b) (by omega) (by omega)]
    simp only [Option.bind_some, List.nil_append, List.length_nil, Nat.zero_add]
    rw [if_pos (by omega), strip_chars_eq k b hl1 (by omega)]
    simp only [Option.bind_some]
    rw [if_pos (by omega), List.filter_append, ints_same k _ (by simp; omega) (by simp; omega)]
    simp only [Option.bind_some, if_true]
    rw [strip_rank_eq k (a ++ b) _ (by omega) (by omega)]
    simp [rankOf]
  have hj : a.length ≤ 1000 → b.length ≤ 1000 → ductuslaw07_StripParts.j0 (a.length + K + 2) a b false = some true := by
    intro h1 h2
    have hlk := filter_le keepc a
    have hlo := filter_le outc a
    have e1 : (a.filter keepc).length * 8 ≤ 140737488351232 := by omega
    have e2 : (a.filter outc).length * 8 ≤ 140737488351232 := by omega
    simp only [ductuslaw07_StripParts.j0]
    rw [if_neg (by decide)]
    simp only [Option.bind_some, List.nil_append, List.length_nil, Nat.zero_add]
    rw [if_pos (by omega), if_pos (by omega), strip_kept_places _ a hl0 (by omega), strip_chars_eq _ a hl0 (by omega), strip_only_eq _ a hl0 (by omega)]
    simp only [Option.bind_some]
    rw [if_pos (by omega), wrap_id (by omega) (by omega), if_pos (by omega), strip_chars_eq _ _ e1 (by omega), keep_keep]
    simp only [Option.bind_some]
    rw [ints_same _ _ (by omega) (by omega)]
    simp only [Option.bind_some, if_true]
    rw [strip_only_eq _ _ e1 (by omega), out_keep]
    simp only [Option.bind_some]
    rw [if_pos (by simp), strip_chars_eq _ _ e2 (by omega), keep_out]
    simp only [Option.bind_some]
    rw [if_pos (by simp), strip_same_eq _ a _ hl0 e1 (by omega) (by omega), keep_keep]
    simp only [Option.bind_some, decide_true, Bool.not_true, ductuslaw07_StripParts.j1]
    rw [if_neg (by decide)]
    exact hloop _ (by omega) h1 h2
  have ht : ductuslaw07_StripParts.j0 (a.length + K + 2) a b true = some true := by simp only [ductuslaw07_StripParts.j0, if_true]
  refine ⟨a.length + K + 2, ?_⟩
  unfold ductuslaw07_StripParts.f
  rw [alive07 _ (by omega)]
  simp only [Option.bind_some, if_true]
  by_cases h : (a.length : Int) > 1000
  · rw [if_pos h, ht]
  · rw [if_neg h]
    by_cases h2 : (b.length : Int) > 1000
    · rw [decide_eq_true h2, ht]
    · rw [decide_eq_false h2, hj (by omega) (by omega)]

end Go.Proofs.Ytdidobaojpdmdaa.Pure
