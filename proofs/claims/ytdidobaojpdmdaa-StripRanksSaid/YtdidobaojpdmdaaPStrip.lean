/- Proved: what the functions of strip tell of any list; conditions: enough rounds, and a list's bytes below 2^47. -/
import Derived.Test.YtdidobaojpdmdaaPClass
import Derived.Test.YtdidobaojpdmdaaPInts
import Derived.Test.YtdidobaojpdmdaaPx2
namespace Go.Proofs.Ytdidobaojpdmdaa.P
open Go.RowKit Go.Proofs.YtdidobaojpdmdaaW.PrintWords Go.Proofs.YtdidobaojpdmdaaW.PrintLast Go.Proofs.YtdidobaojpdmdaaW.PrintMore
set_option linter.unusedVariables false
set_option linter.unusedSimpArgs false

def outc (c : Int) : Bool := outK (cls c)
def keepc (c : Int) : Bool := !outK (cls c)
theorem strip_out_eq (k : Nat) (hk : 91 ≤ k) (c : Int) : strip_out.f k c = some (outc c) := by
  unfold strip_out.f outc
  rw [class_of_eq k hk]
  simp only [Option.bind_some]
  rw [out_eq k (by omega)]
  rfl
theorem strip_kept_eq (k : Nat) (hk : 91 ≤ k) (c : Int) : strip_kept.f k c = some (keepc c) := by
  unfold strip_kept.f keepc
  rw [strip_out_eq k hk]
  rfl
/-- The places of those that a test lets. -/
def placesOf (p : Int → Bool) : Nat → List Int → List Int
  | _, [] => []
  | i, c :: l => if p c then (i : Int) :: placesOf p (i + 1) l else placesOf p (i + 1) l
theorem places_len (p : Int → Bool) : ∀ (i : Nat) (l : List Int), (placesOf p i l).length = (l.filter p).length
  | _, [] => rfl
  | i, c :: l => by
    simp only [placesOf, List.filter_cons]
    split <;> simp [places_len p (i + 1) l]
theorem places_mem (p : Int → Bool) : ∀ (i : Nat) (l : List Int) (x : Int), x ∈ placesOf p i l → (i : Int) ≤ x ∧ x < ((i + l.length : Nat) : Int)
  | _, [], _, h => by simp [placesOf] at h
  | i, c :: l, x, h => by
    simp only [placesOf] at h
    have h2 : ∀ x ∈ placesOf p (i + 1) l, (i : Int) ≤ x ∧ x < ((i + (l.length + 1) : Nat) : Int) := fun x hx => by
      have := places_mem p (i + 1) l x hx
      omega
    simp only [List.length_cons]
    split at h
    · rcases List.mem_cons.1 h with rfl | h
      · omega
      · exact h2 x h
    · exact h2 x h
theorem places_rd (p : Int → Bool) (w : List Int) : ∀ (i : Nat) (l : List Int), w.drop i = l → (placesOf p i l).map (rd w) = l.filter p
  | _, [], _ => rfl
  | i, c :: l, h => by
    have hi : i < w.length := by
      rcases Nat.lt_or_ge i w.length with h2 | h2
      · exact h2
      · rw [List.drop_eq_nil_of_le h2] at h
        cases h
    rw [drop_cons w i hi] at h
    injection h with h1 h2
    simp only [placesOf, List.filter_cons]
    split
    · rw [List.map_cons, places_rd p w (i + 1) l h2, h1]
    · exact places_rd p w (i + 1) l h2
theorem filter_le (p : Int → Bool) (l : List Int) : (l.filter p).length ≤ l.length := List.length_filter_le _ _

theorem places_kept_loop (l : List Int) (hn : l.length * 8 ≤ 140737488351232) (d : Nat) : ∀ (k i : Nat) (acc : List Int), i ≤ l.length → l.length - i = d → d + 91 < k → acc.length ≤ i →
    strip_places_strip_kept.l0 k acc l (l.length : Int) (i : Int) = some (acc ++ placesOf keepc i (l.drop i)) := by
  induction d with
  | zero =>
    intro k i acc hi hd hk ha
    obtain ⟨k, rfl⟩ : ∃ m, k = m + 1 := ⟨k - 1, by omega⟩
    simp only [strip_places_strip_kept.l0]
    rw [if_neg (by omega), List.drop_eq_nil_of_le (by omega)]
    simp [placesOf]
  | succ d ih =>
    intro k i acc hi hd hk ha
    obtain ⟨k, rfl⟩ : ∃ m, k = m + 1 := ⟨k - 1, by omega⟩
    simp only [strip_places_strip_kept.l0]
    rw [if_pos (by omega), if_pos (by omega), if_pos (by omega), strip_kept_eq k (by omega)]
    simp only [Option.bind_some]
    rw [drop_cons l i (by omega), wrap_succ i (by omega)]
    by_cases h : keepc (rd l (i : Int)) = true
    · rw [if_pos h, if_pos (by omega), ih k (i + 1) _ (by omega) (by omega) (by omega) (by simp; omega)]
      simp [placesOf, h]
    · rw [if_neg h, ih k (i + 1) _ (by omega) (by omega) (by omega) (by omega)]
      simp [placesOf, h]
theorem places_kept_eq (k : Nat) (l : List Int) (hn : l.length * 8 ≤ 140737488351232) (hk : l.length + 91 < k) : strip_places_strip_kept.f k l = some (placesOf keepc 0 l) := by
  unfold strip_places_strip_kept.f
  have := places_kept_loop l hn l.length k 0 [] (by omega) (by omega) hk (by simp)
  simpa using this
theorem those_kept_loop (l at_ : List Int) (hn : l.length * 8 ≤ 140737488351232) (hl : at_.length ≤ l.length) (hm : ∀ x ∈ at_, 0 ≤ x ∧ x < (l.length : Int)) (d : Nat) : ∀ (k i : Nat) (acc : List Int), i ≤ at_.length → at_.length - i = d → d < k → acc.length ≤ i →
    strip_those_strip_kept.l0 k l acc at_ (at_.length : Int) (i : Int) = some (acc ++ (at_.drop i).map (rd l)) := by
  induction d with
  | zero =>
    intro k i acc hi hd hk ha
    obtain ⟨k, rfl⟩ : ∃ m, k = m + 1 := ⟨k - 1, by omega⟩
    simp only [strip_those_strip_kept.l0]
    rw [if_neg (by omega), List.drop_eq_nil_of_le (by omega)]
    simp
  | succ d ih =>
    intro k i acc hi hd hk ha
    obtain ⟨k, rfl⟩ : ∃ m, k = m + 1 := ⟨k - 1, by omega⟩
    have hx := hm (rd at_ (i : Int)) (by rw [rd_get at_ i (by omega)]; exact List.getElem_mem _)
    simp only [strip_those_strip_kept.l0]
    rw [if_pos (by omega), if_pos (by omega), if_pos (by omega), if_pos hx.1, if_pos hx.2, if_pos (by omega), wrap_succ i (by omega), ih k (i + 1) _ (by omega) (by omega) (by omega) (by simp; omega), drop_cons at_ i (by omega)]
    simp
theorem those_kept_eq (k : Nat) (l : List Int) (hn : l.length * 8 ≤ 140737488351232) (hk : l.length + 91 < k) : strip_those_strip_kept.f k l = some (l.filter keepc) := by
  unfold strip_those_strip_kept.f
  rw [places_kept_eq k l hn hk]
  simp only [Option.bind_some]
  have hlen : (placesOf keepc 0 l).length ≤ l.length := by rw [places_len]; exact filter_le _ _
  have := those_kept_loop l (placesOf keepc 0 l) hn hlen (fun x hx => by have := places_mem keepc 0 l x hx; omega) (placesOf keepc 0 l).length k 0 [] (by omega) (by omega) (by omega) (by simp)
  rw [show ((0 : Nat) : Int) = 0 from rfl] at this
  rw [this]
  simp [places_rd keepc l 0 l (by simp)]

theorem places_out_loop (l : List Int) (hn : l.length * 8 ≤ 140737488351232) (d : Nat) : ∀ (k i : Nat) (acc : List Int), i ≤ l.length → l.length - i = d → d + 91 < k → acc.length ≤ i →
    strip_places_strip_out.l0 k acc l (l.length : Int) (i : Int) = some (acc ++ placesOf outc i (l.drop i)) := by
  induction d with
  | zero =>
    intro k i acc hi hd hk ha
    obtain ⟨k, rfl⟩ : ∃ m, k = m + 1 := ⟨k - 1, by omega⟩
    simp only [strip_places_strip_out.l0]
    rw [if_neg (by omega), List.drop_eq_nil_of_le (by omega)]
    simp [placesOf]
  | succ d ih =>
    intro k i acc hi hd hk ha
    obtain ⟨k, rfl⟩ : ∃ m, k = m + 1 := ⟨k - 1, by omega⟩
    simp only [strip_places_strip_out.l0]
    rw [if_pos (by omega), if_pos (by omega), if_pos (by omega), strip_out_eq k (by omega)]
    simp only [Option.bind_some]
    rw [drop_cons l i (by omega), wrap_succ i (by omega)]
    by_cases h : outc (rd l (i : Int)) = true
    · rw [if_pos h, if_pos (by omega), ih k (i + 1) _ (by omega) (by omega) (by omega) (by simp; omega)]
      simp [placesOf, h]
    · rw [if_neg h, ih k (i + 1) _ (by omega) (by omega) (by omega) (by omega)]
      simp [placesOf, h]
theorem places_out_eq (k : Nat) (l : List Int) (hn : l.length * 8 ≤ 140737488351232) (hk : l.length + 91 < k) : strip_places_strip_out.f k l = some (placesOf outc 0 l) := by
  unfold strip_places_strip_out.f
  have := places_out_loop l hn l.length k 0 [] (by omega) (by omega) hk (by simp)
  simpa using this
theorem those_out_loop (l at_ : List Int) (hn : l.length * 8 ≤ 140737488351232) (hl : at_.length ≤ l.length) (hm : ∀ x ∈ at_, 0 ≤ x ∧ x < (l.length : Int)) (d : Nat) : ∀ (k i : Nat) (acc : List Int), i ≤ at_.length → at_.length - i = d → d < k → acc.length ≤ i →
    strip_those_strip_out.l0 k l acc at_ (at_.length : Int) (i : Int) = some (acc ++ (at_.drop i).map (rd l)) := by
  induction d with
  | zero =>
    intro k i acc hi hd hk ha
    obtain ⟨k, rfl⟩ : ∃ m, k = m + 1 := ⟨k - 1, by omega⟩
    simp only [strip_those_strip_out.l0]
    rw [if_neg (by omega), List.drop_eq_nil_of_le (by omega)]
    simp
  | succ d ih =>
    intro k i acc hi hd hk ha
    obtain ⟨k, rfl⟩ : ∃ m, k = m + 1 := ⟨k - 1, by omega⟩
    have hx := hm (rd at_ (i : Int)) (by rw [rd_get at_ i (by omega)]; exact List.getElem_mem _)
    simp only [strip_those_strip_out.l0]
    rw [if_pos (by omega), if_pos (by omega), if_pos (by omega), if_pos hx.1, if_pos hx.2, if_pos (by omega), wrap_succ i (by omega), ih k (i + 1) _ (by omega) (by omega) (by omega) (by simp; omega), drop_cons at_ i (by omega)]
    simp
theorem those_out_eq (k : Nat) (l : List Int) (hn : l.length * 8 ≤ 140737488351232) (hk : l.length + 91 < k) : strip_those_strip_out.f k l = some (l.filter outc) := by
  unfold strip_those_strip_out.f
  rw [places_out_eq k l hn hk]
  simp only [Option.bind_some]
  have hlen : (placesOf outc 0 l).length ≤ l.length := by rw [places_len]; exact filter_le _ _
  have := those_out_loop l (placesOf outc 0 l) hn hlen (fun x hx => by have := places_mem outc 0 l x hx; omega) (placesOf outc 0 l).length k 0 [] (by omega) (by omega) (by omega) (by simp)
  rw [show ((0 : Nat) : Int) = 0 from rfl] at this
  rw [this]
  simp [places_rd outc l 0 l (by simp)]

theorem strip_kept_places (k : Nat) (l : List Int) (hn : l.length * 8 ≤ 140737488351232) (hk : l.length + 91 < k) : strip_Kept.f k l = some (placesOf keepc 0 l) := by
  unfold strip_Kept.f
  rw [places_kept_eq k l hn hk]
  rfl
theorem strip_chars_eq (k : Nat) (l : List Int) (hn : l.length * 8 ≤ 140737488351232) (hk : l.length + 91 < k) : strip_Chars.f k l = some (l.filter keepc) := by
  unfold strip_Chars.f
  rw [those_kept_eq k l hn hk]
  rfl
theorem strip_only_eq (k : Nat) (l : List Int) (hn : l.length * 8 ≤ 140737488351232) (hk : l.length + 91 < k) : strip_Only.f k l = some (l.filter outc) := by
  unfold strip_Only.f
  rw [those_out_eq k l hn hk]
  rfl
/-- How many are kept ahead of a place. -/
def rankOf (l : List Int) (i : Int) : Int := (((l.take i.toNat).filter keepc).length : Int)
theorem strip_rank_eq (k : Nat) (l : List Int) (i : Int) (hn : l.length * 8 ≤ 140737488351232) (hk : l.length + 91 < k) : strip_Rank.f k l i = some (rankOf l i) := by
  unfold strip_Rank.f rankOf
  have hm : mn (l.length : Int) (mx 0 i) = ((min l.length i.toNat : Nat) : Int) := by
    unfold mn mx
    split <;> split <;> omega
  have hle : (l.take (min l.length i.toNat)).length ≤ l.length := by rw [List.length_take]; omega
  rw [hm, if_pos (by omega), if_pos (by omega), Int.toNat_natCast, places_kept_eq k _ (by omega) (by omega)]
  simp only [Option.bind_some, places_len]
  rw [Nat.min_comm, ← List.take_eq_take_min]
theorem equal_loop (a b : List Int) (hl : a.length = b.length) (hn : a.length < 9223372036854775807) (d : Nat) : ∀ (k i : Nat), i ≤ a.length → a.length - i = d → d < k →
    slices_Equal_int.l0 k a b (a.length : Int) (i : Int) = some (decide (a.drop i = b.drop i)) := by
  induction d with
  | zero =>
    intro k i hi hd hk
    obtain ⟨k, rfl⟩ : ∃ m, k = m + 1 := ⟨k - 1, by omega⟩
    simp only [slices_Equal_int.l0]
    rw [if_neg (by omega), List.drop_eq_nil_of_le (by omega), List.drop_eq_nil_of_le (by omega)]
    simp
  | succ d ih =>
    intro k i hi hd hk
    obtain ⟨k, rfl⟩ : ∃ m, k = m + 1 := ⟨k - 1, by omega⟩
    simp only [slices_Equal_int.l0]
    rw [if_pos (by omega), if_pos (by omega), if_pos (by omega), if_pos (by omega), wrap_succ i (by omega), drop_cons a i (by omega), drop_cons b i (by omega)]
    by_cases h : rd a i = rd b i
    · rw [if_pos h, ih k (i + 1) (by omega) (by omega) (by omega), h]
      simp
    · rw [if_neg h]
      simp [h]
theorem equal_eq (k : Nat) (a b : List Int) (hn : a.length < 9223372036854775807) (hk : a.length < k) : slices_Equal_int.f k a b = some (decide (a = b)) := by
  unfold slices_Equal_int.f
  by_cases h : a.length = b.length
  · rw [if_pos (by omega)]
    have := equal_loop a b h hn a.length k 0 (by omega) (by omega) hk
    simpa using this
  · rw [if_neg (by omega)]
    have : ¬ a = b := fun e => h (by rw [e])
    simp [this]
theorem strip_same_eq (k : Nat) (a b : List Int) (ha : a.length * 8 ≤ 140737488351232) (hb : b.length * 8 ≤ 140737488351232) (hk : a.length + 91 < k) (hk2 : b.length + 91 < k) : strip_Same.f k a b = some (decide (a.filter keepc = b.filter keepc)) := by
  unfold strip_Same.f
  rw [strip_chars_eq k a ha hk, strip_chars_eq k b hb hk2]
  simp only [Option.bind_some]
  have := filter_le keepc a
  rw [equal_eq k _ _ (by omega) (by omega)]
  rfl
end Go.Proofs.Ytdidobaojpdmdaa.P
