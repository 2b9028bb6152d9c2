/- Proved: when bytes are just those of characters, as Go's table tells it and as the model's reading tells it; plain lemmas, each under its own written conditions. -/
import Derived.Test.YtgcdhjgdlnpknaaDoorPLib
import Derived.Lib.DecodeNEq
import Derived.Laws.BitsAllLaws
namespace Go.Proofs.YtgcdhjgdlnpknaaDoor.P
open Go.RowKit Go.Proofs.YtgcdhjgdlnpknaaDoorW.PrintWords Go.Proofs.YtgcdhjgdlnpknaaDoorW.PrintLast
set_option linter.unusedVariables false
set_option linter.unusedSimpArgs false

/-- The character that bytes begin with, and how many it has, as the model reads it. -/
def decL (l : List Int) : Nat × Nat := Lib.decodeN l.length (rd l 0).toNat (rd l 1).toNat (rd l 2).toNat (rd l 3).toNat
def bad (p : Nat × Nat) : Bool := decide (p.1 = 65533 ∧ p.2 = 1)
def validGo : Nat → List Int → Bool
  | 0, _ => true
  | n + 1, l => if l = [] then true else if bad (decL l) = true then false else validGo n (l.drop (decL l).2)
def validL (l : List Int) : Bool := validGo l.length l
theorem decN_width (n b0 b1 b2 b3 : Nat) (hn : 1 ≤ n) : 1 ≤ (Lib.decodeN n b0 b1 b2 b3).2 ∧ (Lib.decodeN n b0 b1 b2 b3).2 ≤ n := by
  unfold Lib.decodeN
  repeat' split
  all_goals simp only []
  all_goals omega
theorem decL_width (l : List Int) (h : 0 < l.length) : 1 ≤ (decL l).2 ∧ (decL l).2 ≤ l.length := decN_width _ _ _ _ _ h
theorem validGo_fuel : ∀ (n m : Nat) (l : List Int), l.length ≤ n → l.length ≤ m → validGo n l = validGo m l := by
  intro n
  induction n with
  | zero =>
    intro m l hn hm
    have : l = [] := List.eq_nil_of_length_eq_zero (by omega)
    subst this
    cases m with
    | zero => rfl
    | succ m => rfl
  | succ n ih =>
    intro m l hn hm
    cases m with
    | zero =>
      have : l = [] := List.eq_nil_of_length_eq_zero (by omega)
      subst this
      rfl
    | succ m =>
      simp only [validGo]
      by_cases h : l = []
      · rw [if_pos h, if_pos h]
      · have hl : 0 < l.length := List.length_pos_iff.2 h
        have hw := decL_width l hl
        rw [if_neg h, if_neg h, ih m (l.drop (decL l).2) (by rw [List.length_drop]; omega) (by rw [List.length_drop]; omega)]
theorem validL_nil : validL [] = true := rfl
theorem validL_step (l : List Int) (h : 0 < l.length) : validL l = if bad (decL l) = true then false else validL (l.drop (decL l).2) := by
  have hw := decL_width l h
  obtain ⟨n, hn⟩ : ∃ n, l.length = n + 1 := ⟨l.length - 1, by omega⟩
  have hne : l ≠ [] := List.length_pos_iff.1 h
  unfold validL
  rw [hn]
  simp only [validGo]
  rw [if_neg hne, validGo_fuel n (l.drop (decL l).2).length _ (by rw [List.length_drop]; omega) (Nat.le_refl _)]
theorem validL_one (l : List Int) (h : 0 < l.length) (h0 : 0 ≤ rd l 0) (h1 : rd l 0 < 128) : validL l = validL (l.drop 1) := by
  have e : decL l = ((rd l 0).toNat, 1) := by
    unfold decL Lib.decodeN
    rw [if_pos (by omega)]
  rw [validL_step l h, e]
  unfold bad
  rw [if_neg]
  simp only [decide_eq_true_eq]
  omega
theorem rd_drop (l : List Int) (m i : Nat) : rd (l.drop m) (i : Int) = rd l ((m + i : Nat) : Int) := by
  rw [rd_nat, rd_nat, List.getD_eq_getElem?_getD, List.getD_eq_getElem?_getD, List.getElem?_drop]
theorem validL_skip : ∀ (k : Nat) (l : List Int), k ≤ l.length → (∀ i : Nat, i < k → 0 ≤ rd l (i : Int) ∧ rd l (i : Int) < 128) → validL l = validL (l.drop k) := by
  intro k
  induction k with
  | zero => intro l _ _; rfl
  | succ k ih =>
    intro l hk h
    have h0 := h 0 (by omega)
    rw [validL_one l (by omega) h0.1 h0.2, ih (l.drop 1) (by rw [List.length_drop]; omega) (fun i hi => by
      rw [rd_drop]
      exact h (1 + i) (by omega)), List.drop_drop, Nat.add_comm 1 k]
/-- A lead byte that is none. -/
theorem validL_bad (l : List Int) (h : 0 < l.length) (hb : (rd l 0).toNat < 256) (hx : Lib.firstT (rd l 0).toNat = 241) : validL l = false := by
  have e : decL l = (65533, 1) := Lib.bad_eq _ _ _ _ _ hb hx
  rw [validL_step l h, e]
  rfl
theorem slow_two (n b0 b1 b2 b3 lo hi : Nat) : Lib.slowN n b0 b1 b2 b3 2 lo hi = if n < 2 ∨ b1 < lo ∨ hi < b1 then (65533, 1) else (b0 % 32 * 64 + b1 % 64, 2) := by
  unfold Lib.slowN
  repeat' split
  all_goals first | rfl | (exfalso; omega)
set_option maxRecDepth 100000 in
theorem slow_three (n b0 b1 b2 b3 lo hi : Nat) : Lib.slowN n b0 b1 b2 b3 3 lo hi = if n < 3 ∨ b1 < lo ∨ hi < b1 ∨ b2 < 128 ∨ 191 < b2 then (65533, 1) else (b0 % 16 * 4096 + b1 % 64 * 64 + b2 % 64, 3) := by
  unfold Lib.slowN
  repeat' split
  all_goals first | rfl | (exfalso; omega)
set_option maxRecDepth 100000 in
theorem slow_four (n b0 b1 b2 b3 lo hi : Nat) : Lib.slowN n b0 b1 b2 b3 4 lo hi = if n < 4 ∨ b1 < lo ∨ hi < b1 ∨ b2 < 128 ∨ 191 < b2 ∨ b3 < 128 ∨ 191 < b3 then (65533, 1) else (b0 % 8 * 262144 + b1 % 64 * 4096 + b2 % 64 * 64 + b3 % 64, 4) := by
  unfold Lib.slowN
  repeat' split
  all_goals first | rfl | (exfalso; omega)
section
variable (l : List Int) (h : 0 < l.length) (hb : ∀ i : Nat, 0 ≤ rd l (i : Int) ∧ rd l (i : Int) < 256) (x : Nat) (hx : Lib.firstT (rd l 0).toNat = x) (hlt : x < 240)
include h hb hx hlt
theorem decL_slow : decL l = Lib.slowN l.length (rd l 0).toNat (rd l 1).toNat (rd l 2).toNat (rd l 3).toNat (x % 8) (Lib.accLo (x / 16)) (Lib.accHi (x / 16)) := by
  have b1 := hb 1
  have b2 := hb 2
  have b3 := hb 3
  rw [← hx]
  refine (Lib.slow_eq l.length (rd l 0).toNat (rd l 1).toNat (rd l 2).toNat (rd l 3).toNat h ?_ ?_ ?_ (by rw [hx]; exact hlt)).symm
  · exact (by omega : (rd l ((1 : Nat) : Int)).toNat < 256)
  · exact (by omega : (rd l ((2 : Nat) : Int)).toNat < 256)
  · exact (by omega : (rd l ((3 : Nat) : Int)).toNat < 256)
theorem validL_two (e : x % 8 = 2) : validL l = if l.length < 2 ∨ (rd l 1).toNat < Lib.accLo (x / 16) ∨ Lib.accHi (x / 16) < (rd l 1).toNat then false else validL (l.drop 2) := by
  rw [validL_step l h, decL_slow l h hb x hx hlt, e, slow_two]
  by_cases q : l.length < 2 ∨ (rd l 1).toNat < Lib.accLo (x / 16) ∨ Lib.accHi (x / 16) < (rd l 1).toNat
  · rw [if_pos q, if_pos q, if_pos (by rfl)]
  · rw [if_neg q, if_neg q, if_neg (by simp [bad])]
theorem validL_three (e : x % 8 = 3) : validL l = if l.length < 3 ∨ (rd l 1).toNat < Lib.accLo (x / 16) ∨ Lib.accHi (x / 16) < (rd l 1).toNat ∨ (rd l 2).toNat < 128 ∨ 191 < (rd l 2).toNat then false else validL (l.drop 3) := by
  rw [validL_step l h, decL_slow l h hb x hx hlt, e, slow_three]
  by_cases q : l.length < 3 ∨ (rd l 1).toNat < Lib.accLo (x / 16) ∨ Lib.accHi (x / 16) < (rd l 1).toNat ∨ (rd l 2).toNat < 128 ∨ 191 < (rd l 2).toNat
  · rw [if_pos q, if_pos q, if_pos (by rfl)]
  · rw [if_neg q, if_neg q, if_neg (by simp [bad])]
theorem validL_four (e : x % 8 = 4) : validL l = if l.length < 4 ∨ (rd l 1).toNat < Lib.accLo (x / 16) ∨ Lib.accHi (x / 16) < (rd l 1).toNat ∨ (rd l 2).toNat < 128 ∨ 191 < (rd l 2).toNat ∨ (rd l 3).toNat < 128 ∨ 191 < (rd l 3).toNat then false else validL (l.drop 4) := by
  rw [validL_step l h, decL_slow l h hb x hx hlt, e, slow_four]
  by_cases q : l.length < 4 ∨ (rd l 1).toNat < Lib.accLo (x / 16) ∨ Lib.accHi (x / 16) < (rd l 1).toNat ∨ (rd l 2).toNat < 128 ∨ 191 < (rd l 2).toNat ∨ (rd l 3).toNat < 128 ∨ 191 < (rd l 3).toNat
  · rw [if_pos q, if_pos q, if_pos (by rfl)]
  · rw [if_neg q, if_neg q, if_neg (by simp [bad])]
end
/-- What the table says of a byte that begins no character of one byte. -/
theorem firstT_high (b : Nat) (h0 : 128 ≤ b) (h1 : b < 256) : Lib.firstT b = 241 ∨ Lib.firstT b < 240 ∧ (Lib.firstT b % 8 = 2 ∨ Lib.firstT b % 8 = 3 ∨ Lib.firstT b % 8 = 4) ∧ Lib.firstT b / 16 < 16 := by
  have : ∀ j : Fin 256, 128 ≤ j.val → Lib.firstT j.val = 241 ∨ Lib.firstT j.val < 240 ∧ (Lib.firstT j.val % 8 = 2 ∨ Lib.firstT j.val % 8 = 3 ∨ Lib.firstT j.val % 8 = 4) ∧ Lib.firstT j.val / 16 < 16 := by decide +kernel
  exact this ⟨b, h1⟩ h0
theorem firstT_lt (b : Nat) : Lib.firstT b < 256 := by
  unfold Lib.firstT
  repeat' split
  all_goals omega
theorem and_seven (x : Nat) (h : x < 256) : Go.bits .and .u8 (x : Int) 7 = ((x % 8 : Nat) : Int) := by
  have : ∀ j : Fin 256, Go.bits .and .u8 ((j.val : Nat) : Int) 7 = ((j.val % 8 : Nat) : Int) := by decide +kernel
  exact this ⟨x, h⟩
end Go.Proofs.YtgcdhjgdlnpknaaDoor.P
