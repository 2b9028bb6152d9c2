/- Proved: a word of eight bytes whose great bits are all none is of bytes below 128; conditions: eight bytes. -/
import Derived.Test.YtgcdhjgdlnpknaaDoorPUtfV
import Derived.Test.YtgcdhjgdlnpknaaDoorPx1
namespace Go.Proofs.YtgcdhjgdlnpknaaDoor.P
open Go.RowKit Go.Proofs.YtgcdhjgdlnpknaaDoorW.PrintWords Go.Proofs.YtgcdhjgdlnpknaaDoorW.PrintLast
set_option linter.unusedVariables false
set_option linter.unusedSimpArgs false

theorem and_zero_bit {v m j : Nat} (h : v &&& m = 0) (hm : m.testBit j = true) : v.testBit j = false := by
  have : (v &&& m).testBit j = false := by rw [h]; exact Nat.zero_testBit j
  rw [Nat.testBit_and, hm, Bool.and_true] at this
  exact this
theorem or_bit {a b j : Nat} (h : (a ||| b).testBit j = false) : a.testBit j = false ∧ b.testBit j = false := by
  rw [Nat.testBit_or] at h
  exact Bool.or_eq_false_iff.1 h
theorem byte_bit {x : Nat} (hx : x < 256) (i : Nat) (h : (x * 2 ^ i).testBit (i + 7) = false) : x < 128 := by
  rw [← Nat.shiftLeft_eq, Nat.testBit_shiftLeft] at h
  have e : i + 7 - i = 7 := by omega
  rw [e] at h
  have h2 : x.testBit 7 = false := by simpa using h
  rw [Nat.testBit_eq_decide_div_mod_eq] at h2
  have := of_decide_eq_false h2
  omega
def maskW : Nat := 9259542123273814144
theorem wrapU (x : Nat) (h : x < 18446744073709551616) : IntKind.u64.wrap (x : Int) = (x : Int) := by
  rw [IntKind.wrap_u64]
  omega
/-- The word's number. -/
def wordN (x0 x1 x2 x3 x4 x5 x6 x7 : Nat) : Nat := (((((((x0 * 2 ^ 0 ||| x1 * 2 ^ 8) ||| x2 * 2 ^ 16) ||| x3 * 2 ^ 24) ||| x4 * 2 ^ 32) ||| x5 * 2 ^ 40) ||| x6 * 2 ^ 48) ||| x7 * 2 ^ 56)
theorem or64 (a b : Nat) (ha : a < 18446744073709551616) (hb : b < 18446744073709551616) : Go.bits .or .u64 (a : Int) (b : Int) = ((a ||| b : Nat) : Int) ∧ a ||| b < 18446744073709551616 := ⟨u64_or_nat a b ha hb, Nat.or_lt_two_pow (n := 64) ha hb⟩
theorem word_eq (l : List Int) (x0 x1 x2 x3 x4 x5 x6 x7 : Nat) (hl : 8 ≤ l.length)
    (h0 : rd l 0 = (x0 : Int)) (h1 : rd l 1 = (x1 : Int)) (h2 : rd l 2 = (x2 : Int)) (h3 : rd l 3 = (x3 : Int)) (h4 : rd l 4 = (x4 : Int)) (h5 : rd l 5 = (x5 : Int)) (h6 : rd l 6 = (x6 : Int)) (h7 : rd l 7 = (x7 : Int))
    (l0 : x0 < 256) (l1 : x1 < 256) (l2 : x2 < 256) (l3 : x3 < 256) (l4 : x4 < 256) (l5 : x5 < 256) (l6 : x6 < 256) (l7 : x7 < 256) :
    utf8_word.f l = some ((wordN x0 x1 x2 x3 x4 x5 x6 x7 : Nat) : Int) ∧ wordN x0 x1 x2 x3 x4 x5 x6 x7 < 18446744073709551616 := by
  have w0 : IntKind.u64.wrap (x0 : Int) = (x0 : Int) := wrapU x0 (by omega)
  have w1 : IntKind.u64.wrap (x1 : Int) = (x1 : Int) := wrapU x1 (by omega)
  have w2 : IntKind.u64.wrap (x2 : Int) = (x2 : Int) := wrapU x2 (by omega)
  have w3 : IntKind.u64.wrap (x3 : Int) = (x3 : Int) := wrapU x3 (by omega)
  have w4 : IntKind.u64.wrap (x4 : Int) = (x4 : Int) := wrapU x4 (by omega)
  have w5 : IntKind.u64.wrap (x5 : Int) = (x5 : Int) := wrapU x5 (by omega)
  have w6 : IntKind.u64.wrap (x6 : Int) = (x6 : Int) := wrapU x6 (by omega)
  have w7 : IntKind.u64.wrap (x7 : Int) = (x7 : Int) := wrapU x7 (by omega)
  have e0 : (x0 : Int) = ((x0 * 2 ^ 0 : Nat) : Int) := by omega
  have e1 : IntKind.u64.wrap ((x1 : Int) * 256) = ((x1 * 2 ^ 8 : Nat) : Int) := by rw [show ((x1 : Int) * 256) = ((x1 * 2 ^ 8 : Nat) : Int) by omega]; exact wrapU _ (by omega)
  have e2 : IntKind.u64.wrap ((x2 : Int) * 65536) = ((x2 * 2 ^ 16 : Nat) : Int) := by rw [show ((x2 : Int) * 65536) = ((x2 * 2 ^ 16 : Nat) : Int) by omega]; exact wrapU _ (by omega)
  have e3 : IntKind.u64.wrap ((x3 : Int) * 16777216) = ((x3 * 2 ^ 24 : Nat) : Int) := by rw [show ((x3 : Int) * 16777216) = ((x3 * 2 ^ 24 : Nat) : Int) by omega]; exact wrapU _ (by omega)
  have e4 : IntKind.u64.wrap ((x4 : Int) * 4294967296) = ((x4 * 2 ^ 32 : Nat) : Int) := by rw [show ((x4 : Int) * 4294967296) = ((x4 * 2 ^ 32 : Nat) : Int) by omega]; exact wrapU _ (by omega)
  have e5 : IntKind.u64.wrap ((x5 : Int) * 1099511627776) = ((x5 * 2 ^ 40 : Nat) : Int) := by rw [show ((x5 : Int) * 1099511627776) = ((x5 * 2 ^ 40 : Nat) : Int) by omega]; exact wrapU _ (by omega)
  have e6 : IntKind.u64.wrap ((x6 : Int) * 281474976710656) = ((x6 * 2 ^ 48 : Nat) : Int) := by rw [show ((x6 : Int) * 281474976710656) = ((x6 * 2 ^ 48 : Nat) : Int) by omega]; exact wrapU _ (by omega)
  have e7 : IntKind.u64.wrap ((x7 : Int) * 72057594037927936) = ((x7 * 2 ^ 56 : Nat) : Int) := by rw [show ((x7 : Int) * 72057594037927936) = ((x7 * 2 ^ 56 : Nat) : Int) by omega]; exact wrapU _ (by omega)
  obtain ⟨q1, r1⟩ := or64 (x0 * 2 ^ 0) (x1 * 2 ^ 8) (by omega) (by omega)
  obtain ⟨q2, r2⟩ := or64 _ (x2 * 2 ^ 16) r1 (by omega)
  obtain ⟨q3, r3⟩ := or64 _ (x3 * 2 ^ 24) r2 (by omega)
  obtain ⟨q4, r4⟩ := or64 _ (x4 * 2 ^ 32) r3 (by omega)
  obtain ⟨q5, r5⟩ := or64 _ (x5 * 2 ^ 40) r4 (by omega)
  obtain ⟨q6, r6⟩ := or64 _ (x6 * 2 ^ 48) r5 (by omega)
  obtain ⟨q7, r7⟩ := or64 _ (x7 * 2 ^ 56) r6 (by omega)
  refine ⟨?_, r7⟩
  unfold utf8_word.f
  rw [if_pos (by omega), if_pos (by omega), if_pos (by omega), if_pos (by omega), if_pos (by omega), if_pos (by omega), if_pos (by omega), if_pos (by omega)]
  rw [h0, h1, h2, h3, h4, h5, h6, h7, w0, w1, w2, w3, w4, w5, w6, w7, e1, e2, e3, e4, e5, e6, e7, e0, q1, q2, q3, q4, q5, q6, q7]
  rfl
theorem wordN_mask {x0 x1 x2 x3 x4 x5 x6 x7 : Nat} (l0 : x0 < 256) (l1 : x1 < 256) (l2 : x2 < 256) (l3 : x3 < 256) (l4 : x4 < 256) (l5 : x5 < 256) (l6 : x6 < 256) (l7 : x7 < 256) (h : wordN x0 x1 x2 x3 x4 x5 x6 x7 &&& maskW = 0) :
    x0 < 128 ∧ x1 < 128 ∧ x2 < 128 ∧ x3 < 128 ∧ x4 < 128 ∧ x5 < 128 ∧ x6 < 128 ∧ x7 < 128 := by
  have t := fun j (hj : maskW.testBit j = true) => and_zero_bit h hj
  unfold wordN at t
  have t7 := t (56 + 7) (by decide +kernel)
  have t6 := t (48 + 7) (by decide +kernel)
  have t5 := t (40 + 7) (by decide +kernel)
  have t4 := t (32 + 7) (by decide +kernel)
  have t3 := t (24 + 7) (by decide +kernel)
  have t2 := t (16 + 7) (by decide +kernel)
  have t1 := t (8 + 7) (by decide +kernel)
  have t0 := t (0 + 7) (by decide +kernel)
  exact ⟨byte_bit l0 0 (or_bit (or_bit (or_bit (or_bit (or_bit (or_bit (or_bit t0).1).1).1).1).1).1).1, byte_bit l1 8 (or_bit (or_bit (or_bit (or_bit (or_bit (or_bit (or_bit t1).1).1).1).1).1).1).2, byte_bit l2 16 (or_bit (or_bit (or_bit (or_bit (or_bit (or_bit t2).1).1).1).1).1).2, byte_bit l3 24 (or_bit (or_bit (or_bit (or_bit (or_bit t3).1).1).1).1).2, byte_bit l4 32 (or_bit (or_bit (or_bit (or_bit t4).1).1).1).2, byte_bit l5 40 (or_bit (or_bit (or_bit t5).1).1).2, byte_bit l6 48 (or_bit (or_bit t6).1).2, byte_bit l7 56 (or_bit t7).2⟩
/-- A word of a list, and what it tells if its great bits are none. -/
theorem word_of (l : List Int) (hl : 8 ≤ l.length) (hb : ∀ i : Nat, 0 ≤ rd l (i : Int) ∧ rd l (i : Int) < 256) : ∃ v : Nat, utf8_word.f l = some (v : Int) ∧ v < 18446744073709551616 ∧ (v &&& maskW = 0 → ∀ i : Nat, i < 8 → 0 ≤ rd l (i : Int) ∧ rd l (i : Int) < 128) := by
  have e := fun i : Nat => show rd l (i : Int) = (((rd l (i : Int)).toNat : Nat) : Int) by have := hb i; omega
  have b := fun i : Nat => show (rd l (i : Int)).toNat < 256 by have := hb i; omega
  obtain ⟨h1, h2⟩ := word_eq l _ _ _ _ _ _ _ _ hl (e 0) (e 1) (e 2) (e 3) (e 4) (e 5) (e 6) (e 7) (b 0) (b 1) (b 2) (b 3) (b 4) (b 5) (b 6) (b 7)
  refine ⟨_, h1, h2, fun h i hi => ?_⟩
  obtain ⟨a0, a1, a2, a3, a4, a5, a6, a7⟩ := wordN_mask (b 0) (b 1) (b 2) (b 3) (b 4) (b 5) (b 6) (b 7) h
  have hbi := hb i
  have : i = 0 ∨ i = 1 ∨ i = 2 ∨ i = 3 ∨ i = 4 ∨ i = 5 ∨ i = 6 ∨ i = 7 := by omega
  rcases this with rfl | rfl | rfl | rfl | rfl | rfl | rfl | rfl <;> omega
theorem and_mask (v : Nat) (h : v < 18446744073709551616) : Go.bits .and .u64 (v : Int) 9259542123273814144 = ((v &&& maskW : Nat) : Int) := u64_and_nat v 9259542123273814144 h (by omega)
theorem or_mask {a b : Nat} (h : (a ||| b) &&& maskW = 0) : a &&& maskW = 0 ∧ b &&& maskW = 0 := by
  rw [Nat.and_or_distrib_right, Nat.or_eq_zero_iff] at h
  exact h
end Go.Proofs.YtgcdhjgdlnpknaaDoor.P
