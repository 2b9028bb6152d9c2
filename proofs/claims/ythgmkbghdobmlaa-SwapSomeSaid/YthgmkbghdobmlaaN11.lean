/- Texts of this claim put together by a program of its own, what no law of the claim uses left out: each part's statements bear their own conditions. -/
import Derived.Test.YthgmkbghdobmlaaN0
import Derived.Test.YthgmkbghdobmlaaN10
import Derived.Test.YthgmkbghdobmlaaN5
import Derived.Test.YthgmkbghdobmlaaN6
import Derived.Test.YthgmkbghdobmlaaN8
import Derived.Test.YthgmkbghdobmlaaN4
import Derived.Test.YthgmkbghdobmlaaN2
import Derived.Test.YthgmkbghdobmlaaN3
namespace Go.Proofs.Ythgmkbghdobmlaa.P
open Go.RowKit Go.Proofs.YthgmkbghdobmlaaW.PrintWords Go.Proofs.YthgmkbghdobmlaaW.PrintLast Go.Proofs.YthgmkbghdobmlaaW.PrintMore
attribute [local go_sem] max2_int min2_int max_two min_two max_three min_three max_four min_four   -- for this text's walks alone
set_option linter.unusedVariables false
set_option linter.unusedSimpArgs false

end Go.Proofs.Ythgmkbghdobmlaa.P
namespace Go.Proofs.Ythgmkbghdobmlaa.P
open Go.RowKit Go.Proofs.YthgmkbghdobmlaaW.PrintWords Go.Proofs.YthgmkbghdobmlaaW.PrintLast Go.Proofs.YthgmkbghdobmlaaW.PrintMore
attribute [local go_sem] max2_int min2_int max_two min_two max_three min_three max_four min_four   -- for this text's walks alone
set_option linter.unusedVariables false
set_option linter.unusedSimpArgs false

end Go.Proofs.Ythgmkbghdobmlaa.P
namespace Go.Proofs.Ythgmkbghdobmlaa.P
open Go.RowKit Go.Proofs.YthgmkbghdobmlaaW.PrintWords Go.Proofs.YthgmkbghdobmlaaW.PrintLast
set_option linter.unusedVariables false

theorem ints_loop (a b : List Int) (hl : a.length = b.length) (hn : a.length < 9223372036854775807) (d : Nat) : ∀ (k i : Nat), i ≤ a.length → a.length - i = d → d < k →
    ductusref01_Ints.l0 k a b (i : Int) = some (decide (a.drop i = b.drop i)) := by
  induction d with
  | zero =>
    intro k i hi hd hk
    obtain ⟨k, rfl⟩ : ∃ m, k = m + 1 := ⟨k - 1, by omega⟩
    simp only [ductusref01_Ints.l0]
    rw [if_neg (by omega), List.drop_eq_nil_of_le (by omega), List.drop_eq_nil_of_le (by omega)]
    simp
  | succ d ih =>
    intro k i hi hd hk
    obtain ⟨k, rfl⟩ : ∃ m, k = m + 1 := ⟨k - 1, by omega⟩
    simp only [ductusref01_Ints.l0]
    rw [if_pos (by omega), if_pos (by omega), if_pos (by omega), wrap_succ i (by omega), drop_cons a i (by omega), drop_cons b i (by omega)]
    by_cases h : rd a i = rd b i
    · rw [if_pos h, ih k (i + 1) (by omega) (by omega) (by omega), h]
      simp
    · rw [if_neg h]
      simp [h]
theorem ints_eq (k : Nat) (a b : List Int) (hn : a.length < 9223372036854775807) (hk : a.length < k) : ductusref01_Ints.f k a b = some (decide (a = b)) := by
  unfold ductusref01_Ints.f
  by_cases h : a.length = b.length
  · rw [if_pos (by omega)]
    have := ints_loop a b h hn a.length k 0 (by omega) (by omega) hk
    simpa using this
  · rw [if_neg (by omega)]
    have : ¬ a = b := fun e => h (by rw [e])
    simp [this]
theorem ints_same (k : Nat) (a : List Int) (hn : a.length < 9223372036854775807) (hk : a.length < k) : ductusref01_Ints.f k a a = some true := by
  rw [ints_eq k a a hn hk]
  simp

end Go.Proofs.Ythgmkbghdobmlaa.P
namespace Go.Proofs.Ythgmkbghdobmlaa.P
open Go.RowKit Go.Proofs.YthgmkbghdobmlaaW.PrintWords Go.Proofs.YthgmkbghdobmlaaW.PrintLast
set_option linter.unusedVariables false

/-- The places of those that a test lets. -/
def placesOf (p : Int → Bool) : Nat → List Int → List Int
  | _, [] => []
  | i, c :: l => if p c then (i : Int) :: placesOf p (i + 1) l else placesOf p (i + 1) l
theorem places_len (p : Int → Bool) : ∀ (i : Nat) (l : List Int), (placesOf p i l).length = (l.filter p).length
  | _, [] => rfl
  | i, c :: l => by
    simp only [placesOf, List.filter_cons]
    split <;> simp [places_len p (i + 1) l]
theorem places_mem (p : Int → Bool) : ∀ (i : Nat) (l : List Int) (x : Int), x ∈ placesOf p i l → (i : Int) ≤ x ∧ x < ((i + l.length : Nat) : Int)
  | _, [], _, h => by simp [placesOf] at h
  | i, c :: l, x, h => by
    simp only [placesOf] at h
    have h2 : ∀ x ∈ placesOf p (i + 1) l, (i : Int) ≤ x ∧ x < ((i + (l.length + 1) : Nat) : Int) := fun x hx => by
      have := places_mem p (i + 1) l x hx
      omega
    simp only [List.length_cons]
    split at h
    · rcases List.mem_cons.1 h with rfl | h
      · omega
      · exact h2 x h
    · exact h2 x h
theorem places_up (p : Int → Bool) : ∀ (i : Nat) (l : List Int), List.Pairwise (· < ·) (placesOf p i l)
  | _, [] => List.Pairwise.nil
  | i, c :: l => by
    simp only [placesOf]
    split
    · refine List.pairwise_cons.2 ⟨fun x hx => ?_, places_up p (i + 1) l⟩
      have := places_mem p (i + 1) l x hx
      omega
    · exact places_up p (i + 1) l
end Go.Proofs.Ythgmkbghdobmlaa.P
namespace Go.Proofs.Ythgmkbghdobmlaa.P
open Go.RowKit Go.Proofs.YthgmkbghdobmlaaW.PrintWords Go.Proofs.YthgmkbghdobmlaaW.PrintLast Go.Proofs.YthgmkbghdobmlaaW.PrintMore
set_option linter.unusedVariables false
set_option linter.unusedSimpArgs false

def mkeys : List Int := [40, 41, 91, 93, 123, 125, 9001, 9002, 12296, 12297, 12298, 12299, 12300, 12301, 12302, 12303, 12304, 12305, 60, 62, 171, 187, 8804, 8805, 8810, 8811]
def mtbl : List (Int × Int) := [(40, 41), (41, 40), (91, 93), (93, 91), (123, 125), (125, 123), (9001, 9002), (9002, 9001), (12296, 12297), (12297, 12296), (12298, 12299), (12299, 12298), (12300, 12301), (12301, 12300), (12302, 12303), (12303, 12302), (12304, 12305), (12305, 12304), (60, 62), (62, 60), (171, 187), (187, 171), (8804, 8805), (8805, 8804), (8810, 8811), (8811, 8810)]
/-- What a character is mirrored into. -/
def mir (c : Int) : Int := match mtbl.find? (fun p => p.1 == c) with
  | some p => p.2
  | none => c
theorem mir_out {c : Int} (h : c ∉ mkeys) : mir c = c := by
  have hn : mtbl.find? (fun p => p.1 == c) = none := by
    rw [List.find?_eq_none]
    intro p hp he
    simp only [beq_iff_eq] at he
    have hk : ∀ p ∈ mtbl, p.1 ∈ mkeys := by decide
    exact h (he ▸ hk p hp)
  unfold mir
  rw [hn]
theorem ans_out {c : Int} (h : c ∉ mkeys) : pair_Other.ans c = (0, false, false) := by
  have h1 : pair_Other.up c = none := by
    unfold pair_Other.up
    rw [List.find?_eq_none]
    intro p hp he
    simp only [beq_iff_eq] at he
    have hk : ∀ p ∈ pair_Other.tbl, p.1 ∈ mkeys := by decide
    exact h (he ▸ hk p hp)
  have h2 : pair_Other.down c = none := by
    unfold pair_Other.down
    rw [List.find?_eq_none]
    intro p hp he
    simp only [beq_iff_eq] at he
    have hk : ∀ p ∈ pair_Other.tbl, p.2 ∈ mkeys := by decide
    exact h (he ▸ hk p hp)
  unfold pair_Other.ans
  rw [h1, h2]
/-- What holds of every one in the table, and of all that are none, holds. -/
theorem by_keys (P : Int → Prop) (hin : ∀ c ∈ mkeys, P c) (hout : ∀ c, c ∉ mkeys → P c) (c : Int) : P c := by
  by_cases h : c ∈ mkeys
  · exact hin c h
  · exact hout c h
theorem mirror_eq0 (c : Int) : pair_Mirror.f 4 c = some (mir c) := by
  revert c
  refine by_keys _ (by decide +kernel) fun c h => ?_
  have ho := ans_out h
  rw [mir_out h]
  simp only [mkeys, List.mem_cons, List.not_mem_nil, or_false, not_or] at h
  simp [pair_Mirror.f, pair_Mirror.j0, pair_Mirror.j1, pair_Mirror.j2, pair_Other.f, ho, h]
theorem mirror_eq (k : Nat) (hk : 4 ≤ k) (c : Int) : pair_Mirror.f k c = some (mir c) := more (pair_Mirror.mono c) 4 k hk _ (mirror_eq0 c)
set_option maxRecDepth 10000 in
theorem rmirror_eq0 (c : Int) : ductusref03_Mirror.f 14 c = some (mir c) := by
  revert c
  refine by_keys _ (by decide +kernel) fun c h => ?_
  rw [mir_out h]
  simp only [mkeys, List.mem_cons, List.not_mem_nil, or_false, not_or] at h
  simp [ductusref03_Mirror.f, ductusref03_Mirror.l0, ductusref03_brackets.f, rd, wrap64, eq_comm (b := c), h]
theorem rmirror_eq (k : Nat) (hk : 14 ≤ k) (c : Int) : ductusref03_Mirror.f k c = some (mir c) := more (ductusref03_Mirror.mono c) 14 k hk _ (rmirror_eq0 c)
end Go.Proofs.Ythgmkbghdobmlaa.P
namespace Go.Proofs.Ythgmkbghdobmlaa.P
open Go.RowKit Go.Proofs.YthgmkbghdobmlaaW.PrintWords Go.Proofs.YthgmkbghdobmlaaW.PrintLast Go.Proofs.YthgmkbghdobmlaaW.PrintMore
set_option linter.unusedVariables false
set_option linter.unusedSimpArgs false

theorem plain_loop (l : List Int) (hn : l.length * 8 ≤ 140737488351232) (d : Nat) : ∀ (k i : Nat) (acc : List Int), i ≤ l.length → l.length - i = d → d + 4 < k → acc.length = i →
    pair_Plain.l0 k acc l (l.length : Int) (i : Int) = some (acc ++ (l.drop i).map fun c => mn c (mir c)) := by
  induction d with
  | zero =>
    intro k i acc hi hd hk ha
    obtain ⟨k, rfl⟩ : ∃ m, k = m + 1 := ⟨k - 1, by omega⟩
    simp only [pair_Plain.l0]
    rw [if_neg (by omega), List.drop_eq_nil_of_le (by omega)]
    simp
  | succ d ih =>
    intro k i acc hi hd hk ha
    obtain ⟨k, rfl⟩ : ∃ m, k = m + 1 := ⟨k - 1, by omega⟩
    simp only [pair_Plain.l0]
    rw [if_pos (by omega), if_pos (by omega), if_pos (by omega), mirror_eq k (by omega)]
    simp only [Option.bind_some]
    rw [if_pos (by omega), wrap_succ i (by omega), ih k (i + 1) _ (by omega) (by omega) (by omega) (by simp [ha]), drop_cons l i (by omega)]
    simp
/-- The lesser one of two that are mirrored, of each. -/
def plainL (l : List Int) : List Int := l.map fun c => mn c (mir c)
theorem plain_eq (k : Nat) (l : List Int) (hn : l.length * 8 ≤ 140737488351232) (hk : l.length + 4 < k) : pair_Plain.f k l = some (plainL l) := by
  unfold pair_Plain.f
  have := plain_loop l hn l.length k 0 [] (by omega) (by omega) hk rfl
  unfold plainL
  simpa using this

end Go.Proofs.Ythgmkbghdobmlaa.P

