/- Proved: what the mirroring functions of pair, and the document's answers for them, tell of any number and any list; conditions: enough rounds, and a list's bytes below 2^47. -/
import Derived.Test.YtmgagebjdldenaaPLib
import Derived.Test.YtmgagebjdldenaaSPair
import Derived.Test.YtmgagebjdldenaaPx4
import Derived.Test.YtmgagebjdldenaaPx8
namespace Go.Proofs.Ytmgagebjdldenaa.P
open Go.RowKit Go.Proofs.YtmgagebjdldenaaW.PrintWords Go.Proofs.YtmgagebjdldenaaW.PrintLast Go.Proofs.YtmgagebjdldenaaW.PrintMore
set_option linter.unusedVariables false
set_option linter.unusedSimpArgs false

def mkeys : List Int := [40, 41, 91, 93, 123, 125, 9001, 9002, 12296, 12297, 12298, 12299, 12300, 12301, 12302, 12303, 12304, 12305, 60, 62, 171, 187, 8804, 8805, 8810, 8811]
def mtbl : List (Int × Int) := [(40, 41), (41, 40), (91, 93), (93, 91), (123, 125), (125, 123), (9001, 9002), (9002, 9001), (12296, 12297), (12297, 12296), (12298, 12299), (12299, 12298), (12300, 12301), (12301, 12300), (12302, 12303), (12303, 12302), (12304, 12305), (12305, 12304), (60, 62), (62, 60), (171, 187), (187, 171), (8804, 8805), (8805, 8804), (8810, 8811), (8811, 8810)]
/-- What a character is mirrored into. -/
def mir (c : Int) : Int := match mtbl.find? (fun p => p.1 == c) with
  | some p => p.2
  | none => c
/-- As a bracket. -/
def asb (c : Int) : Int := if c = 9001 then 12296 else if c = 9002 then 12297 else c
/-- One bracket. -/
def sameb (a b : Int) : Bool := (pair_Other.ans a).2.2 && (pair_Other.ans b).2.2 && (asb a == asb b)

theorem out_ne {c : Int} (h : c ∉ mkeys) : ∀ x ∈ mkeys, ¬ c = x := fun x hx e => h (e ▸ hx)
theorem mir_out {c : Int} (h : c ∉ mkeys) : mir c = c := by
  have hn : mtbl.find? (fun p => p.1 == c) = none := by
    rw [List.find?_eq_none]
    intro p hp he
    simp only [beq_iff_eq] at he
    have hk : ∀ p ∈ mtbl, p.1 ∈ mkeys := by decide
    exact h (he ▸ hk p hp)
  unfold mir
  rw [hn]
theorem ans_out {c : Int} (h : c ∉ mkeys) : pair_Other.ans c = (0, false, false) := by
  have h1 : pair_Other.up c = none := by
    unfold pair_Other.up
    rw [List.find?_eq_none]
    intro p hp he
    simp only [beq_iff_eq] at he
    have hk : ∀ p ∈ pair_Other.tbl, p.1 ∈ mkeys := by decide
    exact h (he ▸ hk p hp)
  have h2 : pair_Other.down c = none := by
    unfold pair_Other.down
    rw [List.find?_eq_none]
    intro p hp he
    simp only [beq_iff_eq] at he
    have hk : ∀ p ∈ pair_Other.tbl, p.2 ∈ mkeys := by decide
    exact h (he ▸ hk p hp)
  unfold pair_Other.ans
  rw [h1, h2]
/-- What holds of every one in the table, and of all that are none, holds. -/
theorem by_keys (P : Int → Prop) (hin : ∀ c ∈ mkeys, P c) (hout : ∀ c, c ∉ mkeys → P c) (c : Int) : P c := by
  by_cases h : c ∈ mkeys
  · exact hin c h
  · exact hout c h
theorem mir_mir (c : Int) : mir (mir c) = c := by
  revert c
  refine by_keys _ (by decide) fun c h => ?_
  rw [mir_out h, mir_out h]

theorem mirror_eq0 (c : Int) : pair_Mirror.f 4 c = some (mir c) := by
  revert c
  refine by_keys _ (by decide +kernel) fun c h => ?_
  have ho := ans_out h
  rw [mir_out h]
  simp only [mkeys, List.mem_cons, List.not_mem_nil, or_false, not_or] at h
  simp [pair_Mirror.f, pair_Mirror.j0, pair_Mirror.j1, pair_Mirror.j2, pair_Other.f, ho, h]
theorem mirror_eq (k : Nat) (hk : 4 ≤ k) (c : Int) : pair_Mirror.f k c = some (mir c) := more (pair_Mirror.mono c) 4 k hk _ (mirror_eq0 c)
theorem plain_loop (l : List Int) (hn : l.length * 8 ≤ 140737488351232) (d : Nat) : ∀ (k i : Nat) (acc : List Int), i ≤ l.length → l.length - i = d → d + 4 < k → acc.length = i →
    pair_Plain.l0 k acc l (l.length : Int) (i : Int) = some (acc ++ (l.drop i).map fun c => mn c (mir c)) := by
  induction d with
  | zero =>
    intro k i acc hi hd hk ha
    obtain ⟨k, rfl⟩ : ∃ m, k = m + 1 := ⟨k - 1, by omega⟩
    simp only [pair_Plain.l0]
    rw [if_neg (by omega), List.drop_eq_nil_of_le (by omega)]
    simp
  | succ d ih =>
    intro k i acc hi hd hk ha
    obtain ⟨k, rfl⟩ : ∃ m, k = m + 1 := ⟨k - 1, by omega⟩
    simp only [pair_Plain.l0]
    rw [if_pos (by omega), if_pos (by omega), if_pos (by omega), mirror_eq k (by omega)]
    simp only [Option.bind_some]
    rw [if_pos (by omega), wrap_succ i (by omega), ih k (i + 1) _ (by omega) (by omega) (by omega) (by simp [ha]), drop_cons l i (by omega)]
    simp
/-- The lesser one of two that are mirrored, of each. -/
def plainL (l : List Int) : List Int := l.map fun c => mn c (mir c)
theorem plain_eq (k : Nat) (l : List Int) (hn : l.length * 8 ≤ 140737488351232) (hk : l.length + 4 < k) : pair_Plain.f k l = some (plainL l) := by
  unfold pair_Plain.f
  have := plain_loop l hn l.length k 0 [] (by omega) (by omega) hk rfl
  unfold plainL
  simpa using this

set_option maxRecDepth 10000 in
theorem rmirror_eq0 (c : Int) : ductusref03_Mirror.f 14 c = some (mir c) := by
  revert c
  refine by_keys _ (by decide +kernel) fun c h => ?_
  rw [mir_out h]
  simp only [mkeys, List.mem_cons, List.not_mem_nil, or_false, not_or] at h
  simp [ductusref03_Mirror.f, ductusref03_Mirror.l0, ductusref03_brackets.f, rd, wrap64, eq_comm (b := c), h]
theorem rmirror_eq (k : Nat) (hk : 14 ≤ k) (c : Int) : ductusref03_Mirror.f k c = some (mir c) := more (ductusref03_Mirror.mono c) 14 k hk _ (rmirror_eq0 c)
end Go.Proofs.Ytmgagebjdldenaa.P
