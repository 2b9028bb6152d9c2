/- Proved: what pair.Mirror, and the document's answer for it, tell of any number; condition: enough rounds. -/
import Derived.Test.YtcmcajjdcbkfkaaPLib
import Derived.Test.YtcmcajjdcbkfkaaSPair
import Derived.Test.YtcmcajjdcbkfkaaPx4
import Derived.Test.YtcmcajjdcbkfkaaPx7
namespace Go.Proofs.Ytcmcajjdcbkfkaa.P
open Go.RowKit Go.Proofs.YtcmcajjdcbkfkaaW.PrintWords Go.Proofs.YtcmcajjdcbkfkaaW.PrintLast Go.Proofs.YtcmcajjdcbkfkaaW.PrintMore
set_option linter.unusedVariables false
set_option linter.unusedSimpArgs false

def mkeys : List Int := [40, 41, 91, 93, 123, 125, 9001, 9002, 12296, 12297, 12298, 12299, 12300, 12301, 12302, 12303, 12304, 12305, 60, 62, 171, 187, 8804, 8805, 8810, 8811]
def mtbl : List (Int × Int) := [(40, 41), (41, 40), (91, 93), (93, 91), (123, 125), (125, 123), (9001, 9002), (9002, 9001), (12296, 12297), (12297, 12296), (12298, 12299), (12299, 12298), (12300, 12301), (12301, 12300), (12302, 12303), (12303, 12302), (12304, 12305), (12305, 12304), (60, 62), (62, 60), (171, 187), (187, 171), (8804, 8805), (8805, 8804), (8810, 8811), (8811, 8810)]
/-- What a character is mirrored into. -/
def mir (c : Int) : Int := match mtbl.find? (fun p => p.1 == c) with
  | some p => p.2
  | none => c
/-- As a bracket. -/
def asb (c : Int) : Int := if c = 9001 then 12296 else if c = 9002 then 12297 else c
/-- One bracket. -/
def sameb (a b : Int) : Bool := (pair_Other.ans a).2.2 && (pair_Other.ans b).2.2 && (asb a == asb b)

theorem out_ne {c : Int} (h : c ∉ mkeys) : ∀ x ∈ mkeys, ¬ c = x := fun x hx e => h (e ▸ hx)
theorem mir_out {c : Int} (h : c ∉ mkeys) : mir c = c := by
  have hn : mtbl.find? (fun p => p.1 == c) = none := by
    rw [List.find?_eq_none]
    intro p hp he
    simp only [beq_iff_eq] at he
    have hk : ∀ p ∈ mtbl, p.1 ∈ mkeys := by decide
    exact h (he ▸ hk p hp)
  unfold mir
  rw [hn]
theorem ans_out {c : Int} (h : c ∉ mkeys) : pair_Other.ans c = (0, false, false) := by
  have h1 : pair_Other.up c = none := by
    unfold pair_Other.up
    rw [List.find?_eq_none]
    intro p hp he
    simp only [beq_iff_eq] at he
    have hk : ∀ p ∈ pair_Other.tbl, p.1 ∈ mkeys := by decide
    exact h (he ▸ hk p hp)
  have h2 : pair_Other.down c = none := by
    unfold pair_Other.down
    rw [List.find?_eq_none]
    intro p hp he
    simp only [beq_iff_eq] at he
    have hk : ∀ p ∈ pair_Other.tbl, p.2 ∈ mkeys := by decide
    exact h (he ▸ hk p hp)
  unfold pair_Other.ans
  rw [h1, h2]
/-- What holds of every one in the table, and of all that are none, holds. -/
theorem by_keys (P : Int → Prop) (hin : ∀ c ∈ mkeys, P c) (hout : ∀ c, c ∉ mkeys → P c) (c : Int) : P c := by
  by_cases h : c ∈ mkeys
  · exact hin c h
  · exact hout c h
theorem mir_mir (c : Int) : mir (mir c) = c := by
  revert c
  refine by_keys _ (by decide) fun c h => ?_
  rw [mir_out h, mir_out h]

theorem mirror_eq0 (c : Int) : pair_Mirror.f 4 c = some (mir c) := by
  revert c
  refine by_keys _ (by decide +kernel) fun c h => ?_
  have ho := ans_out h
  rw [mir_out h]
  simp only [mkeys, List.mem_cons, List.not_mem_nil, or_false, not_or] at h
  simp [pair_Mirror.f, pair_Mirror.j0, pair_Mirror.j1, pair_Mirror.j2, pair_Other.f, ho, h]
theorem mirror_eq (k : Nat) (hk : 4 ≤ k) (c : Int) : pair_Mirror.f k c = some (mir c) := more (pair_Mirror.mono c) 4 k hk _ (mirror_eq0 c)
set_option maxRecDepth 10000 in
theorem rmirror_eq0 (c : Int) : ductusref03_Mirror.f 14 c = some (mir c) := by
  revert c
  refine by_keys _ (by decide +kernel) fun c h => ?_
  rw [mir_out h]
  simp only [mkeys, List.mem_cons, List.not_mem_nil, or_false, not_or] at h
  simp [ductusref03_Mirror.f, ductusref03_Mirror.l0, ductusref03_brackets.f, rd, wrap64, eq_comm (b := c), h]
theorem rmirror_eq (k : Nat) (hk : 14 ≤ k) (c : Int) : ductusref03_Mirror.f k c = some (mir c) := more (ductusref03_Mirror.mono c) 14 k hk _ (rmirror_eq0 c)
end Go.Proofs.Ytcmcajjdcbkfkaa.P
