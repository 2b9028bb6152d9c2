/-
  No cell of these rows narrows 'for every input' (looked for: loops, veiled, ifaces, maps, wideKeys, modest, calm, conditions, laid).
  DERIVED. THE GIVEN ROWS OF THIS SEAT. 4 by the template 'for every input the law returns true; each argument reads behind the call as it read before'; 0 by the template 'total and deterministic' (their statements: YtcmndocfadhonaaTotals.lean).
  GIVEN WITH THE SEED: the statements are not yours to turn. If you find one false, say at which input.
  Laid BY PROGRAM, IN A SANDBOX (cutbox-rows.mjs): the forced cells as the released guide's own fill.sh prints them over the translation 6f3835bef794fbf2… (all of the seat's roots in one cut). By AI agents, Wed Nov 11 2026. No macro, syntax, notation, axiom, sorry.
-/
import Derived.Test.YtcmndocfadhonaaChecked
import GoSem.Claim
import GoSem.ClaimJoined
import GoSem.ClaimMapViews
import Derived.JoinedTies
import Derived.KernelRfl
namespace Go.Proofs.Ytcmndocfadhonaa
/- THE CELL 'sum', in the pinned program and in every row, IS THE sha256 OF THE DUMP (.gsa) THAT YtcmndocfadhonaaProg.lean LOADS. Nothing in Lean hashes anything: it is a label: what it is worth is what the hold of that sum in a sandbox is worth. -/
noncomputable def Try.pinned : Pinned := { name := "ytcmndocfadhonaa", sum := "6f3835bef794fbf28a8e1dbf6de44fd6fb8893b3bb748a8a9f12c1311762193e", checked := Try.checked }
namespace Rows
def none {H : Type} : Left H := { results := [], args := [] }

/-- 'ductuslaw11.NeutralAnswers': WHATEVER THE INPUT: true; the input reads as it did. -/
def neutralAnswersSpec : ChangeSpec := { name := "neutralAnswers", fn := fun _ => fun
  | [d1, d2] => { results := [.lit (.bool true)], args := [d1, d2] }
  | _ => none }
def neutralAnswersRow : OpenClaim := { program := "ytcmndocfadhonaa", sum := "6f3835bef794fbf28a8e1dbf6de44fd6fb8893b3bb748a8a9f12c1311762193e", func := "ductus/ductuslaw11.NeutralAnswers", spec := "neutralAnswers", apart := false }
def NeutralAnswersSaid : Prop := neutralAnswersRow.holds Try.pinned (OpenSpec.ofChange neutralAnswersSpec)

/-- ITS FALSE NEIGHBOUR: 'it returns false'. Refute it at one input. -/
def neutralAnswersWrong : ChangeSpec := { name := "neutralAnswers", fn := fun _ => fun
  | [d1, d2] => { results := [.lit (.bool false)], args := [d1, d2] }
  | _ => none }
def NeutralAnswersWrongFalsely : Prop := neutralAnswersRow.holds Try.pinned (OpenSpec.ofChange neutralAnswersWrong)

/-- 'ductuslaw11.NeutralGoes': WHATEVER THE INPUT: true; the input reads as it did. -/
def neutralGoesSpec : ChangeSpec := { name := "neutralGoes", fn := fun _ => fun
  | [d1, d2, d3] => { results := [.lit (.bool true)], args := [d1, d2, d3] }
  | _ => none }
def neutralGoesRow : OpenClaim := { program := "ytcmndocfadhonaa", sum := "6f3835bef794fbf28a8e1dbf6de44fd6fb8893b3bb748a8a9f12c1311762193e", func := "ductus/ductuslaw11.NeutralGoes", spec := "neutralGoes", apart := false }
def NeutralGoesSaid : Prop := neutralGoesRow.holds Try.pinned (OpenSpec.ofChange neutralGoesSpec)

/-- ITS FALSE NEIGHBOUR: 'it returns false'. Refute it at one input. -/
def neutralGoesWrong : ChangeSpec := { name := "neutralGoes", fn := fun _ => fun
  | [d1, d2, d3] => { results := [.lit (.bool false)], args := [d1, d2, d3] }
  | _ => none }
def NeutralGoesWrongFalsely : Prop := neutralGoesRow.holds Try.pinned (OpenSpec.ofChange neutralGoesWrong)

/-- 'ductuslaw11.NeutralLevels': WHATEVER THE INPUT: true; the input reads as it did. -/
def neutralLevelsSpec : ChangeSpec := { name := "neutralLevels", fn := fun _ => fun
  | [d1, d2] => { results := [.lit (.bool true)], args := [d1, d2] }
  | _ => none }
def neutralLevelsRow : OpenClaim := { program := "ytcmndocfadhonaa", sum := "6f3835bef794fbf28a8e1dbf6de44fd6fb8893b3bb748a8a9f12c1311762193e", func := "ductus/ductuslaw11.NeutralLevels", spec := "neutralLevels", apart := false }
def NeutralLevelsSaid : Prop := neutralLevelsRow.holds Try.pinned (OpenSpec.ofChange neutralLevelsSpec)

/-- ITS FALSE NEIGHBOUR: 'it returns false'. Refute it at one input. -/
def neutralLevelsWrong : ChangeSpec := { name := "neutralLevels", fn := fun _ => fun
  | [d1, d2] => { results := [.lit (.bool false)], args := [d1, d2] }
  | _ => none }
def NeutralLevelsWrongFalsely : Prop := neutralLevelsRow.holds Try.pinned (OpenSpec.ofChange neutralLevelsWrong)

/-- 'ductuslaw11.NeutralGroups': WHATEVER THE INPUT: true; the input reads as it did. -/
def neutralGroupsSpec : ChangeSpec := { name := "neutralGroups", fn := fun _ => fun
  | [d] => { results := [.lit (.bool true)], args := [d] }
  | _ => none }
def neutralGroupsRow : OpenClaim := { program := "ytcmndocfadhonaa", sum := "6f3835bef794fbf28a8e1dbf6de44fd6fb8893b3bb748a8a9f12c1311762193e", func := "ductus/ductuslaw11.NeutralGroups", spec := "neutralGroups", apart := false }
def NeutralGroupsSaid : Prop := neutralGroupsRow.holds Try.pinned (OpenSpec.ofChange neutralGroupsSpec)

/-- ITS FALSE NEIGHBOUR: 'it returns false'. Refute it at one input. -/
def neutralGroupsWrong : ChangeSpec := { name := "neutralGroups", fn := fun _ => fun
  | [d] => { results := [.lit (.bool false)], args := [d] }
  | _ => none }
def NeutralGroupsWrongFalsely : Prop := neutralGroupsRow.holds Try.pinned (OpenSpec.ofChange neutralGroupsWrong)

/- THE SECOND FORM. 'bulk': how many values and letters a reading holds, each counted each time it is reached (what is shared counts as often as it is met; a slice's spare places count too). A statement '..UptoSaid' is the law's where the arguments, and the package variables that the reading takes, are together of bulk at most 1048576: NARROWER than '..Said'. Prove '..Said' where nothing that the law and all that it calls make is longer than what came in: it says more and counts as full. Else prove '..UptoSaid'. A law counts once. -/
mutual
def uptoBulk {H : Type} : DataW H → Nat
  | .lit (.string bytes) => bytes.length + 1
  | .lit _ => 1
  | .nil => 1
  | .ptr d => uptoBulk d + 1
  | .slice elems spare => uptoBulkAll elems + uptoBulkAll spare + 1
  | .agg parts => uptoBulkAll parts + 1
  | .iface _ d => uptoBulk d + 1
  | .map entries => uptoBulkEntries entries + 1
  | .held _ => 1
def uptoBulkAll {H : Type} : List (DataW H) → Nat
  | [] => 0
  | d :: r => uptoBulk d + uptoBulkAll r
def uptoBulkEntries {H : Type} : List (Lit × DataW H) → Nat
  | [] => 0
  | x :: r => uptoBulkEntry x + uptoBulkEntries r
def uptoBulkEntry {H : Type} : Lit × DataW H → Nat
  | (.string bytes, d) => bytes.length + uptoBulk d + 1
  | (_, d) => uptoBulk d + 1
 end
def uptoSmall : (H : Type) → List (DataW H) → Bool := fun _ ds => decide (uptoBulkAll ds ≤ 1048576)
def OpenSpec.upto (s : _root_.Go.ChangeSpec) : _root_.Go.OpenSpec := { _root_.Go.OpenSpec.ofChange s with cond := some uptoSmall }

/-- 'ductuslaw11.NeutralAnswers', WHERE WHAT IT READS IS OF BULK AT MOST 1048576: true; the input reads as it did. -/
def neutralAnswersUptoRow : OpenClaim := { program := "ytcmndocfadhonaa", sum := "6f3835bef794fbf28a8e1dbf6de44fd6fb8893b3bb748a8a9f12c1311762193e", func := "ductus/ductuslaw11.NeutralAnswers", spec := "neutralAnswers", apart := false, narrowed := true }
def NeutralAnswersUptoSaid : Prop := neutralAnswersUptoRow.holds Try.pinned (OpenSpec.upto neutralAnswersSpec)

/-- 'ductuslaw11.NeutralGoes', WHERE WHAT IT READS IS OF BULK AT MOST 1048576: true; the input reads as it did. -/
def neutralGoesUptoRow : OpenClaim := { program := "ytcmndocfadhonaa", sum := "6f3835bef794fbf28a8e1dbf6de44fd6fb8893b3bb748a8a9f12c1311762193e", func := "ductus/ductuslaw11.NeutralGoes", spec := "neutralGoes", apart := false, narrowed := true }
def NeutralGoesUptoSaid : Prop := neutralGoesUptoRow.holds Try.pinned (OpenSpec.upto neutralGoesSpec)

/-- 'ductuslaw11.NeutralLevels', WHERE WHAT IT READS IS OF BULK AT MOST 1048576: true; the input reads as it did. -/
def neutralLevelsUptoRow : OpenClaim := { program := "ytcmndocfadhonaa", sum := "6f3835bef794fbf28a8e1dbf6de44fd6fb8893b3bb748a8a9f12c1311762193e", func := "ductus/ductuslaw11.NeutralLevels", spec := "neutralLevels", apart := false, narrowed := true }
def NeutralLevelsUptoSaid : Prop := neutralLevelsUptoRow.holds Try.pinned (OpenSpec.upto neutralLevelsSpec)

/-- 'ductuslaw11.NeutralGroups', WHERE WHAT IT READS IS OF BULK AT MOST 1048576: true; the input reads as it did. -/
def neutralGroupsUptoRow : OpenClaim := { program := "ytcmndocfadhonaa", sum := "6f3835bef794fbf28a8e1dbf6de44fd6fb8893b3bb748a8a9f12c1311762193e", func := "ductus/ductuslaw11.NeutralGroups", spec := "neutralGroups", apart := false, narrowed := true }
def NeutralGroupsUptoSaid : Prop := neutralGroupsUptoRow.holds Try.pinned (OpenSpec.upto neutralGroupsSpec)

end Rows
end Go.Proofs.Ytcmndocfadhonaa
