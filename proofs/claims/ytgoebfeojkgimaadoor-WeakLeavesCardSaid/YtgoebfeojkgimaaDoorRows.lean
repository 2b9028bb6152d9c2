/-
  NARROWER THAN 'FOR EVERY INPUT', by the rows' own cells (each row's printed sentence says how): WeakLeaves: laid · WeakSteps: laid · WeakStrongs: laid · WeakPlain: laid.
  DERIVED. THE GIVEN ROWS OF THIS SEAT. 4 by the template 'for every input the law returns true; each argument reads behind the call as it read before'; 0 by the template 'total and deterministic' (their statements: YtgoebfeojkgimaaDoorTotals.lean).
  GIVEN WITH THE SEED: the statements are not yours to turn. If you find one false, say at which input.
  Laid BY PROGRAM, IN A SANDBOX (cutbox-rows.mjs): the forced cells as the released guide's own fill.sh prints them over the translation a69c2253ba8cfb00… (all of the seat's roots in one cut). By AI agents, Wed Nov 11 2026. No macro, syntax, notation, axiom, sorry.
-/
import Derived.Test.YtgoebfeojkgimaaDoorChecked
import GoSem.Claim
import GoSem.ClaimJoined
import GoSem.ClaimMapViews
import Derived.JoinedTies
import Derived.KernelRfl
namespace Go.Proofs.YtgoebfeojkgimaaDoor
/- THE CELL 'sum', in the pinned program and in every row, IS THE sha256 OF THE DUMP (.gsa) THAT YtgoebfeojkgimaaDoorProg.lean LOADS. Nothing in Lean hashes anything: it is a label: what it is worth is what the hold of that sum in a sandbox is worth. -/
noncomputable def Tryd.pinned : Pinned := { name := "ytgoebfeojkgimaadoor", sum := "a69c2253ba8cfb0010a9332e1f1c59102cdd52c4bfb6bb3912106d9d87892d18", checked := Tryd.checked }
namespace Rows
def none {H : Type} : Left H := { results := [], args := [] }

/- WHAT THE LISTED PACKAGE-LEVEL VARIABLES READ AS WHEN THE CALL BEGINS. Each datum BY PROGRAM (the guide's laid-datum.mjs) off the statement by which the dump's own 'gosem.cut.vars' lays the variable. In a bare row this is a premise. The card (YtgoebfeojkgimaaDoorCards.lean) ties it to the program's text. -/
def laid_ductus_class_words {H : Type} : DataW H := .agg [.lit (.string [76]), .lit (.string [82]), .lit (.string [65, 76]), .lit (.string [69, 78]), .lit (.string [69, 83]), .lit (.string [69, 84]), .lit (.string [65, 78]), .lit (.string [67, 83]), .lit (.string [78, 83, 77]), .lit (.string [66, 78]), .lit (.string [66]), .lit (.string [83]), .lit (.string [87, 83]), .lit (.string [79, 78]), .lit (.string [76, 82, 69]), .lit (.string [76, 82, 79]), .lit (.string [82, 76, 69]), .lit (.string [82, 76, 79]), .lit (.string [80, 68, 70]), .lit (.string [76, 82, 73]), .lit (.string [82, 76, 73]), .lit (.string [70, 83, 73]), .lit (.string [80, 68, 73])]

/-- 'ductuslaw09.WeakLeaves': WHATEVER THE INPUT: true; the input reads as it did. -/
def weakLeavesSpec : ChangeSpec := { name := "weakLeaves", fn := fun _ => fun
  | [d1, d2] => { results := [.lit (.bool true)], args := [d1, d2] }
  | _ => none }
def weakLeavesRow : OpenClaim := { program := "ytgoebfeojkgimaadoor", sum := "a69c2253ba8cfb0010a9332e1f1c59102cdd52c4bfb6bb3912106d9d87892d18", func := "ductus/ductuslaw09.WeakLeaves", spec := "weakLeaves", unfollowed := true, recurses := true, named := ["ductus/class.words"], apart := false, laid := [("ductus/class.words", laid_ductus_class_words)] }
def WeakLeavesSaid : Prop := weakLeavesRow.holds Tryd.pinned (OpenSpec.ofChange weakLeavesSpec)

/-- ITS FALSE NEIGHBOUR: 'it returns false'. Refute it at one input. -/
def weakLeavesWrong : ChangeSpec := { name := "weakLeaves", fn := fun _ => fun
  | [d1, d2] => { results := [.lit (.bool false)], args := [d1, d2] }
  | _ => none }
def WeakLeavesWrongFalsely : Prop := weakLeavesRow.holds Tryd.pinned (OpenSpec.ofChange weakLeavesWrong)

/-- 'ductuslaw09.WeakSteps': WHATEVER THE INPUT: true; the input reads as it did. -/
def weakStepsSpec : ChangeSpec := { name := "weakSteps", fn := fun _ => fun
  | [d1, d2] => { results := [.lit (.bool true)], args := [d1, d2] }
  | _ => none }
def weakStepsRow : OpenClaim := { program := "ytgoebfeojkgimaadoor", sum := "a69c2253ba8cfb0010a9332e1f1c59102cdd52c4bfb6bb3912106d9d87892d18", func := "ductus/ductuslaw09.WeakSteps", spec := "weakSteps", unfollowed := true, recurses := true, named := ["ductus/class.words"], apart := false, laid := [("ductus/class.words", laid_ductus_class_words)] }
def WeakStepsSaid : Prop := weakStepsRow.holds Tryd.pinned (OpenSpec.ofChange weakStepsSpec)

/-- ITS FALSE NEIGHBOUR: 'it returns false'. Refute it at one input. -/
def weakStepsWrong : ChangeSpec := { name := "weakSteps", fn := fun _ => fun
  | [d1, d2] => { results := [.lit (.bool false)], args := [d1, d2] }
  | _ => none }
def WeakStepsWrongFalsely : Prop := weakStepsRow.holds Tryd.pinned (OpenSpec.ofChange weakStepsWrong)

/-- 'ductuslaw09.WeakStrongs': WHATEVER THE INPUT: true; the input reads as it did. -/
def weakStrongsSpec : ChangeSpec := { name := "weakStrongs", fn := fun _ => fun
  | [d1, d2, d3] => { results := [.lit (.bool true)], args := [d1, d2, d3] }
  | _ => none }
def weakStrongsRow : OpenClaim := { program := "ytgoebfeojkgimaadoor", sum := "a69c2253ba8cfb0010a9332e1f1c59102cdd52c4bfb6bb3912106d9d87892d18", func := "ductus/ductuslaw09.WeakStrongs", spec := "weakStrongs", unfollowed := true, recurses := true, named := ["ductus/class.words"], apart := false, laid := [("ductus/class.words", laid_ductus_class_words)] }
def WeakStrongsSaid : Prop := weakStrongsRow.holds Tryd.pinned (OpenSpec.ofChange weakStrongsSpec)

/-- ITS FALSE NEIGHBOUR: 'it returns false'. Refute it at one input. -/
def weakStrongsWrong : ChangeSpec := { name := "weakStrongs", fn := fun _ => fun
  | [d1, d2, d3] => { results := [.lit (.bool false)], args := [d1, d2, d3] }
  | _ => none }
def WeakStrongsWrongFalsely : Prop := weakStrongsRow.holds Tryd.pinned (OpenSpec.ofChange weakStrongsWrong)

/-- 'ductuslaw09.WeakPlain': WHATEVER THE INPUT: true; the input reads as it did. -/
def weakPlainSpec : ChangeSpec := { name := "weakPlain", fn := fun _ => fun
  | [d1, d2] => { results := [.lit (.bool true)], args := [d1, d2] }
  | _ => none }
def weakPlainRow : OpenClaim := { program := "ytgoebfeojkgimaadoor", sum := "a69c2253ba8cfb0010a9332e1f1c59102cdd52c4bfb6bb3912106d9d87892d18", func := "ductus/ductuslaw09.WeakPlain", spec := "weakPlain", unfollowed := true, recurses := true, named := ["ductus/class.words"], apart := false, laid := [("ductus/class.words", laid_ductus_class_words)] }
def WeakPlainSaid : Prop := weakPlainRow.holds Tryd.pinned (OpenSpec.ofChange weakPlainSpec)

/-- ITS FALSE NEIGHBOUR: 'it returns false'. Refute it at one input. -/
def weakPlainWrong : ChangeSpec := { name := "weakPlain", fn := fun _ => fun
  | [d1, d2] => { results := [.lit (.bool false)], args := [d1, d2] }
  | _ => none }
def WeakPlainWrongFalsely : Prop := weakPlainRow.holds Tryd.pinned (OpenSpec.ofChange weakPlainWrong)

/- THE SECOND FORM. 'bulk': how many values and letters a reading holds, each counted each time it is reached (what is shared counts as often as it is met; a slice's spare places count too). A statement '..UptoSaid' is the law's where the arguments, and the package variables that the reading takes, are together of bulk at most 1048576: NARROWER than '..Said'. Prove '..Said' where nothing that the law and all that it calls make is longer than what came in: it says more and counts as full. Else prove '..UptoSaid'. A law counts once. -/
mutual
def uptoBulk {H : Type} : DataW H → Nat
  | .lit (.string bytes) => bytes.length + 1
  | .lit _ => 1
  | .nil => 1
  | .ptr d => uptoBulk d + 1
  | .slice elems spare => uptoBulkAll elems + uptoBulkAll spare + 1
  | .agg parts => uptoBulkAll parts + 1
  | .iface _ d => uptoBulk d + 1
  | .map entries => uptoBulkEntries entries + 1
  | .held _ => 1
def uptoBulkAll {H : Type} : List (DataW H) → Nat
  | [] => 0
  | d :: r => uptoBulk d + uptoBulkAll r
def uptoBulkEntries {H : Type} : List (Lit × DataW H) → Nat
  | [] => 0
  | x :: r => uptoBulkEntry x + uptoBulkEntries r
def uptoBulkEntry {H : Type} : Lit × DataW H → Nat
  | (.string bytes, d) => bytes.length + uptoBulk d + 1
  | (_, d) => uptoBulk d + 1
 end
def uptoSmall : (H : Type) → List (DataW H) → Bool := fun _ ds => decide (uptoBulkAll ds ≤ 1048576)
def OpenSpec.upto (s : _root_.Go.ChangeSpec) : _root_.Go.OpenSpec := { _root_.Go.OpenSpec.ofChange s with cond := some uptoSmall }

/-- 'ductuslaw09.WeakLeaves', WHERE WHAT IT READS IS OF BULK AT MOST 1048576: true; the input reads as it did. -/
def weakLeavesUptoRow : OpenClaim := { program := "ytgoebfeojkgimaadoor", sum := "a69c2253ba8cfb0010a9332e1f1c59102cdd52c4bfb6bb3912106d9d87892d18", func := "ductus/ductuslaw09.WeakLeaves", spec := "weakLeaves", unfollowed := true, recurses := true, named := ["ductus/class.words"], apart := false, laid := [("ductus/class.words", laid_ductus_class_words)], narrowed := true }
def WeakLeavesUptoSaid : Prop := weakLeavesUptoRow.holds Tryd.pinned (OpenSpec.upto weakLeavesSpec)

/-- 'ductuslaw09.WeakSteps', WHERE WHAT IT READS IS OF BULK AT MOST 1048576: true; the input reads as it did. -/
def weakStepsUptoRow : OpenClaim := { program := "ytgoebfeojkgimaadoor", sum := "a69c2253ba8cfb0010a9332e1f1c59102cdd52c4bfb6bb3912106d9d87892d18", func := "ductus/ductuslaw09.WeakSteps", spec := "weakSteps", unfollowed := true, recurses := true, named := ["ductus/class.words"], apart := false, laid := [("ductus/class.words", laid_ductus_class_words)], narrowed := true }
def WeakStepsUptoSaid : Prop := weakStepsUptoRow.holds Tryd.pinned (OpenSpec.upto weakStepsSpec)

/-- 'ductuslaw09.WeakStrongs', WHERE WHAT IT READS IS OF BULK AT MOST 1048576: true; the input reads as it did. -/
def weakStrongsUptoRow : OpenClaim := { program := "ytgoebfeojkgimaadoor", sum := "a69c2253ba8cfb0010a9332e1f1c59102cdd52c4bfb6bb3912106d9d87892d18", func := "ductus/ductuslaw09.WeakStrongs", spec := "weakStrongs", unfollowed := true, recurses := true, named := ["ductus/class.words"], apart := false, laid := [("ductus/class.words", laid_ductus_class_words)], narrowed := true }
def WeakStrongsUptoSaid : Prop := weakStrongsUptoRow.holds Tryd.pinned (OpenSpec.upto weakStrongsSpec)

/-- 'ductuslaw09.WeakPlain', WHERE WHAT IT READS IS OF BULK AT MOST 1048576: true; the input reads as it did. -/
def weakPlainUptoRow : OpenClaim := { program := "ytgoebfeojkgimaadoor", sum := "a69c2253ba8cfb0010a9332e1f1c59102cdd52c4bfb6bb3912106d9d87892d18", func := "ductus/ductuslaw09.WeakPlain", spec := "weakPlain", unfollowed := true, recurses := true, named := ["ductus/class.words"], apart := false, laid := [("ductus/class.words", laid_ductus_class_words)], narrowed := true }
def WeakPlainUptoSaid : Prop := weakPlainUptoRow.holds Tryd.pinned (OpenSpec.upto weakPlainSpec)

end Rows
end Go.Proofs.YtgoebfeojkgimaaDoor
