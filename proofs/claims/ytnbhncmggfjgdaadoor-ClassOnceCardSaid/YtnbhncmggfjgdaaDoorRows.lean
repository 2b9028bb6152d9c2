/-
  NARROWER THAN 'FOR EVERY INPUT', by the rows' own cells (each row's printed sentence says how): ClassWords: laid · ClassAnswers: laid · ClassOnce: laid · ClassLists: laid.
  DERIVED. THE GIVEN ROWS OF THIS SEAT. 4 by the template 'for every input the law returns true; each argument reads behind the call as it read before'; 0 by the template 'total and deterministic' (their statements: YtnbhncmggfjgdaaDoorTotals.lean).
  GIVEN WITH THE SEED: the statements are not yours to turn. If you find one false, say at which input.
  Laid BY PROGRAM, IN A SANDBOX (cutbox-rows.mjs): the forced cells as the released guide's own fill.sh prints them over the translation f92c5764719046a2… (all of the seat's roots in one cut). By AI agents, Wed Nov 11 2026. No macro, syntax, notation, axiom, sorry.
-/
import Derived.Test.YtnbhncmggfjgdaaDoorChecked
import GoSem.Claim
import GoSem.ClaimJoined
import GoSem.ClaimMapViews
import Derived.JoinedTies
import Derived.KernelRfl
namespace Go.Proofs.YtnbhncmggfjgdaaDoor
/- THE CELL 'sum', in the pinned program and in every row, IS THE sha256 OF THE DUMP (.gsa) THAT YtnbhncmggfjgdaaDoorProg.lean LOADS. Nothing in Lean hashes anything: it is a label: what it is worth is what the hold of that sum in a sandbox is worth. -/
noncomputable def Tryd.pinned : Pinned := { name := "ytnbhncmggfjgdaadoor", sum := "f92c5764719046a215cf133cb9823bfc8d4bbf2d3dd7a07997148121cff64486", checked := Tryd.checked }
namespace Rows
def none {H : Type} : Left H := { results := [], args := [] }

/- WHAT THE LISTED PACKAGE-LEVEL VARIABLES READ AS WHEN THE CALL BEGINS. Each datum BY PROGRAM (the guide's laid-datum.mjs) off the statement by which the dump's own 'gosem.cut.vars' lays the variable. In a bare row this is a premise. The card (YtnbhncmggfjgdaaDoorCards.lean) ties it to the program's text. -/
def laid_ductus_class_words {H : Type} : DataW H := .agg [.lit (.string [76]), .lit (.string [82]), .lit (.string [65, 76]), .lit (.string [69, 78]), .lit (.string [69, 83]), .lit (.string [69, 84]), .lit (.string [65, 78]), .lit (.string [67, 83]), .lit (.string [78, 83, 77]), .lit (.string [66, 78]), .lit (.string [66]), .lit (.string [83]), .lit (.string [87, 83]), .lit (.string [79, 78]), .lit (.string [76, 82, 69]), .lit (.string [76, 82, 79]), .lit (.string [82, 76, 69]), .lit (.string [82, 76, 79]), .lit (.string [80, 68, 70]), .lit (.string [76, 82, 73]), .lit (.string [82, 76, 73]), .lit (.string [70, 83, 73]), .lit (.string [80, 68, 73])]

/-- 'ductuslaw02.ClassWords': WHATEVER THE INPUT: true; the input reads as it did. -/
def classWordsSpec : ChangeSpec := { name := "classWords", fn := fun _ => fun
  | [d1, d2] => { results := [.lit (.bool true)], args := [d1, d2] }
  | _ => none }
def classWordsRow : OpenClaim := { program := "ytnbhncmggfjgdaadoor", sum := "f92c5764719046a215cf133cb9823bfc8d4bbf2d3dd7a07997148121cff64486", func := "ductus/ductuslaw02.ClassWords", spec := "classWords", unfollowed := true, recurses := true, named := ["ductus/class.words"], apart := false, laid := [("ductus/class.words", laid_ductus_class_words)] }
def ClassWordsSaid : Prop := classWordsRow.holds Tryd.pinned (OpenSpec.ofChange classWordsSpec)

/-- ITS FALSE NEIGHBOUR: 'it returns false'. Refute it at one input. -/
def classWordsWrong : ChangeSpec := { name := "classWords", fn := fun _ => fun
  | [d1, d2] => { results := [.lit (.bool false)], args := [d1, d2] }
  | _ => none }
def ClassWordsWrongFalsely : Prop := classWordsRow.holds Tryd.pinned (OpenSpec.ofChange classWordsWrong)

/-- 'ductuslaw02.ClassAnswers': WHATEVER THE INPUT: true; the input reads as it did. -/
def classAnswersSpec : ChangeSpec := { name := "classAnswers", fn := fun _ => fun
  | [d1, d2] => { results := [.lit (.bool true)], args := [d1, d2] }
  | _ => none }
def classAnswersRow : OpenClaim := { program := "ytnbhncmggfjgdaadoor", sum := "f92c5764719046a215cf133cb9823bfc8d4bbf2d3dd7a07997148121cff64486", func := "ductus/ductuslaw02.ClassAnswers", spec := "classAnswers", unfollowed := true, recurses := true, named := ["ductus/class.words"], apart := false, laid := [("ductus/class.words", laid_ductus_class_words)] }
def ClassAnswersSaid : Prop := classAnswersRow.holds Tryd.pinned (OpenSpec.ofChange classAnswersSpec)

/-- ITS FALSE NEIGHBOUR: 'it returns false'. Refute it at one input. -/
def classAnswersWrong : ChangeSpec := { name := "classAnswers", fn := fun _ => fun
  | [d1, d2] => { results := [.lit (.bool false)], args := [d1, d2] }
  | _ => none }
def ClassAnswersWrongFalsely : Prop := classAnswersRow.holds Tryd.pinned (OpenSpec.ofChange classAnswersWrong)

/-- 'ductuslaw02.ClassOnce': WHATEVER THE INPUT: true; the input reads as it did. -/
def classOnceSpec : ChangeSpec := { name := "classOnce", fn := fun _ => fun
  | [d] => { results := [.lit (.bool true)], args := [d] }
  | _ => none }
def classOnceRow : OpenClaim := { program := "ytnbhncmggfjgdaadoor", sum := "f92c5764719046a215cf133cb9823bfc8d4bbf2d3dd7a07997148121cff64486", func := "ductus/ductuslaw02.ClassOnce", spec := "classOnce", unfollowed := true, recurses := true, named := ["ductus/class.words"], apart := false, laid := [("ductus/class.words", laid_ductus_class_words)] }
def ClassOnceSaid : Prop := classOnceRow.holds Tryd.pinned (OpenSpec.ofChange classOnceSpec)

/-- ITS FALSE NEIGHBOUR: 'it returns false'. Refute it at one input. -/
def classOnceWrong : ChangeSpec := { name := "classOnce", fn := fun _ => fun
  | [d] => { results := [.lit (.bool false)], args := [d] }
  | _ => none }
def ClassOnceWrongFalsely : Prop := classOnceRow.holds Tryd.pinned (OpenSpec.ofChange classOnceWrong)

/-- 'ductuslaw02.ClassLists': WHATEVER THE INPUT: true; the input reads as it did. -/
def classListsSpec : ChangeSpec := { name := "classLists", fn := fun _ => fun
  | [d1, d2] => { results := [.lit (.bool true)], args := [d1, d2] }
  | _ => none }
def classListsRow : OpenClaim := { program := "ytnbhncmggfjgdaadoor", sum := "f92c5764719046a215cf133cb9823bfc8d4bbf2d3dd7a07997148121cff64486", func := "ductus/ductuslaw02.ClassLists", spec := "classLists", unfollowed := true, recurses := true, named := ["ductus/class.words"], apart := false, laid := [("ductus/class.words", laid_ductus_class_words)] }
def ClassListsSaid : Prop := classListsRow.holds Tryd.pinned (OpenSpec.ofChange classListsSpec)

/-- ITS FALSE NEIGHBOUR: 'it returns false'. Refute it at one input. -/
def classListsWrong : ChangeSpec := { name := "classLists", fn := fun _ => fun
  | [d1, d2] => { results := [.lit (.bool false)], args := [d1, d2] }
  | _ => none }
def ClassListsWrongFalsely : Prop := classListsRow.holds Tryd.pinned (OpenSpec.ofChange classListsWrong)

/- THE SECOND FORM. 'bulk': how many values and letters a reading holds, each counted each time it is reached (what is shared counts as often as it is met; a slice's spare places count too). A statement '..UptoSaid' is the law's where the arguments, and the package variables that the reading takes, are together of bulk at most 1048576: NARROWER than '..Said'. Prove '..Said' where nothing that the law and all that it calls make is longer than what came in: it says more and counts as full. Else prove '..UptoSaid'. A law counts once. -/
mutual
def uptoBulk {H : Type} : DataW H → Nat
  | .lit (.string bytes) => bytes.length + 1
  | .lit _ => 1
  | .nil => 1
  | .ptr d => uptoBulk d + 1
  | .slice elems spare => uptoBulkAll elems + uptoBulkAll spare + 1
  | .agg parts => uptoBulkAll parts + 1
  | .iface _ d => uptoBulk d + 1
  | .map entries => uptoBulkEntries entries + 1
  | .held _ => 1
def uptoBulkAll {H : Type} : List (DataW H) → Nat
  | [] => 0
  | d :: r => uptoBulk d + uptoBulkAll r
def uptoBulkEntries {H : Type} : List (Lit × DataW H) → Nat
  | [] => 0
  | x :: r => uptoBulkEntry x + uptoBulkEntries r
def uptoBulkEntry {H : Type} : Lit × DataW H → Nat
  | (.string bytes, d) => bytes.length + uptoBulk d + 1
  | (_, d) => uptoBulk d + 1
 end
def uptoSmall : (H : Type) → List (DataW H) → Bool := fun _ ds => decide (uptoBulkAll ds ≤ 1048576)
def OpenSpec.upto (s : _root_.Go.ChangeSpec) : _root_.Go.OpenSpec := { _root_.Go.OpenSpec.ofChange s with cond := some uptoSmall }

/-- 'ductuslaw02.ClassWords', WHERE WHAT IT READS IS OF BULK AT MOST 1048576: true; the input reads as it did. -/
def classWordsUptoRow : OpenClaim := { program := "ytnbhncmggfjgdaadoor", sum := "f92c5764719046a215cf133cb9823bfc8d4bbf2d3dd7a07997148121cff64486", func := "ductus/ductuslaw02.ClassWords", spec := "classWords", unfollowed := true, recurses := true, named := ["ductus/class.words"], apart := false, laid := [("ductus/class.words", laid_ductus_class_words)], narrowed := true }
def ClassWordsUptoSaid : Prop := classWordsUptoRow.holds Tryd.pinned (OpenSpec.upto classWordsSpec)

/-- 'ductuslaw02.ClassAnswers', WHERE WHAT IT READS IS OF BULK AT MOST 1048576: true; the input reads as it did. -/
def classAnswersUptoRow : OpenClaim := { program := "ytnbhncmggfjgdaadoor", sum := "f92c5764719046a215cf133cb9823bfc8d4bbf2d3dd7a07997148121cff64486", func := "ductus/ductuslaw02.ClassAnswers", spec := "classAnswers", unfollowed := true, recurses := true, named := ["ductus/class.words"], apart := false, laid := [("ductus/class.words", laid_ductus_class_words)], narrowed := true }
def ClassAnswersUptoSaid : Prop := classAnswersUptoRow.holds Tryd.pinned (OpenSpec.upto classAnswersSpec)

/-- 'ductuslaw02.ClassOnce', WHERE WHAT IT READS IS OF BULK AT MOST 1048576: true; the input reads as it did. -/
def classOnceUptoRow : OpenClaim := { program := "ytnbhncmggfjgdaadoor", sum := "f92c5764719046a215cf133cb9823bfc8d4bbf2d3dd7a07997148121cff64486", func := "ductus/ductuslaw02.ClassOnce", spec := "classOnce", unfollowed := true, recurses := true, named := ["ductus/class.words"], apart := false, laid := [("ductus/class.words", laid_ductus_class_words)], narrowed := true }
def ClassOnceUptoSaid : Prop := classOnceUptoRow.holds Tryd.pinned (OpenSpec.upto classOnceSpec)

/-- 'ductuslaw02.ClassLists', WHERE WHAT IT READS IS OF BULK AT MOST 1048576: true; the input reads as it did. -/
def classListsUptoRow : OpenClaim := { program := "ytnbhncmggfjgdaadoor", sum := "f92c5764719046a215cf133cb9823bfc8d4bbf2d3dd7a07997148121cff64486", func := "ductus/ductuslaw02.ClassLists", spec := "classLists", unfollowed := true, recurses := true, named := ["ductus/class.words"], apart := false, laid := [("ductus/class.words", laid_ductus_class_words)], narrowed := true }
def ClassListsUptoSaid : Prop := classListsUptoRow.holds Tryd.pinned (OpenSpec.upto classListsSpec)

end Rows
end Go.Proofs.YtnbhncmggfjgdaaDoor
