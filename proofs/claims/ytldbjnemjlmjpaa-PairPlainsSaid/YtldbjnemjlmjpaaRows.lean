/-
  No cell of these rows narrows 'for every input' (looked for: loops, veiled, ifaces, maps, wideKeys, modest, calm, conditions, laid).
  DERIVED. THE GIVEN ROWS OF THIS SEAT. 4 by the template 'for every input the law returns true; each argument reads behind the call as it read before'; 0 by the template 'total and deterministic' (their statements: YtldbjnemjlmjpaaTotals.lean).
  GIVEN WITH THE SEED: the statements are not yours to turn. If you find one false, say at which input.
  Laid BY PROGRAM, IN A SANDBOX (cutbox-rows.mjs): the forced cells as the released guide's own fill.sh prints them over the translation dba986dba52e978a… (all of the seat's roots in one cut). By AI agents, Wed Nov 11 2026. No macro, syntax, notation, axiom, sorry.
-/
import Derived.Test.YtldbjnemjlmjpaaChecked
import GoSem.Claim
import GoSem.ClaimJoined
import GoSem.ClaimMapViews
import Derived.JoinedTies
import Derived.KernelRfl
namespace Go.Proofs.Ytldbjnemjlmjpaa
/- THE CELL 'sum', in the pinned program and in every row, IS THE sha256 OF THE DUMP (.gsa) THAT YtldbjnemjlmjpaaProg.lean LOADS. Nothing in Lean hashes anything: it is a label: what it is worth is what the hold of that sum in a sandbox is worth. -/
noncomputable def Try.pinned : Pinned := { name := "ytldbjnemjlmjpaa", sum := "dba986dba52e978aabf536f93b32c93c2282ac853e53928c3f268f3695ea3ca4", checked := Try.checked }
namespace Rows
def none {H : Type} : Left H := { results := [], args := [] }

/-- 'ductuslaw03.PairAnswers': WHATEVER THE INPUT: true; the input reads as it did. -/
def pairAnswersSpec : ChangeSpec := { name := "pairAnswers", fn := fun _ => fun
  | [d1, d2, d3] => { results := [.lit (.bool true)], args := [d1, d2, d3] }
  | _ => none }
def pairAnswersRow : OpenClaim := { program := "ytldbjnemjlmjpaa", sum := "dba986dba52e978aabf536f93b32c93c2282ac853e53928c3f268f3695ea3ca4", func := "ductus/ductuslaw03.PairAnswers", spec := "pairAnswers", apart := false }
def PairAnswersSaid : Prop := pairAnswersRow.holds Try.pinned (OpenSpec.ofChange pairAnswersSpec)

/-- ITS FALSE NEIGHBOUR: 'it returns false'. Refute it at one input. -/
def pairAnswersWrong : ChangeSpec := { name := "pairAnswers", fn := fun _ => fun
  | [d1, d2, d3] => { results := [.lit (.bool false)], args := [d1, d2, d3] }
  | _ => none }
def PairAnswersWrongFalsely : Prop := pairAnswersRow.holds Try.pinned (OpenSpec.ofChange pairAnswersWrong)

/-- 'ductuslaw03.PairTwice': WHATEVER THE INPUT: true; the input reads as it did. -/
def pairTwiceSpec : ChangeSpec := { name := "pairTwice", fn := fun _ => fun
  | [d1, d2] => { results := [.lit (.bool true)], args := [d1, d2] }
  | _ => none }
def pairTwiceRow : OpenClaim := { program := "ytldbjnemjlmjpaa", sum := "dba986dba52e978aabf536f93b32c93c2282ac853e53928c3f268f3695ea3ca4", func := "ductus/ductuslaw03.PairTwice", spec := "pairTwice", apart := false }
def PairTwiceSaid : Prop := pairTwiceRow.holds Try.pinned (OpenSpec.ofChange pairTwiceSpec)

/-- ITS FALSE NEIGHBOUR: 'it returns false'. Refute it at one input. -/
def pairTwiceWrong : ChangeSpec := { name := "pairTwice", fn := fun _ => fun
  | [d1, d2] => { results := [.lit (.bool false)], args := [d1, d2] }
  | _ => none }
def PairTwiceWrongFalsely : Prop := pairTwiceRow.holds Try.pinned (OpenSpec.ofChange pairTwiceWrong)

/-- 'ductuslaw03.PairSames': WHATEVER THE INPUT: true; the input reads as it did. -/
def pairSamesSpec : ChangeSpec := { name := "pairSames", fn := fun _ => fun
  | [d1, d2, d3] => { results := [.lit (.bool true)], args := [d1, d2, d3] }
  | _ => none }
def pairSamesRow : OpenClaim := { program := "ytldbjnemjlmjpaa", sum := "dba986dba52e978aabf536f93b32c93c2282ac853e53928c3f268f3695ea3ca4", func := "ductus/ductuslaw03.PairSames", spec := "pairSames", apart := false }
def PairSamesSaid : Prop := pairSamesRow.holds Try.pinned (OpenSpec.ofChange pairSamesSpec)

/-- ITS FALSE NEIGHBOUR: 'it returns false'. Refute it at one input. -/
def pairSamesWrong : ChangeSpec := { name := "pairSames", fn := fun _ => fun
  | [d1, d2, d3] => { results := [.lit (.bool false)], args := [d1, d2, d3] }
  | _ => none }
def PairSamesWrongFalsely : Prop := pairSamesRow.holds Try.pinned (OpenSpec.ofChange pairSamesWrong)

/-- 'ductuslaw03.PairPlains': WHATEVER THE INPUT: true; the input reads as it did. -/
def pairPlainsSpec : ChangeSpec := { name := "pairPlains", fn := fun _ => fun
  | [d1, d2] => { results := [.lit (.bool true)], args := [d1, d2] }
  | _ => none }
def pairPlainsRow : OpenClaim := { program := "ytldbjnemjlmjpaa", sum := "dba986dba52e978aabf536f93b32c93c2282ac853e53928c3f268f3695ea3ca4", func := "ductus/ductuslaw03.PairPlains", spec := "pairPlains", apart := false }
def PairPlainsSaid : Prop := pairPlainsRow.holds Try.pinned (OpenSpec.ofChange pairPlainsSpec)

/-- ITS FALSE NEIGHBOUR: 'it returns false'. Refute it at one input. -/
def pairPlainsWrong : ChangeSpec := { name := "pairPlains", fn := fun _ => fun
  | [d1, d2] => { results := [.lit (.bool false)], args := [d1, d2] }
  | _ => none }
def PairPlainsWrongFalsely : Prop := pairPlainsRow.holds Try.pinned (OpenSpec.ofChange pairPlainsWrong)

/- THE SECOND FORM. 'bulk': how many values and letters a reading holds, each counted each time it is reached (what is shared counts as often as it is met; a slice's spare places count too). A statement '..UptoSaid' is the law's where the arguments, and the package variables that the reading takes, are together of bulk at most 1048576: NARROWER than '..Said'. Prove '..Said' where nothing that the law and all that it calls make is longer than what came in: it says more and counts as full. Else prove '..UptoSaid'. A law counts once. -/
mutual
def uptoBulk {H : Type} : DataW H → Nat
  | .lit (.string bytes) => bytes.length + 1
  | .lit _ => 1
  | .nil => 1
  | .ptr d => uptoBulk d + 1
  | .slice elems spare => uptoBulkAll elems + uptoBulkAll spare + 1
  | .agg parts => uptoBulkAll parts + 1
  | .iface _ d => uptoBulk d + 1
  | .map entries => uptoBulkEntries entries + 1
  | .held _ => 1
def uptoBulkAll {H : Type} : List (DataW H) → Nat
  | [] => 0
  | d :: r => uptoBulk d + uptoBulkAll r
def uptoBulkEntries {H : Type} : List (Lit × DataW H) → Nat
  | [] => 0
  | x :: r => uptoBulkEntry x + uptoBulkEntries r
def uptoBulkEntry {H : Type} : Lit × DataW H → Nat
  | (.string bytes, d) => bytes.length + uptoBulk d + 1
  | (_, d) => uptoBulk d + 1
 end
def uptoSmall : (H : Type) → List (DataW H) → Bool := fun _ ds => decide (uptoBulkAll ds ≤ 1048576)
def OpenSpec.upto (s : _root_.Go.ChangeSpec) : _root_.Go.OpenSpec := { _root_.Go.OpenSpec.ofChange s with cond := some uptoSmall }

/-- 'ductuslaw03.PairAnswers', WHERE WHAT IT READS IS OF BULK AT MOST 1048576: true; the input reads as it did. -/
def pairAnswersUptoRow : OpenClaim := { program := "ytldbjnemjlmjpaa", sum := "dba986dba52e978aabf536f93b32c93c2282ac853e53928c3f268f3695ea3ca4", func := "ductus/ductuslaw03.PairAnswers", spec := "pairAnswers", apart := false, narrowed := true }
def PairAnswersUptoSaid : Prop := pairAnswersUptoRow.holds Try.pinned (OpenSpec.upto pairAnswersSpec)

/-- 'ductuslaw03.PairTwice', WHERE WHAT IT READS IS OF BULK AT MOST 1048576: true; the input reads as it did. -/
def pairTwiceUptoRow : OpenClaim := { program := "ytldbjnemjlmjpaa", sum := "dba986dba52e978aabf536f93b32c93c2282ac853e53928c3f268f3695ea3ca4", func := "ductus/ductuslaw03.PairTwice", spec := "pairTwice", apart := false, narrowed := true }
def PairTwiceUptoSaid : Prop := pairTwiceUptoRow.holds Try.pinned (OpenSpec.upto pairTwiceSpec)

/-- 'ductuslaw03.PairSames', WHERE WHAT IT READS IS OF BULK AT MOST 1048576: true; the input reads as it did. -/
def pairSamesUptoRow : OpenClaim := { program := "ytldbjnemjlmjpaa", sum := "dba986dba52e978aabf536f93b32c93c2282ac853e53928c3f268f3695ea3ca4", func := "ductus/ductuslaw03.PairSames", spec := "pairSames", apart := false, narrowed := true }
def PairSamesUptoSaid : Prop := pairSamesUptoRow.holds Try.pinned (OpenSpec.upto pairSamesSpec)

/-- 'ductuslaw03.PairPlains', WHERE WHAT IT READS IS OF BULK AT MOST 1048576: true; the input reads as it did. -/
def pairPlainsUptoRow : OpenClaim := { program := "ytldbjnemjlmjpaa", sum := "dba986dba52e978aabf536f93b32c93c2282ac853e53928c3f268f3695ea3ca4", func := "ductus/ductuslaw03.PairPlains", spec := "pairPlains", apart := false, narrowed := true }
def PairPlainsUptoSaid : Prop := pairPlainsUptoRow.holds Try.pinned (OpenSpec.upto pairPlainsSpec)

end Rows
end Go.Proofs.Ytldbjnemjlmjpaa
