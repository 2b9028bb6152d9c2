/-
  No cell of these rows narrows 'for every input' (looked for: loops, veiled, ifaces, maps, wideKeys, modest, calm, conditions, laid).
  DERIVED. THE GIVEN ROWS OF THIS SEAT. 5 by the template 'for every input the law returns true; each argument reads behind the call as it read before'; 0 by the template 'total and deterministic' (their statements: YtmgagebjdldenaaTotals.lean).
  GIVEN WITH THE SEED: the statements are not yours to turn. If you find one false, say at which input.
  Laid BY PROGRAM, IN A SANDBOX (cutbox-rows.mjs): the forced cells as the released guide's own fill.sh prints them over the translation f55f64d9c7696c05… (all of the seat's roots in one cut). By AI agents, Wed Nov 11 2026. No macro, syntax, notation, axiom, sorry.
-/
import Derived.Test.YtmgagebjdldenaaChecked
import GoSem.Claim
import GoSem.ClaimJoined
import GoSem.ClaimMapViews
import Derived.JoinedTies
import Derived.KernelRfl
namespace Go.Proofs.Ytmgagebjdldenaa
/- THE CELL 'sum', in the pinned program and in every row, IS THE sha256 OF THE DUMP (.gsa) THAT YtmgagebjdldenaaProg.lean LOADS. Nothing in Lean hashes anything: it is a label: what it is worth is what the hold of that sum in a sandbox is worth. -/
noncomputable def Try.pinned : Pinned := { name := "ytmgagebjdldenaa", sum := "f55f64d9c7696c0565df2256064a3536945b26befcae051fa686e6ae1c1a3526", checked := Try.checked }
namespace Rows
def none {H : Type} : Left H := { results := [], args := [] }

/-- 'ductuslaw23.NormAnswers': WHATEVER THE INPUT: true; the input reads as it did. -/
def normAnswersSpec : ChangeSpec := { name := "normAnswers", fn := fun _ => fun
  | [d1, d2, d3] => { results := [.lit (.bool true)], args := [d1, d2, d3] }
  | _ => none }
def normAnswersRow : OpenClaim := { program := "ytmgagebjdldenaa", sum := "f55f64d9c7696c0565df2256064a3536945b26befcae051fa686e6ae1c1a3526", func := "ductus/ductuslaw23.NormAnswers", spec := "normAnswers", unfollowed := true, recurses := true, apart := false }
def NormAnswersSaid : Prop := normAnswersRow.holds Try.pinned (OpenSpec.ofChange normAnswersSpec)

/-- ITS FALSE NEIGHBOUR: 'it returns false'. Refute it at one input. -/
def normAnswersWrong : ChangeSpec := { name := "normAnswers", fn := fun _ => fun
  | [d1, d2, d3] => { results := [.lit (.bool false)], args := [d1, d2, d3] }
  | _ => none }
def NormAnswersWrongFalsely : Prop := normAnswersRow.holds Try.pinned (OpenSpec.ofChange normAnswersWrong)

/-- 'ductuslaw23.NormPlaces': WHATEVER THE INPUT: true; the input reads as it did. -/
def normPlacesSpec : ChangeSpec := { name := "normPlaces", fn := fun _ => fun
  | [d1, d2] => { results := [.lit (.bool true)], args := [d1, d2] }
  | _ => none }
def normPlacesRow : OpenClaim := { program := "ytmgagebjdldenaa", sum := "f55f64d9c7696c0565df2256064a3536945b26befcae051fa686e6ae1c1a3526", func := "ductus/ductuslaw23.NormPlaces", spec := "normPlaces", unfollowed := true, recurses := true, apart := false }
def NormPlacesSaid : Prop := normPlacesRow.holds Try.pinned (OpenSpec.ofChange normPlacesSpec)

/-- ITS FALSE NEIGHBOUR: 'it returns false'. Refute it at one input. -/
def normPlacesWrong : ChangeSpec := { name := "normPlaces", fn := fun _ => fun
  | [d1, d2] => { results := [.lit (.bool false)], args := [d1, d2] }
  | _ => none }
def NormPlacesWrongFalsely : Prop := normPlacesRow.holds Try.pinned (OpenSpec.ofChange normPlacesWrong)

/-- 'ductuslaw23.NormSpans': WHATEVER THE INPUT: true; the input reads as it did. -/
def normSpansSpec : ChangeSpec := { name := "normSpans", fn := fun _ => fun
  | [d1, d2, d3] => { results := [.lit (.bool true)], args := [d1, d2, d3] }
  | _ => none }
def normSpansRow : OpenClaim := { program := "ytmgagebjdldenaa", sum := "f55f64d9c7696c0565df2256064a3536945b26befcae051fa686e6ae1c1a3526", func := "ductus/ductuslaw23.NormSpans", spec := "normSpans", unfollowed := true, recurses := true, apart := false }
def NormSpansSaid : Prop := normSpansRow.holds Try.pinned (OpenSpec.ofChange normSpansSpec)

/-- ITS FALSE NEIGHBOUR: 'it returns false'. Refute it at one input. -/
def normSpansWrong : ChangeSpec := { name := "normSpans", fn := fun _ => fun
  | [d1, d2, d3] => { results := [.lit (.bool false)], args := [d1, d2, d3] }
  | _ => none }
def NormSpansWrongFalsely : Prop := normSpansRow.holds Try.pinned (OpenSpec.ofChange normSpansWrong)

/-- 'ductuslaw23.NormJoins': WHATEVER THE INPUT: true; the input reads as it did. -/
def normJoinsSpec : ChangeSpec := { name := "normJoins", fn := fun _ => fun
  | [d1, d2, d3] => { results := [.lit (.bool true)], args := [d1, d2, d3] }
  | _ => none }
def normJoinsRow : OpenClaim := { program := "ytmgagebjdldenaa", sum := "f55f64d9c7696c0565df2256064a3536945b26befcae051fa686e6ae1c1a3526", func := "ductus/ductuslaw23.NormJoins", spec := "normJoins", unfollowed := true, recurses := true, apart := false }
def NormJoinsSaid : Prop := normJoinsRow.holds Try.pinned (OpenSpec.ofChange normJoinsSpec)

/-- ITS FALSE NEIGHBOUR: 'it returns false'. Refute it at one input. -/
def normJoinsWrong : ChangeSpec := { name := "normJoins", fn := fun _ => fun
  | [d1, d2, d3] => { results := [.lit (.bool false)], args := [d1, d2, d3] }
  | _ => none }
def NormJoinsWrongFalsely : Prop := normJoinsRow.holds Try.pinned (OpenSpec.ofChange normJoinsWrong)

/-- 'ductuslaw23.NormBytes': WHATEVER THE INPUT: true; the input reads as it did. -/
def normBytesSpec : ChangeSpec := { name := "normBytes", fn := fun _ => fun
  | [d1, d2] => { results := [.lit (.bool true)], args := [d1, d2] }
  | _ => none }
def normBytesRow : OpenClaim := { program := "ytmgagebjdldenaa", sum := "f55f64d9c7696c0565df2256064a3536945b26befcae051fa686e6ae1c1a3526", func := "ductus/ductuslaw23.NormBytes", spec := "normBytes", unfollowed := true, recurses := true, apart := false }
def NormBytesSaid : Prop := normBytesRow.holds Try.pinned (OpenSpec.ofChange normBytesSpec)

/-- ITS FALSE NEIGHBOUR: 'it returns false'. Refute it at one input. -/
def normBytesWrong : ChangeSpec := { name := "normBytes", fn := fun _ => fun
  | [d1, d2] => { results := [.lit (.bool false)], args := [d1, d2] }
  | _ => none }
def NormBytesWrongFalsely : Prop := normBytesRow.holds Try.pinned (OpenSpec.ofChange normBytesWrong)

/- THE SECOND FORM. 'bulk': how many values and letters a reading holds, each counted each time it is reached (what is shared counts as often as it is met; a slice's spare places count too). A statement '..UptoSaid' is the law's where the arguments, and the package variables that the reading takes, are together of bulk at most 1048576: NARROWER than '..Said'. Prove '..Said' where nothing that the law and all that it calls make is longer than what came in: it says more and counts as full. Else prove '..UptoSaid'. A law counts once. -/
mutual
def uptoBulk {H : Type} : DataW H → Nat
  | .lit (.string bytes) => bytes.length + 1
  | .lit _ => 1
  | .nil => 1
  | .ptr d => uptoBulk d + 1
  | .slice elems spare => uptoBulkAll elems + uptoBulkAll spare + 1
  | .agg parts => uptoBulkAll parts + 1
  | .iface _ d => uptoBulk d + 1
  | .map entries => uptoBulkEntries entries + 1
  | .held _ => 1
def uptoBulkAll {H : Type} : List (DataW H) → Nat
  | [] => 0
  | d :: r => uptoBulk d + uptoBulkAll r
def uptoBulkEntries {H : Type} : List (Lit × DataW H) → Nat
  | [] => 0
  | x :: r => uptoBulkEntry x + uptoBulkEntries r
def uptoBulkEntry {H : Type} : Lit × DataW H → Nat
  | (.string bytes, d) => bytes.length + uptoBulk d + 1
  | (_, d) => uptoBulk d + 1
 end
def uptoSmall : (H : Type) → List (DataW H) → Bool := fun _ ds => decide (uptoBulkAll ds ≤ 1048576)
def OpenSpec.upto (s : _root_.Go.ChangeSpec) : _root_.Go.OpenSpec := { _root_.Go.OpenSpec.ofChange s with cond := some uptoSmall }

/-- 'ductuslaw23.NormAnswers', WHERE WHAT IT READS IS OF BULK AT MOST 1048576: true; the input reads as it did. -/
def normAnswersUptoRow : OpenClaim := { program := "ytmgagebjdldenaa", sum := "f55f64d9c7696c0565df2256064a3536945b26befcae051fa686e6ae1c1a3526", func := "ductus/ductuslaw23.NormAnswers", spec := "normAnswers", unfollowed := true, recurses := true, apart := false, narrowed := true }
def NormAnswersUptoSaid : Prop := normAnswersUptoRow.holds Try.pinned (OpenSpec.upto normAnswersSpec)

/-- 'ductuslaw23.NormPlaces', WHERE WHAT IT READS IS OF BULK AT MOST 1048576: true; the input reads as it did. -/
def normPlacesUptoRow : OpenClaim := { program := "ytmgagebjdldenaa", sum := "f55f64d9c7696c0565df2256064a3536945b26befcae051fa686e6ae1c1a3526", func := "ductus/ductuslaw23.NormPlaces", spec := "normPlaces", unfollowed := true, recurses := true, apart := false, narrowed := true }
def NormPlacesUptoSaid : Prop := normPlacesUptoRow.holds Try.pinned (OpenSpec.upto normPlacesSpec)

/-- 'ductuslaw23.NormSpans', WHERE WHAT IT READS IS OF BULK AT MOST 1048576: true; the input reads as it did. -/
def normSpansUptoRow : OpenClaim := { program := "ytmgagebjdldenaa", sum := "f55f64d9c7696c0565df2256064a3536945b26befcae051fa686e6ae1c1a3526", func := "ductus/ductuslaw23.NormSpans", spec := "normSpans", unfollowed := true, recurses := true, apart := false, narrowed := true }
def NormSpansUptoSaid : Prop := normSpansUptoRow.holds Try.pinned (OpenSpec.upto normSpansSpec)

/-- 'ductuslaw23.NormJoins', WHERE WHAT IT READS IS OF BULK AT MOST 1048576: true; the input reads as it did. -/
def normJoinsUptoRow : OpenClaim := { program := "ytmgagebjdldenaa", sum := "f55f64d9c7696c0565df2256064a3536945b26befcae051fa686e6ae1c1a3526", func := "ductus/ductuslaw23.NormJoins", spec := "normJoins", unfollowed := true, recurses := true, apart := false, narrowed := true }
def NormJoinsUptoSaid : Prop := normJoinsUptoRow.holds Try.pinned (OpenSpec.upto normJoinsSpec)

/-- 'ductuslaw23.NormBytes', WHERE WHAT IT READS IS OF BULK AT MOST 1048576: true; the input reads as it did. -/
def normBytesUptoRow : OpenClaim := { program := "ytmgagebjdldenaa", sum := "f55f64d9c7696c0565df2256064a3536945b26befcae051fa686e6ae1c1a3526", func := "ductus/ductuslaw23.NormBytes", spec := "normBytes", unfollowed := true, recurses := true, apart := false, narrowed := true }
def NormBytesUptoSaid : Prop := normBytesUptoRow.holds Try.pinned (OpenSpec.upto normBytesSpec)

end Rows
end Go.Proofs.Ytmgagebjdldenaa
