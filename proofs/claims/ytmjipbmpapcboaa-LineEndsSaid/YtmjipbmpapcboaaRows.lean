/-
  No cell of these rows narrows 'for every input' (looked for: loops, veiled, ifaces, maps, wideKeys, modest, calm, conditions, laid).
  DERIVED. THE GIVEN ROWS OF THIS SEAT. 5 by the template 'for every input the law returns true; each argument reads behind the call as it read before'; 0 by the template 'total and deterministic' (their statements: YtmjipbmpapcboaaTotals.lean).
  GIVEN WITH THE SEED: the statements are not yours to turn. If you find one false, say at which input.
  Laid BY PROGRAM, IN A SANDBOX (cutbox-rows.mjs): the forced cells as the released guide's own fill.sh prints them over the translation 3552404d6e2cd493… (all of the seat's roots in one cut). By AI agents, Wed Nov 11 2026. No macro, syntax, notation, axiom, sorry.
-/
import Derived.Test.YtmjipbmpapcboaaChecked
import GoSem.Claim
import GoSem.ClaimJoined
import GoSem.ClaimMapViews
import Derived.JoinedTies
import Derived.KernelRfl
namespace Go.Proofs.Ytmjipbmpapcboaa
/- THE CELL 'sum', in the pinned program and in every row, IS THE sha256 OF THE DUMP (.gsa) THAT YtmjipbmpapcboaaProg.lean LOADS. Nothing in Lean hashes anything: it is a label: what it is worth is what the hold of that sum in a sandbox is worth. -/
noncomputable def Try.pinned : Pinned := { name := "ytmjipbmpapcboaa", sum := "3552404d6e2cd493e8c21702ba0371430f4ec10ebfcb13fbd806cf8995d725a2", checked := Try.checked }
namespace Rows
def none {H : Type} : Left H := { results := [], args := [] }

/-- 'ductuslaw13.LineAnswers': WHATEVER THE INPUT: true; the input reads as it did. -/
def lineAnswersSpec : ChangeSpec := { name := "lineAnswers", fn := fun _ => fun
  | [d1, d2, d3] => { results := [.lit (.bool true)], args := [d1, d2, d3] }
  | _ => none }
def lineAnswersRow : OpenClaim := { program := "ytmjipbmpapcboaa", sum := "3552404d6e2cd493e8c21702ba0371430f4ec10ebfcb13fbd806cf8995d725a2", func := "ductus/ductuslaw13.LineAnswers", spec := "lineAnswers", unfollowed := true, recurses := true, apart := false }
def LineAnswersSaid : Prop := lineAnswersRow.holds Try.pinned (OpenSpec.ofChange lineAnswersSpec)

/-- ITS FALSE NEIGHBOUR: 'it returns false'. Refute it at one input. -/
def lineAnswersWrong : ChangeSpec := { name := "lineAnswers", fn := fun _ => fun
  | [d1, d2, d3] => { results := [.lit (.bool false)], args := [d1, d2, d3] }
  | _ => none }
def LineAnswersWrongFalsely : Prop := lineAnswersRow.holds Try.pinned (OpenSpec.ofChange lineAnswersWrong)

/-- 'ductuslaw13.LineLevels': WHATEVER THE INPUT: true; the input reads as it did. -/
def lineLevelsSpec : ChangeSpec := { name := "lineLevels", fn := fun _ => fun
  | [d1, d2, d3] => { results := [.lit (.bool true)], args := [d1, d2, d3] }
  | _ => none }
def lineLevelsRow : OpenClaim := { program := "ytmjipbmpapcboaa", sum := "3552404d6e2cd493e8c21702ba0371430f4ec10ebfcb13fbd806cf8995d725a2", func := "ductus/ductuslaw13.LineLevels", spec := "lineLevels", unfollowed := true, recurses := true, apart := false }
def LineLevelsSaid : Prop := lineLevelsRow.holds Try.pinned (OpenSpec.ofChange lineLevelsSpec)

/-- ITS FALSE NEIGHBOUR: 'it returns false'. Refute it at one input. -/
def lineLevelsWrong : ChangeSpec := { name := "lineLevels", fn := fun _ => fun
  | [d1, d2, d3] => { results := [.lit (.bool false)], args := [d1, d2, d3] }
  | _ => none }
def LineLevelsWrongFalsely : Prop := lineLevelsRow.holds Try.pinned (OpenSpec.ofChange lineLevelsWrong)

/-- 'ductuslaw13.LineParts': WHATEVER THE INPUT: true; the input reads as it did. -/
def linePartsSpec : ChangeSpec := { name := "lineParts", fn := fun _ => fun
  | [d1, d2, d3] => { results := [.lit (.bool true)], args := [d1, d2, d3] }
  | _ => none }
def linePartsRow : OpenClaim := { program := "ytmjipbmpapcboaa", sum := "3552404d6e2cd493e8c21702ba0371430f4ec10ebfcb13fbd806cf8995d725a2", func := "ductus/ductuslaw13.LineParts", spec := "lineParts", unfollowed := true, recurses := true, apart := false }
def LinePartsSaid : Prop := linePartsRow.holds Try.pinned (OpenSpec.ofChange linePartsSpec)

/-- ITS FALSE NEIGHBOUR: 'it returns false'. Refute it at one input. -/
def linePartsWrong : ChangeSpec := { name := "lineParts", fn := fun _ => fun
  | [d1, d2, d3] => { results := [.lit (.bool false)], args := [d1, d2, d3] }
  | _ => none }
def LinePartsWrongFalsely : Prop := linePartsRow.holds Try.pinned (OpenSpec.ofChange linePartsWrong)

/-- 'ductuslaw13.LineEnds': WHATEVER THE INPUT: true; the input reads as it did. -/
def lineEndsSpec : ChangeSpec := { name := "lineEnds", fn := fun _ => fun
  | [d1, d2, d3] => { results := [.lit (.bool true)], args := [d1, d2, d3] }
  | _ => none }
def lineEndsRow : OpenClaim := { program := "ytmjipbmpapcboaa", sum := "3552404d6e2cd493e8c21702ba0371430f4ec10ebfcb13fbd806cf8995d725a2", func := "ductus/ductuslaw13.LineEnds", spec := "lineEnds", unfollowed := true, recurses := true, apart := false }
def LineEndsSaid : Prop := lineEndsRow.holds Try.pinned (OpenSpec.ofChange lineEndsSpec)

/-- ITS FALSE NEIGHBOUR: 'it returns false'. Refute it at one input. -/
def lineEndsWrong : ChangeSpec := { name := "lineEnds", fn := fun _ => fun
  | [d1, d2, d3] => { results := [.lit (.bool false)], args := [d1, d2, d3] }
  | _ => none }
def LineEndsWrongFalsely : Prop := lineEndsRow.holds Try.pinned (OpenSpec.ofChange lineEndsWrong)

/-- 'ductuslaw13.LineWraps': WHATEVER THE INPUT: true; the input reads as it did. -/
def lineWrapsSpec : ChangeSpec := { name := "lineWraps", fn := fun _ => fun
  | [d1, d2, d3] => { results := [.lit (.bool true)], args := [d1, d2, d3] }
  | _ => none }
def lineWrapsRow : OpenClaim := { program := "ytmjipbmpapcboaa", sum := "3552404d6e2cd493e8c21702ba0371430f4ec10ebfcb13fbd806cf8995d725a2", func := "ductus/ductuslaw13.LineWraps", spec := "lineWraps", unfollowed := true, recurses := true, apart := false }
def LineWrapsSaid : Prop := lineWrapsRow.holds Try.pinned (OpenSpec.ofChange lineWrapsSpec)

/-- ITS FALSE NEIGHBOUR: 'it returns false'. Refute it at one input. -/
def lineWrapsWrong : ChangeSpec := { name := "lineWraps", fn := fun _ => fun
  | [d1, d2, d3] => { results := [.lit (.bool false)], args := [d1, d2, d3] }
  | _ => none }
def LineWrapsWrongFalsely : Prop := lineWrapsRow.holds Try.pinned (OpenSpec.ofChange lineWrapsWrong)

/- THE SECOND FORM. 'bulk': how many values and letters a reading holds, each counted each time it is reached (what is shared counts as often as it is met; a slice's spare places count too). A statement '..UptoSaid' is the law's where the arguments, and the package variables that the reading takes, are together of bulk at most 1048576: NARROWER than '..Said'. Prove '..Said' where nothing that the law and all that it calls make is longer than what came in: it says more and counts as full. Else prove '..UptoSaid'. A law counts once. -/
mutual
def uptoBulk {H : Type} : DataW H → Nat
  | .lit (.string bytes) => bytes.length + 1
  | .lit _ => 1
  | .nil => 1
  | .ptr d => uptoBulk d + 1
  | .slice elems spare => uptoBulkAll elems + uptoBulkAll spare + 1
  | .agg parts => uptoBulkAll parts + 1
  | .iface _ d => uptoBulk d + 1
  | .map entries => uptoBulkEntries entries + 1
  | .held _ => 1
def uptoBulkAll {H : Type} : List (DataW H) → Nat
  | [] => 0
  | d :: r => uptoBulk d + uptoBulkAll r
def uptoBulkEntries {H : Type} : List (Lit × DataW H) → Nat
  | [] => 0
  | x :: r => uptoBulkEntry x + uptoBulkEntries r
def uptoBulkEntry {H : Type} : Lit × DataW H → Nat
  | (.string bytes, d) => bytes.length + uptoBulk d + 1
  | (_, d) => uptoBulk d + 1
 end
def uptoSmall : (H : Type) → List (DataW H) → Bool := fun _ ds => decide (uptoBulkAll ds ≤ 1048576)
def OpenSpec.upto (s : _root_.Go.ChangeSpec) : _root_.Go.OpenSpec := { _root_.Go.OpenSpec.ofChange s with cond := some uptoSmall }

/-- 'ductuslaw13.LineAnswers', WHERE WHAT IT READS IS OF BULK AT MOST 1048576: true; the input reads as it did. -/
def lineAnswersUptoRow : OpenClaim := { program := "ytmjipbmpapcboaa", sum := "3552404d6e2cd493e8c21702ba0371430f4ec10ebfcb13fbd806cf8995d725a2", func := "ductus/ductuslaw13.LineAnswers", spec := "lineAnswers", unfollowed := true, recurses := true, apart := false, narrowed := true }
def LineAnswersUptoSaid : Prop := lineAnswersUptoRow.holds Try.pinned (OpenSpec.upto lineAnswersSpec)

/-- 'ductuslaw13.LineLevels', WHERE WHAT IT READS IS OF BULK AT MOST 1048576: true; the input reads as it did. -/
def lineLevelsUptoRow : OpenClaim := { program := "ytmjipbmpapcboaa", sum := "3552404d6e2cd493e8c21702ba0371430f4ec10ebfcb13fbd806cf8995d725a2", func := "ductus/ductuslaw13.LineLevels", spec := "lineLevels", unfollowed := true, recurses := true, apart := false, narrowed := true }
def LineLevelsUptoSaid : Prop := lineLevelsUptoRow.holds Try.pinned (OpenSpec.upto lineLevelsSpec)

/-- 'ductuslaw13.LineParts', WHERE WHAT IT READS IS OF BULK AT MOST 1048576: true; the input reads as it did. -/
def linePartsUptoRow : OpenClaim := { program := "ytmjipbmpapcboaa", sum := "3552404d6e2cd493e8c21702ba0371430f4ec10ebfcb13fbd806cf8995d725a2", func := "ductus/ductuslaw13.LineParts", spec := "lineParts", unfollowed := true, recurses := true, apart := false, narrowed := true }
def LinePartsUptoSaid : Prop := linePartsUptoRow.holds Try.pinned (OpenSpec.upto linePartsSpec)

/-- 'ductuslaw13.LineEnds', WHERE WHAT IT READS IS OF BULK AT MOST 1048576: true; the input reads as it did. -/
def lineEndsUptoRow : OpenClaim := { program := "ytmjipbmpapcboaa", sum := "3552404d6e2cd493e8c21702ba0371430f4ec10ebfcb13fbd806cf8995d725a2", func := "ductus/ductuslaw13.LineEnds", spec := "lineEnds", unfollowed := true, recurses := true, apart := false, narrowed := true }
def LineEndsUptoSaid : Prop := lineEndsUptoRow.holds Try.pinned (OpenSpec.upto lineEndsSpec)

/-- 'ductuslaw13.LineWraps', WHERE WHAT IT READS IS OF BULK AT MOST 1048576: true; the input reads as it did. -/
def lineWrapsUptoRow : OpenClaim := { program := "ytmjipbmpapcboaa", sum := "3552404d6e2cd493e8c21702ba0371430f4ec10ebfcb13fbd806cf8995d725a2", func := "ductus/ductuslaw13.LineWraps", spec := "lineWraps", unfollowed := true, recurses := true, apart := false, narrowed := true }
def LineWrapsUptoSaid : Prop := lineWrapsUptoRow.holds Try.pinned (OpenSpec.upto lineWrapsSpec)

end Rows
end Go.Proofs.Ytmjipbmpapcboaa
