/-
  No cell of these rows narrows 'for every input' (looked for: loops, veiled, ifaces, maps, wideKeys, modest, calm, conditions, laid).
  DERIVED. THE GIVEN ROWS OF THIS SEAT. 5 by the template 'for every input the law returns true; each argument reads behind the call as it read before'; 0 by the template 'total and deterministic' (their statements: YtpgpckglgkichaaTotals.lean).
  GIVEN WITH THE SEED: the statements are not yours to turn. If you find one false, say at which input.
  Laid BY PROGRAM, IN A SANDBOX (cutbox-rows.mjs): the forced cells as the released guide's own fill.sh prints them over the translation c2c233666a854552… (all of the seat's roots in one cut). By AI agents, Wed Nov 11 2026. No macro, syntax, notation, axiom, sorry.
-/
import Derived.Test.YtpgpckglgkichaaChecked
import GoSem.Claim
import GoSem.ClaimJoined
import GoSem.ClaimMapViews
import Derived.JoinedTies
import Derived.KernelRfl
namespace Go.Proofs.Ytpgpckglgkichaa
/- THE CELL 'sum', in the pinned program and in every row, IS THE sha256 OF THE DUMP (.gsa) THAT YtpgpckglgkichaaProg.lean LOADS. Nothing in Lean hashes anything: it is a label: what it is worth is what the hold of that sum in a sandbox is worth. -/
noncomputable def Try.pinned : Pinned := { name := "ytpgpckglgkichaa", sum := "c2c233666a8545529cedb13414d1f5961c1361b23763d5f55d0519367689ab98", checked := Try.checked }
namespace Rows
def none {H : Type} : Left H := { results := [], args := [] }

/-- 'ductuslaw26.BalanceAnswers': WHATEVER THE INPUT: true; the input reads as it did. -/
def balanceAnswersSpec : ChangeSpec := { name := "balanceAnswers", fn := fun _ => fun
  | [d] => { results := [.lit (.bool true)], args := [d] }
  | _ => none }
def balanceAnswersRow : OpenClaim := { program := "ytpgpckglgkichaa", sum := "c2c233666a8545529cedb13414d1f5961c1361b23763d5f55d0519367689ab98", func := "ductus/ductuslaw26.BalanceAnswers", spec := "balanceAnswers", unfollowed := true, recurses := true, apart := false }
def BalanceAnswersSaid : Prop := balanceAnswersRow.holds Try.pinned (OpenSpec.ofChange balanceAnswersSpec)

/-- ITS FALSE NEIGHBOUR: 'it returns false'. Refute it at one input. -/
def balanceAnswersWrong : ChangeSpec := { name := "balanceAnswers", fn := fun _ => fun
  | [d] => { results := [.lit (.bool false)], args := [d] }
  | _ => none }
def BalanceAnswersWrongFalsely : Prop := balanceAnswersRow.holds Try.pinned (OpenSpec.ofChange balanceAnswersWrong)

/-- 'ductuslaw26.BalanceJoins': WHATEVER THE INPUT: true; the input reads as it did. -/
def balanceJoinsSpec : ChangeSpec := { name := "balanceJoins", fn := fun _ => fun
  | [d1, d2, d3] => { results := [.lit (.bool true)], args := [d1, d2, d3] }
  | _ => none }
def balanceJoinsRow : OpenClaim := { program := "ytpgpckglgkichaa", sum := "c2c233666a8545529cedb13414d1f5961c1361b23763d5f55d0519367689ab98", func := "ductus/ductuslaw26.BalanceJoins", spec := "balanceJoins", unfollowed := true, recurses := true, apart := false }
def BalanceJoinsSaid : Prop := balanceJoinsRow.holds Try.pinned (OpenSpec.ofChange balanceJoinsSpec)

/-- ITS FALSE NEIGHBOUR: 'it returns false'. Refute it at one input. -/
def balanceJoinsWrong : ChangeSpec := { name := "balanceJoins", fn := fun _ => fun
  | [d1, d2, d3] => { results := [.lit (.bool false)], args := [d1, d2, d3] }
  | _ => none }
def BalanceJoinsWrongFalsely : Prop := balanceJoinsRow.holds Try.pinned (OpenSpec.ofChange balanceJoinsWrong)

/-- 'ductuslaw26.BalanceControls': WHATEVER THE INPUT: true; the input reads as it did. -/
def balanceControlsSpec : ChangeSpec := { name := "balanceControls", fn := fun _ => fun
  | [d] => { results := [.lit (.bool true)], args := [d] }
  | _ => none }
def balanceControlsRow : OpenClaim := { program := "ytpgpckglgkichaa", sum := "c2c233666a8545529cedb13414d1f5961c1361b23763d5f55d0519367689ab98", func := "ductus/ductuslaw26.BalanceControls", spec := "balanceControls", unfollowed := true, recurses := true, apart := false }
def BalanceControlsSaid : Prop := balanceControlsRow.holds Try.pinned (OpenSpec.ofChange balanceControlsSpec)

/-- ITS FALSE NEIGHBOUR: 'it returns false'. Refute it at one input. -/
def balanceControlsWrong : ChangeSpec := { name := "balanceControls", fn := fun _ => fun
  | [d] => { results := [.lit (.bool false)], args := [d] }
  | _ => none }
def BalanceControlsWrongFalsely : Prop := balanceControlsRow.holds Try.pinned (OpenSpec.ofChange balanceControlsWrong)

/-- 'ductuslaw26.BalanceWrong': WHATEVER THE INPUT: true; the input reads as it did. -/
def balanceWrongSpec : ChangeSpec := { name := "balanceWrong", fn := fun _ => fun
  | [d1, d2] => { results := [.lit (.bool true)], args := [d1, d2] }
  | _ => none }
def balanceWrongRow : OpenClaim := { program := "ytpgpckglgkichaa", sum := "c2c233666a8545529cedb13414d1f5961c1361b23763d5f55d0519367689ab98", func := "ductus/ductuslaw26.BalanceWrong", spec := "balanceWrong", unfollowed := true, recurses := true, apart := false }
def BalanceWrongSaid : Prop := balanceWrongRow.holds Try.pinned (OpenSpec.ofChange balanceWrongSpec)

/-- ITS FALSE NEIGHBOUR: 'it returns false'. Refute it at one input. -/
def balanceWrongWrong : ChangeSpec := { name := "balanceWrong", fn := fun _ => fun
  | [d1, d2] => { results := [.lit (.bool false)], args := [d1, d2] }
  | _ => none }
def BalanceWrongWrongFalsely : Prop := balanceWrongRow.holds Try.pinned (OpenSpec.ofChange balanceWrongWrong)

/-- 'ductuslaw26.BalanceKept': WHATEVER THE INPUT: true; the input reads as it did. -/
def balanceKeptSpec : ChangeSpec := { name := "balanceKept", fn := fun _ => fun
  | [d1, d2, d3] => { results := [.lit (.bool true)], args := [d1, d2, d3] }
  | _ => none }
def balanceKeptRow : OpenClaim := { program := "ytpgpckglgkichaa", sum := "c2c233666a8545529cedb13414d1f5961c1361b23763d5f55d0519367689ab98", func := "ductus/ductuslaw26.BalanceKept", spec := "balanceKept", unfollowed := true, recurses := true, apart := false }
def BalanceKeptSaid : Prop := balanceKeptRow.holds Try.pinned (OpenSpec.ofChange balanceKeptSpec)

/-- ITS FALSE NEIGHBOUR: 'it returns false'. Refute it at one input. -/
def balanceKeptWrong : ChangeSpec := { name := "balanceKept", fn := fun _ => fun
  | [d1, d2, d3] => { results := [.lit (.bool false)], args := [d1, d2, d3] }
  | _ => none }
def BalanceKeptWrongFalsely : Prop := balanceKeptRow.holds Try.pinned (OpenSpec.ofChange balanceKeptWrong)

/- THE SECOND FORM. 'bulk': how many values and letters a reading holds, each counted each time it is reached (what is shared counts as often as it is met; a slice's spare places count too). A statement '..UptoSaid' is the law's where the arguments, and the package variables that the reading takes, are together of bulk at most 1048576: NARROWER than '..Said'. Prove '..Said' where nothing that the law and all that it calls make is longer than what came in: it says more and counts as full. Else prove '..UptoSaid'. A law counts once. -/
mutual
def uptoBulk {H : Type} : DataW H → Nat
  | .lit (.string bytes) => bytes.length + 1
  | .lit _ => 1
  | .nil => 1
  | .ptr d => uptoBulk d + 1
  | .slice elems spare => uptoBulkAll elems + uptoBulkAll spare + 1
  | .agg parts => uptoBulkAll parts + 1
  | .iface _ d => uptoBulk d + 1
  | .map entries => uptoBulkEntries entries + 1
  | .held _ => 1
def uptoBulkAll {H : Type} : List (DataW H) → Nat
  | [] => 0
  | d :: r => uptoBulk d + uptoBulkAll r
def uptoBulkEntries {H : Type} : List (Lit × DataW H) → Nat
  | [] => 0
  | x :: r => uptoBulkEntry x + uptoBulkEntries r
def uptoBulkEntry {H : Type} : Lit × DataW H → Nat
  | (.string bytes, d) => bytes.length + uptoBulk d + 1
  | (_, d) => uptoBulk d + 1
 end
def uptoSmall : (H : Type) → List (DataW H) → Bool := fun _ ds => decide (uptoBulkAll ds ≤ 1048576)
def OpenSpec.upto (s : _root_.Go.ChangeSpec) : _root_.Go.OpenSpec := { _root_.Go.OpenSpec.ofChange s with cond := some uptoSmall }

/-- 'ductuslaw26.BalanceAnswers', WHERE WHAT IT READS IS OF BULK AT MOST 1048576: true; the input reads as it did. -/
def balanceAnswersUptoRow : OpenClaim := { program := "ytpgpckglgkichaa", sum := "c2c233666a8545529cedb13414d1f5961c1361b23763d5f55d0519367689ab98", func := "ductus/ductuslaw26.BalanceAnswers", spec := "balanceAnswers", unfollowed := true, recurses := true, apart := false, narrowed := true }
def BalanceAnswersUptoSaid : Prop := balanceAnswersUptoRow.holds Try.pinned (OpenSpec.upto balanceAnswersSpec)

/-- 'ductuslaw26.BalanceJoins', WHERE WHAT IT READS IS OF BULK AT MOST 1048576: true; the input reads as it did. -/
def balanceJoinsUptoRow : OpenClaim := { program := "ytpgpckglgkichaa", sum := "c2c233666a8545529cedb13414d1f5961c1361b23763d5f55d0519367689ab98", func := "ductus/ductuslaw26.BalanceJoins", spec := "balanceJoins", unfollowed := true, recurses := true, apart := false, narrowed := true }
def BalanceJoinsUptoSaid : Prop := balanceJoinsUptoRow.holds Try.pinned (OpenSpec.upto balanceJoinsSpec)

/-- 'ductuslaw26.BalanceControls', WHERE WHAT IT READS IS OF BULK AT MOST 1048576: true; the input reads as it did. -/
def balanceControlsUptoRow : OpenClaim := { program := "ytpgpckglgkichaa", sum := "c2c233666a8545529cedb13414d1f5961c1361b23763d5f55d0519367689ab98", func := "ductus/ductuslaw26.BalanceControls", spec := "balanceControls", unfollowed := true, recurses := true, apart := false, narrowed := true }
def BalanceControlsUptoSaid : Prop := balanceControlsUptoRow.holds Try.pinned (OpenSpec.upto balanceControlsSpec)

/-- 'ductuslaw26.BalanceWrong', WHERE WHAT IT READS IS OF BULK AT MOST 1048576: true; the input reads as it did. -/
def balanceWrongUptoRow : OpenClaim := { program := "ytpgpckglgkichaa", sum := "c2c233666a8545529cedb13414d1f5961c1361b23763d5f55d0519367689ab98", func := "ductus/ductuslaw26.BalanceWrong", spec := "balanceWrong", unfollowed := true, recurses := true, apart := false, narrowed := true }
def BalanceWrongUptoSaid : Prop := balanceWrongUptoRow.holds Try.pinned (OpenSpec.upto balanceWrongSpec)

/-- 'ductuslaw26.BalanceKept', WHERE WHAT IT READS IS OF BULK AT MOST 1048576: true; the input reads as it did. -/
def balanceKeptUptoRow : OpenClaim := { program := "ytpgpckglgkichaa", sum := "c2c233666a8545529cedb13414d1f5961c1361b23763d5f55d0519367689ab98", func := "ductus/ductuslaw26.BalanceKept", spec := "balanceKept", unfollowed := true, recurses := true, apart := false, narrowed := true }
def BalanceKeptUptoSaid : Prop := balanceKeptUptoRow.holds Try.pinned (OpenSpec.upto balanceKeptSpec)

end Rows
end Go.Proofs.Ytpgpckglgkichaa
