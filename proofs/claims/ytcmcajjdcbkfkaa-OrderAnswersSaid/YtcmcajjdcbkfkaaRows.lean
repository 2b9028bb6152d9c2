/-
  No cell of these rows narrows 'for every input' (looked for: loops, veiled, ifaces, maps, wideKeys, modest, calm, conditions, laid).
  DERIVED. THE GIVEN ROWS OF THIS SEAT. 4 by the template 'for every input the law returns true; each argument reads behind the call as it read before'; 0 by the template 'total and deterministic' (their statements: YtcmcajjdcbkfkaaTotals.lean).
  GIVEN WITH THE SEED: the statements are not yours to turn. If you find one false, say at which input.
  Laid BY PROGRAM, IN A SANDBOX (cutbox-rows.mjs): the forced cells as the released guide's own fill.sh prints them over the translation b0cce9e3fde86613… (all of the seat's roots in one cut). By AI agents, Wed Nov 11 2026. No macro, syntax, notation, axiom, sorry.
-/
import Derived.Test.YtcmcajjdcbkfkaaChecked
import GoSem.Claim
import GoSem.ClaimJoined
import GoSem.ClaimMapViews
import Derived.JoinedTies
import Derived.KernelRfl
namespace Go.Proofs.Ytcmcajjdcbkfkaa
/- THE CELL 'sum', in the pinned program and in every row, IS THE sha256 OF THE DUMP (.gsa) THAT YtcmcajjdcbkfkaaProg.lean LOADS. Nothing in Lean hashes anything: it is a label: what it is worth is what the hold of that sum in a sandbox is worth. -/
noncomputable def Try.pinned : Pinned := { name := "ytcmcajjdcbkfkaa", sum := "b0cce9e3fde866136f9b32649b20c4fd8c2ce657e37bd85c46817f0bf015ce91", checked := Try.checked }
namespace Rows
def none {H : Type} : Left H := { results := [], args := [] }

/-- 'ductuslaw14.OrderAnswers': WHATEVER THE INPUT: true; the input reads as it did. -/
def orderAnswersSpec : ChangeSpec := { name := "orderAnswers", fn := fun _ => fun
  | [d1, d2, d3] => { results := [.lit (.bool true)], args := [d1, d2, d3] }
  | _ => none }
def orderAnswersRow : OpenClaim := { program := "ytcmcajjdcbkfkaa", sum := "b0cce9e3fde866136f9b32649b20c4fd8c2ce657e37bd85c46817f0bf015ce91", func := "ductus/ductuslaw14.OrderAnswers", spec := "orderAnswers", unfollowed := true, recurses := true, apart := false }
def OrderAnswersSaid : Prop := orderAnswersRow.holds Try.pinned (OpenSpec.ofChange orderAnswersSpec)

/-- ITS FALSE NEIGHBOUR: 'it returns false'. Refute it at one input. -/
def orderAnswersWrong : ChangeSpec := { name := "orderAnswers", fn := fun _ => fun
  | [d1, d2, d3] => { results := [.lit (.bool false)], args := [d1, d2, d3] }
  | _ => none }
def OrderAnswersWrongFalsely : Prop := orderAnswersRow.holds Try.pinned (OpenSpec.ofChange orderAnswersWrong)

/-- 'ductuslaw14.OrderOnce': WHATEVER THE INPUT: true; the input reads as it did. -/
def orderOnceSpec : ChangeSpec := { name := "orderOnce", fn := fun _ => fun
  | [d] => { results := [.lit (.bool true)], args := [d] }
  | _ => none }
def orderOnceRow : OpenClaim := { program := "ytcmcajjdcbkfkaa", sum := "b0cce9e3fde866136f9b32649b20c4fd8c2ce657e37bd85c46817f0bf015ce91", func := "ductus/ductuslaw14.OrderOnce", spec := "orderOnce", unfollowed := true, recurses := true, apart := false }
def OrderOnceSaid : Prop := orderOnceRow.holds Try.pinned (OpenSpec.ofChange orderOnceSpec)

/-- ITS FALSE NEIGHBOUR: 'it returns false'. Refute it at one input. -/
def orderOnceWrong : ChangeSpec := { name := "orderOnce", fn := fun _ => fun
  | [d] => { results := [.lit (.bool false)], args := [d] }
  | _ => none }
def OrderOnceWrongFalsely : Prop := orderOnceRow.holds Try.pinned (OpenSpec.ofChange orderOnceWrong)

/-- 'ductuslaw14.OrderTwice': WHATEVER THE INPUT: true; the input reads as it did. -/
def orderTwiceSpec : ChangeSpec := { name := "orderTwice", fn := fun _ => fun
  | [d1, d2] => { results := [.lit (.bool true)], args := [d1, d2] }
  | _ => none }
def orderTwiceRow : OpenClaim := { program := "ytcmcajjdcbkfkaa", sum := "b0cce9e3fde866136f9b32649b20c4fd8c2ce657e37bd85c46817f0bf015ce91", func := "ductus/ductuslaw14.OrderTwice", spec := "orderTwice", unfollowed := true, recurses := true, apart := false }
def OrderTwiceSaid : Prop := orderTwiceRow.holds Try.pinned (OpenSpec.ofChange orderTwiceSpec)

/-- ITS FALSE NEIGHBOUR: 'it returns false'. Refute it at one input. -/
def orderTwiceWrong : ChangeSpec := { name := "orderTwice", fn := fun _ => fun
  | [d1, d2] => { results := [.lit (.bool false)], args := [d1, d2] }
  | _ => none }
def OrderTwiceWrongFalsely : Prop := orderTwiceRow.holds Try.pinned (OpenSpec.ofChange orderTwiceWrong)

/-- 'ductuslaw14.OrderSeen': WHATEVER THE INPUT: true; the input reads as it did. -/
def orderSeenSpec : ChangeSpec := { name := "orderSeen", fn := fun _ => fun
  | [d1, d2] => { results := [.lit (.bool true)], args := [d1, d2] }
  | _ => none }
def orderSeenRow : OpenClaim := { program := "ytcmcajjdcbkfkaa", sum := "b0cce9e3fde866136f9b32649b20c4fd8c2ce657e37bd85c46817f0bf015ce91", func := "ductus/ductuslaw14.OrderSeen", spec := "orderSeen", unfollowed := true, recurses := true, apart := false }
def OrderSeenSaid : Prop := orderSeenRow.holds Try.pinned (OpenSpec.ofChange orderSeenSpec)

/-- ITS FALSE NEIGHBOUR: 'it returns false'. Refute it at one input. -/
def orderSeenWrong : ChangeSpec := { name := "orderSeen", fn := fun _ => fun
  | [d1, d2] => { results := [.lit (.bool false)], args := [d1, d2] }
  | _ => none }
def OrderSeenWrongFalsely : Prop := orderSeenRow.holds Try.pinned (OpenSpec.ofChange orderSeenWrong)

/- THE SECOND FORM. 'bulk': how many values and letters a reading holds, each counted each time it is reached (what is shared counts as often as it is met; a slice's spare places count too). A statement '..UptoSaid' is the law's where the arguments, and the package variables that the reading takes, are together of bulk at most 1048576: NARROWER than '..Said'. Prove '..Said' where nothing that the law and all that it calls make is longer than what came in: it says more and counts as full. Else prove '..UptoSaid'. A law counts once. -/
mutual
def uptoBulk {H : Type} : DataW H → Nat
  | .lit (.string bytes) => bytes.length + 1
  | .lit _ => 1
  | .nil => 1
  | .ptr d => uptoBulk d + 1
  | .slice elems spare => uptoBulkAll elems + uptoBulkAll spare + 1
  | .agg parts => uptoBulkAll parts + 1
  | .iface _ d => uptoBulk d + 1
  | .map entries => uptoBulkEntries entries + 1
  | .held _ => 1
def uptoBulkAll {H : Type} : List (DataW H) → Nat
  | [] => 0
  | d :: r => uptoBulk d + uptoBulkAll r
def uptoBulkEntries {H : Type} : List (Lit × DataW H) → Nat
  | [] => 0
  | x :: r => uptoBulkEntry x + uptoBulkEntries r
def uptoBulkEntry {H : Type} : Lit × DataW H → Nat
  | (.string bytes, d) => bytes.length + uptoBulk d + 1
  | (_, d) => uptoBulk d + 1
 end
def uptoSmall : (H : Type) → List (DataW H) → Bool := fun _ ds => decide (uptoBulkAll ds ≤ 1048576)
def OpenSpec.upto (s : _root_.Go.ChangeSpec) : _root_.Go.OpenSpec := { _root_.Go.OpenSpec.ofChange s with cond := some uptoSmall }

/-- 'ductuslaw14.OrderAnswers', WHERE WHAT IT READS IS OF BULK AT MOST 1048576: true; the input reads as it did. -/
def orderAnswersUptoRow : OpenClaim := { program := "ytcmcajjdcbkfkaa", sum := "b0cce9e3fde866136f9b32649b20c4fd8c2ce657e37bd85c46817f0bf015ce91", func := "ductus/ductuslaw14.OrderAnswers", spec := "orderAnswers", unfollowed := true, recurses := true, apart := false, narrowed := true }
def OrderAnswersUptoSaid : Prop := orderAnswersUptoRow.holds Try.pinned (OpenSpec.upto orderAnswersSpec)

/-- 'ductuslaw14.OrderOnce', WHERE WHAT IT READS IS OF BULK AT MOST 1048576: true; the input reads as it did. -/
def orderOnceUptoRow : OpenClaim := { program := "ytcmcajjdcbkfkaa", sum := "b0cce9e3fde866136f9b32649b20c4fd8c2ce657e37bd85c46817f0bf015ce91", func := "ductus/ductuslaw14.OrderOnce", spec := "orderOnce", unfollowed := true, recurses := true, apart := false, narrowed := true }
def OrderOnceUptoSaid : Prop := orderOnceUptoRow.holds Try.pinned (OpenSpec.upto orderOnceSpec)

/-- 'ductuslaw14.OrderTwice', WHERE WHAT IT READS IS OF BULK AT MOST 1048576: true; the input reads as it did. -/
def orderTwiceUptoRow : OpenClaim := { program := "ytcmcajjdcbkfkaa", sum := "b0cce9e3fde866136f9b32649b20c4fd8c2ce657e37bd85c46817f0bf015ce91", func := "ductus/ductuslaw14.OrderTwice", spec := "orderTwice", unfollowed := true, recurses := true, apart := false, narrowed := true }
def OrderTwiceUptoSaid : Prop := orderTwiceUptoRow.holds Try.pinned (OpenSpec.upto orderTwiceSpec)

/-- 'ductuslaw14.OrderSeen', WHERE WHAT IT READS IS OF BULK AT MOST 1048576: true; the input reads as it did. -/
def orderSeenUptoRow : OpenClaim := { program := "ytcmcajjdcbkfkaa", sum := "b0cce9e3fde866136f9b32649b20c4fd8c2ce657e37bd85c46817f0bf015ce91", func := "ductus/ductuslaw14.OrderSeen", spec := "orderSeen", unfollowed := true, recurses := true, apart := false, narrowed := true }
def OrderSeenUptoSaid : Prop := orderSeenUptoRow.holds Try.pinned (OpenSpec.upto orderSeenSpec)

end Rows
end Go.Proofs.Ytcmcajjdcbkfkaa
