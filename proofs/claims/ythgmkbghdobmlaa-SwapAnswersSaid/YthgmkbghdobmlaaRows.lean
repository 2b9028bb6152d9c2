/-
  No cell of these rows narrows 'for every input' (looked for: loops, veiled, ifaces, maps, wideKeys, modest, calm, conditions, laid).
  DERIVED. THE GIVEN ROWS OF THIS SEAT. 5 by the template 'for every input the law returns true; each argument reads behind the call as it read before'; 0 by the template 'total and deterministic' (their statements: YthgmkbghdobmlaaTotals.lean).
  GIVEN WITH THE SEED: the statements are not yours to turn. If you find one false, say at which input.
  Laid BY PROGRAM, IN A SANDBOX (cutbox-rows.mjs): the forced cells as the released guide's own fill.sh prints them over the translation a8f055b84a65e9c8… (all of the seat's roots in one cut). By AI agents, Wed Nov 11 2026. No macro, syntax, notation, axiom, sorry.
-/
import Derived.Test.YthgmkbghdobmlaaChecked
import GoSem.Claim
import GoSem.ClaimJoined
import GoSem.ClaimMapViews
import Derived.JoinedTies
import Derived.KernelRfl
namespace Go.Proofs.Ythgmkbghdobmlaa
/- THE CELL 'sum', in the pinned program and in every row, IS THE sha256 OF THE DUMP (.gsa) THAT YthgmkbghdobmlaaProg.lean LOADS. Nothing in Lean hashes anything: it is a label: what it is worth is what the hold of that sum in a sandbox is worth. -/
noncomputable def Try.pinned : Pinned := { name := "ythgmkbghdobmlaa", sum := "a8f055b84a65e9c83a61f49d1c374525f5d5a555b4529e24bd6346ebafd076a1", checked := Try.checked }
namespace Rows
def none {H : Type} : Left H := { results := [], args := [] }

/-- 'ductuslaw27.SwapAnswers': WHATEVER THE INPUT: true; the input reads as it did. -/
def swapAnswersSpec : ChangeSpec := { name := "swapAnswers", fn := fun _ => fun
  | [d1, d2] => { results := [.lit (.bool true)], args := [d1, d2] }
  | _ => none }
def swapAnswersRow : OpenClaim := { program := "ythgmkbghdobmlaa", sum := "a8f055b84a65e9c83a61f49d1c374525f5d5a555b4529e24bd6346ebafd076a1", func := "ductus/ductuslaw27.SwapAnswers", spec := "swapAnswers", unfollowed := true, recurses := true, apart := false }
def SwapAnswersSaid : Prop := swapAnswersRow.holds Try.pinned (OpenSpec.ofChange swapAnswersSpec)

/-- ITS FALSE NEIGHBOUR: 'it returns false'. Refute it at one input. -/
def swapAnswersWrong : ChangeSpec := { name := "swapAnswers", fn := fun _ => fun
  | [d1, d2] => { results := [.lit (.bool false)], args := [d1, d2] }
  | _ => none }
def SwapAnswersWrongFalsely : Prop := swapAnswersRow.holds Try.pinned (OpenSpec.ofChange swapAnswersWrong)

/-- 'ductuslaw27.SwapJust': WHATEVER THE INPUT: true; the input reads as it did. -/
def swapJustSpec : ChangeSpec := { name := "swapJust", fn := fun _ => fun
  | [d1, d2] => { results := [.lit (.bool true)], args := [d1, d2] }
  | _ => none }
def swapJustRow : OpenClaim := { program := "ythgmkbghdobmlaa", sum := "a8f055b84a65e9c83a61f49d1c374525f5d5a555b4529e24bd6346ebafd076a1", func := "ductus/ductuslaw27.SwapJust", spec := "swapJust", unfollowed := true, recurses := true, apart := false }
def SwapJustSaid : Prop := swapJustRow.holds Try.pinned (OpenSpec.ofChange swapJustSpec)

/-- ITS FALSE NEIGHBOUR: 'it returns false'. Refute it at one input. -/
def swapJustWrong : ChangeSpec := { name := "swapJust", fn := fun _ => fun
  | [d1, d2] => { results := [.lit (.bool false)], args := [d1, d2] }
  | _ => none }
def SwapJustWrongFalsely : Prop := swapJustRow.holds Try.pinned (OpenSpec.ofChange swapJustWrong)

/-- 'ductuslaw27.SwapBalance': WHATEVER THE INPUT: true; the input reads as it did. -/
def swapBalanceSpec : ChangeSpec := { name := "swapBalance", fn := fun _ => fun
  | [d] => { results := [.lit (.bool true)], args := [d] }
  | _ => none }
def swapBalanceRow : OpenClaim := { program := "ythgmkbghdobmlaa", sum := "a8f055b84a65e9c83a61f49d1c374525f5d5a555b4529e24bd6346ebafd076a1", func := "ductus/ductuslaw27.SwapBalance", spec := "swapBalance", unfollowed := true, recurses := true, apart := false }
def SwapBalanceSaid : Prop := swapBalanceRow.holds Try.pinned (OpenSpec.ofChange swapBalanceSpec)

/-- ITS FALSE NEIGHBOUR: 'it returns false'. Refute it at one input. -/
def swapBalanceWrong : ChangeSpec := { name := "swapBalance", fn := fun _ => fun
  | [d] => { results := [.lit (.bool false)], args := [d] }
  | _ => none }
def SwapBalanceWrongFalsely : Prop := swapBalanceRow.holds Try.pinned (OpenSpec.ofChange swapBalanceWrong)

/-- 'ductuslaw27.SwapNone': WHATEVER THE INPUT: true; the input reads as it did. -/
def swapNoneSpec : ChangeSpec := { name := "swapNone", fn := fun _ => fun
  | [d] => { results := [.lit (.bool true)], args := [d] }
  | _ => none }
def swapNoneRow : OpenClaim := { program := "ythgmkbghdobmlaa", sum := "a8f055b84a65e9c83a61f49d1c374525f5d5a555b4529e24bd6346ebafd076a1", func := "ductus/ductuslaw27.SwapNone", spec := "swapNone", unfollowed := true, recurses := true, apart := false }
def SwapNoneSaid : Prop := swapNoneRow.holds Try.pinned (OpenSpec.ofChange swapNoneSpec)

/-- ITS FALSE NEIGHBOUR: 'it returns false'. Refute it at one input. -/
def swapNoneWrong : ChangeSpec := { name := "swapNone", fn := fun _ => fun
  | [d] => { results := [.lit (.bool false)], args := [d] }
  | _ => none }
def SwapNoneWrongFalsely : Prop := swapNoneRow.holds Try.pinned (OpenSpec.ofChange swapNoneWrong)

/-- 'ductuslaw27.SwapSome': WHATEVER THE INPUT: true; the input reads as it did. -/
def swapSomeSpec : ChangeSpec := { name := "swapSome", fn := fun _ => fun
  | [d1, d2] => { results := [.lit (.bool true)], args := [d1, d2] }
  | _ => none }
def swapSomeRow : OpenClaim := { program := "ythgmkbghdobmlaa", sum := "a8f055b84a65e9c83a61f49d1c374525f5d5a555b4529e24bd6346ebafd076a1", func := "ductus/ductuslaw27.SwapSome", spec := "swapSome", unfollowed := true, recurses := true, apart := false }
def SwapSomeSaid : Prop := swapSomeRow.holds Try.pinned (OpenSpec.ofChange swapSomeSpec)

/-- ITS FALSE NEIGHBOUR: 'it returns false'. Refute it at one input. -/
def swapSomeWrong : ChangeSpec := { name := "swapSome", fn := fun _ => fun
  | [d1, d2] => { results := [.lit (.bool false)], args := [d1, d2] }
  | _ => none }
def SwapSomeWrongFalsely : Prop := swapSomeRow.holds Try.pinned (OpenSpec.ofChange swapSomeWrong)

/- THE SECOND FORM. 'bulk': how many values and letters a reading holds, each counted each time it is reached (what is shared counts as often as it is met; a slice's spare places count too). A statement '..UptoSaid' is the law's where the arguments, and the package variables that the reading takes, are together of bulk at most 1048576: NARROWER than '..Said'. Prove '..Said' where nothing that the law and all that it calls make is longer than what came in: it says more and counts as full. Else prove '..UptoSaid'. A law counts once. -/
mutual
def uptoBulk {H : Type} : DataW H → Nat
  | .lit (.string bytes) => bytes.length + 1
  | .lit _ => 1
  | .nil => 1
  | .ptr d => uptoBulk d + 1
  | .slice elems spare => uptoBulkAll elems + uptoBulkAll spare + 1
  | .agg parts => uptoBulkAll parts + 1
  | .iface _ d => uptoBulk d + 1
  | .map entries => uptoBulkEntries entries + 1
  | .held _ => 1
def uptoBulkAll {H : Type} : List (DataW H) → Nat
  | [] => 0
  | d :: r => uptoBulk d + uptoBulkAll r
def uptoBulkEntries {H : Type} : List (Lit × DataW H) → Nat
  | [] => 0
  | x :: r => uptoBulkEntry x + uptoBulkEntries r
def uptoBulkEntry {H : Type} : Lit × DataW H → Nat
  | (.string bytes, d) => bytes.length + uptoBulk d + 1
  | (_, d) => uptoBulk d + 1
 end
def uptoSmall : (H : Type) → List (DataW H) → Bool := fun _ ds => decide (uptoBulkAll ds ≤ 1048576)
def OpenSpec.upto (s : _root_.Go.ChangeSpec) : _root_.Go.OpenSpec := { _root_.Go.OpenSpec.ofChange s with cond := some uptoSmall }

/-- 'ductuslaw27.SwapAnswers', WHERE WHAT IT READS IS OF BULK AT MOST 1048576: true; the input reads as it did. -/
def swapAnswersUptoRow : OpenClaim := { program := "ythgmkbghdobmlaa", sum := "a8f055b84a65e9c83a61f49d1c374525f5d5a555b4529e24bd6346ebafd076a1", func := "ductus/ductuslaw27.SwapAnswers", spec := "swapAnswers", unfollowed := true, recurses := true, apart := false, narrowed := true }
def SwapAnswersUptoSaid : Prop := swapAnswersUptoRow.holds Try.pinned (OpenSpec.upto swapAnswersSpec)

/-- 'ductuslaw27.SwapJust', WHERE WHAT IT READS IS OF BULK AT MOST 1048576: true; the input reads as it did. -/
def swapJustUptoRow : OpenClaim := { program := "ythgmkbghdobmlaa", sum := "a8f055b84a65e9c83a61f49d1c374525f5d5a555b4529e24bd6346ebafd076a1", func := "ductus/ductuslaw27.SwapJust", spec := "swapJust", unfollowed := true, recurses := true, apart := false, narrowed := true }
def SwapJustUptoSaid : Prop := swapJustUptoRow.holds Try.pinned (OpenSpec.upto swapJustSpec)

/-- 'ductuslaw27.SwapBalance', WHERE WHAT IT READS IS OF BULK AT MOST 1048576: true; the input reads as it did. -/
def swapBalanceUptoRow : OpenClaim := { program := "ythgmkbghdobmlaa", sum := "a8f055b84a65e9c83a61f49d1c374525f5d5a555b4529e24bd6346ebafd076a1", func := "ductus/ductuslaw27.SwapBalance", spec := "swapBalance", unfollowed := true, recurses := true, apart := false, narrowed := true }
def SwapBalanceUptoSaid : Prop := swapBalanceUptoRow.holds Try.pinned (OpenSpec.upto swapBalanceSpec)

/-- 'ductuslaw27.SwapNone', WHERE WHAT IT READS IS OF BULK AT MOST 1048576: true; the input reads as it did. -/
def swapNoneUptoRow : OpenClaim := { program := "ythgmkbghdobmlaa", sum := "a8f055b84a65e9c83a61f49d1c374525f5d5a555b4529e24bd6346ebafd076a1", func := "ductus/ductuslaw27.SwapNone", spec := "swapNone", unfollowed := true, recurses := true, apart := false, narrowed := true }
def SwapNoneUptoSaid : Prop := swapNoneUptoRow.holds Try.pinned (OpenSpec.upto swapNoneSpec)

/-- 'ductuslaw27.SwapSome', WHERE WHAT IT READS IS OF BULK AT MOST 1048576: true; the input reads as it did. -/
def swapSomeUptoRow : OpenClaim := { program := "ythgmkbghdobmlaa", sum := "a8f055b84a65e9c83a61f49d1c374525f5d5a555b4529e24bd6346ebafd076a1", func := "ductus/ductuslaw27.SwapSome", spec := "swapSome", unfollowed := true, recurses := true, apart := false, narrowed := true }
def SwapSomeUptoSaid : Prop := swapSomeUptoRow.holds Try.pinned (OpenSpec.upto swapSomeSpec)

end Rows
end Go.Proofs.Ythgmkbghdobmlaa
