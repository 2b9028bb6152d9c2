/-
  DERIVED. GIVEN WITH THE SEED: THE CARDS: each row of YtgoebfeojkgimaaDoorRows.lean that lists a variable, with what it lists TIED to the program's text (the seventh form; the later family's looks); each row that meets fmt, with fmt's text TOLD by the authors' own Lean function (tested against real Go, not proved from fmt's source: count such statements apart). THE CARD IS WHAT COUNTS. Prove the row's statement (the work); the ties are given (YtgoebfeojkgimaaDoorTie.lean); close each card by the builder's one call (the guide's Derived/Test/ToyasCard.lean, 'card_holds'). Laid BY PROGRAM, IN A SANDBOX (cutbox-door.mjs). By AI agents, Wed Nov 11 2026. No macro, syntax, notation, axiom, sorry.
-/
import Derived.Test.YtgoebfeojkgimaaDoorRows
import GoSem.ClaimSeven
namespace Go.Proofs.YtgoebfeojkgimaaDoor
namespace Rows

/-- THE TIED CARD OF 'ductuslaw09.WeakLeaves'. -/
def weakLeavesCard : Claim7 := { stood := { row := weakLeavesRow, standIns := [], harness := (true, "426ca379dc66f2093a7646544f02813db3cd0a6e127ab4e98902d2b5cd154fbf"), looks := false }, kinds := [], alts := [], laidByText := true, laidKinds := [.data], laidTests := true, laidLooks := .later }
def WeakLeavesCardSaid : Prop := Claim7.holds Tryd.pinned (.plain (OpenSpec.ofChange weakLeavesSpec)) weakLeavesCard

/-- THE TIED CARD OF 'ductuslaw09.WeakSteps'. -/
def weakStepsCard : Claim7 := { stood := { row := weakStepsRow, standIns := [], harness := (true, "426ca379dc66f2093a7646544f02813db3cd0a6e127ab4e98902d2b5cd154fbf"), looks := false }, kinds := [], alts := [], laidByText := true, laidKinds := [.data], laidTests := true, laidLooks := .later }
def WeakStepsCardSaid : Prop := Claim7.holds Tryd.pinned (.plain (OpenSpec.ofChange weakStepsSpec)) weakStepsCard

/-- THE TIED CARD OF 'ductuslaw09.WeakStrongs'. -/
def weakStrongsCard : Claim7 := { stood := { row := weakStrongsRow, standIns := [], harness := (true, "426ca379dc66f2093a7646544f02813db3cd0a6e127ab4e98902d2b5cd154fbf"), looks := false }, kinds := [], alts := [], laidByText := true, laidKinds := [.data], laidTests := true, laidLooks := .later }
def WeakStrongsCardSaid : Prop := Claim7.holds Tryd.pinned (.plain (OpenSpec.ofChange weakStrongsSpec)) weakStrongsCard

/-- THE TIED CARD OF 'ductuslaw09.WeakPlain'. -/
def weakPlainCard : Claim7 := { stood := { row := weakPlainRow, standIns := [], harness := (true, "426ca379dc66f2093a7646544f02813db3cd0a6e127ab4e98902d2b5cd154fbf"), looks := false }, kinds := [], alts := [], laidByText := true, laidKinds := [.data], laidTests := true, laidLooks := .later }
def WeakPlainCardSaid : Prop := Claim7.holds Tryd.pinned (.plain (OpenSpec.ofChange weakPlainSpec)) weakPlainCard

/-- THE SECOND FORM's CARD OF 'ductuslaw09.WeakLeaves'. -/
def weakLeavesUptoCard : Claim7 := { stood := { row := weakLeavesUptoRow, standIns := [], harness := (true, "426ca379dc66f2093a7646544f02813db3cd0a6e127ab4e98902d2b5cd154fbf"), looks := false }, kinds := [], alts := [], laidByText := true, laidKinds := [.data], laidTests := true, laidLooks := .later }
def WeakLeavesUptoCardSaid : Prop := Claim7.holds Tryd.pinned (.plain (OpenSpec.upto weakLeavesSpec)) weakLeavesUptoCard

/-- THE SECOND FORM's CARD OF 'ductuslaw09.WeakSteps'. -/
def weakStepsUptoCard : Claim7 := { stood := { row := weakStepsUptoRow, standIns := [], harness := (true, "426ca379dc66f2093a7646544f02813db3cd0a6e127ab4e98902d2b5cd154fbf"), looks := false }, kinds := [], alts := [], laidByText := true, laidKinds := [.data], laidTests := true, laidLooks := .later }
def WeakStepsUptoCardSaid : Prop := Claim7.holds Tryd.pinned (.plain (OpenSpec.upto weakStepsSpec)) weakStepsUptoCard

/-- THE SECOND FORM's CARD OF 'ductuslaw09.WeakStrongs'. -/
def weakStrongsUptoCard : Claim7 := { stood := { row := weakStrongsUptoRow, standIns := [], harness := (true, "426ca379dc66f2093a7646544f02813db3cd0a6e127ab4e98902d2b5cd154fbf"), looks := false }, kinds := [], alts := [], laidByText := true, laidKinds := [.data], laidTests := true, laidLooks := .later }
def WeakStrongsUptoCardSaid : Prop := Claim7.holds Tryd.pinned (.plain (OpenSpec.upto weakStrongsSpec)) weakStrongsUptoCard

/-- THE SECOND FORM's CARD OF 'ductuslaw09.WeakPlain'. -/
def weakPlainUptoCard : Claim7 := { stood := { row := weakPlainUptoRow, standIns := [], harness := (true, "426ca379dc66f2093a7646544f02813db3cd0a6e127ab4e98902d2b5cd154fbf"), looks := false }, kinds := [], alts := [], laidByText := true, laidKinds := [.data], laidTests := true, laidLooks := .later }
def WeakPlainUptoCardSaid : Prop := Claim7.holds Tryd.pinned (.plain (OpenSpec.upto weakPlainSpec)) weakPlainUptoCard
end Rows
end Go.Proofs.YtgoebfeojkgimaaDoor
