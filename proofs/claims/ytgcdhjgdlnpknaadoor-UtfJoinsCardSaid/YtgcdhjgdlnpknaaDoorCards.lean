/-
  DERIVED. GIVEN WITH THE SEED: THE CARDS: each row of YtgcdhjgdlnpknaaDoorRows.lean that lists a variable, with what it lists TIED to the program's text (the seventh form; the later family's looks); each row that meets fmt, with fmt's text TOLD by the authors' own Lean function (tested against real Go, not proved from fmt's source: count such statements apart). THE CARD IS WHAT COUNTS. Prove the row's statement (the work); the ties are given (YtgcdhjgdlnpknaaDoorTie.lean); close each card by the builder's one call (the guide's Derived/Test/ToyasCard.lean, 'card_holds'). Laid BY PROGRAM, IN A SANDBOX (cutbox-door.mjs). By AI agents, Wed Nov 11 2026. No macro, syntax, notation, axiom, sorry.
-/
import Derived.Test.YtgcdhjgdlnpknaaDoorRows
import GoSem.ClaimSeven
namespace Go.Proofs.YtgcdhjgdlnpknaaDoor
namespace Rows

/-- THE TIED CARD OF 'ductuslaw01.UtfReads'. -/
def utfReadsCard : Claim7 := { stood := { row := utfReadsRow, standIns := [], harness := (true, "84516754a5037447fea8aa8c244c6018f011b35f579d389a076bb5c4834d9a90"), looks := false }, kinds := [], alts := [], laidByText := true, laidKinds := [.data, .pinned], laidTests := true, laidLooks := .later }
def UtfReadsCardSaid : Prop := Claim7.holds Tryd.pinned (.plain (OpenSpec.ofChange utfReadsSpec)) utfReadsCard

/-- THE TIED CARD OF 'ductuslaw01.UtfWrites'. -/
def utfWritesCard : Claim7 := { stood := { row := utfWritesRow, standIns := [], harness := (true, "84516754a5037447fea8aa8c244c6018f011b35f579d389a076bb5c4834d9a90"), looks := false }, kinds := [], alts := [], laidByText := true, laidKinds := [.data, .pinned], laidTests := true, laidLooks := .later }
def UtfWritesCardSaid : Prop := Claim7.holds Tryd.pinned (.plain (OpenSpec.ofChange utfWritesSpec)) utfWritesCard

/-- THE TIED CARD OF 'ductuslaw01.UtfBack'. -/
def utfBackCard : Claim7 := { stood := { row := utfBackRow, standIns := [], harness := (true, "84516754a5037447fea8aa8c244c6018f011b35f579d389a076bb5c4834d9a90"), looks := false }, kinds := [], alts := [], laidByText := true, laidKinds := [.data, .pinned], laidTests := true, laidLooks := .later }
def UtfBackCardSaid : Prop := Claim7.holds Tryd.pinned (.plain (OpenSpec.ofChange utfBackSpec)) utfBackCard

/-- THE TIED CARD OF 'ductuslaw01.UtfJoins'. -/
def utfJoinsCard : Claim7 := { stood := { row := utfJoinsRow, standIns := [], harness := (true, "84516754a5037447fea8aa8c244c6018f011b35f579d389a076bb5c4834d9a90"), looks := false }, kinds := [], alts := [], laidByText := true, laidKinds := [.data, .pinned], laidTests := true, laidLooks := .later }
def UtfJoinsCardSaid : Prop := Claim7.holds Tryd.pinned (.plain (OpenSpec.ofChange utfJoinsSpec)) utfJoinsCard

/-- THE TIED CARD OF 'ductuslaw01.UtfSizes'. -/
def utfSizesCard : Claim7 := { stood := { row := utfSizesRow, standIns := [], harness := (true, "84516754a5037447fea8aa8c244c6018f011b35f579d389a076bb5c4834d9a90"), looks := false }, kinds := [], alts := [], laidByText := true, laidKinds := [.data, .pinned], laidTests := true, laidLooks := .later }
def UtfSizesCardSaid : Prop := Claim7.holds Tryd.pinned (.plain (OpenSpec.ofChange utfSizesSpec)) utfSizesCard

/-- THE SECOND FORM's CARD OF 'ductuslaw01.UtfReads'. -/
def utfReadsUptoCard : Claim7 := { stood := { row := utfReadsUptoRow, standIns := [], harness := (true, "84516754a5037447fea8aa8c244c6018f011b35f579d389a076bb5c4834d9a90"), looks := false }, kinds := [], alts := [], laidByText := true, laidKinds := [.data, .pinned], laidTests := true, laidLooks := .later }
def UtfReadsUptoCardSaid : Prop := Claim7.holds Tryd.pinned (.plain (OpenSpec.upto utfReadsSpec)) utfReadsUptoCard

/-- THE SECOND FORM's CARD OF 'ductuslaw01.UtfWrites'. -/
def utfWritesUptoCard : Claim7 := { stood := { row := utfWritesUptoRow, standIns := [], harness := (true, "84516754a5037447fea8aa8c244c6018f011b35f579d389a076bb5c4834d9a90"), looks := false }, kinds := [], alts := [], laidByText := true, laidKinds := [.data, .pinned], laidTests := true, laidLooks := .later }
def UtfWritesUptoCardSaid : Prop := Claim7.holds Tryd.pinned (.plain (OpenSpec.upto utfWritesSpec)) utfWritesUptoCard

/-- THE SECOND FORM's CARD OF 'ductuslaw01.UtfBack'. -/
def utfBackUptoCard : Claim7 := { stood := { row := utfBackUptoRow, standIns := [], harness := (true, "84516754a5037447fea8aa8c244c6018f011b35f579d389a076bb5c4834d9a90"), looks := false }, kinds := [], alts := [], laidByText := true, laidKinds := [.data, .pinned], laidTests := true, laidLooks := .later }
def UtfBackUptoCardSaid : Prop := Claim7.holds Tryd.pinned (.plain (OpenSpec.upto utfBackSpec)) utfBackUptoCard

/-- THE SECOND FORM's CARD OF 'ductuslaw01.UtfJoins'. -/
def utfJoinsUptoCard : Claim7 := { stood := { row := utfJoinsUptoRow, standIns := [], harness := (true, "84516754a5037447fea8aa8c244c6018f011b35f579d389a076bb5c4834d9a90"), looks := false }, kinds := [], alts := [], laidByText := true, laidKinds := [.data, .pinned], laidTests := true, laidLooks := .later }
def UtfJoinsUptoCardSaid : Prop := Claim7.holds Tryd.pinned (.plain (OpenSpec.upto utfJoinsSpec)) utfJoinsUptoCard

/-- THE SECOND FORM's CARD OF 'ductuslaw01.UtfSizes'. -/
def utfSizesUptoCard : Claim7 := { stood := { row := utfSizesUptoRow, standIns := [], harness := (true, "84516754a5037447fea8aa8c244c6018f011b35f579d389a076bb5c4834d9a90"), looks := false }, kinds := [], alts := [], laidByText := true, laidKinds := [.data, .pinned], laidTests := true, laidLooks := .later }
def UtfSizesUptoCardSaid : Prop := Claim7.holds Tryd.pinned (.plain (OpenSpec.upto utfSizesSpec)) utfSizesUptoCard
end Rows
end Go.Proofs.YtgcdhjgdlnpknaaDoor
