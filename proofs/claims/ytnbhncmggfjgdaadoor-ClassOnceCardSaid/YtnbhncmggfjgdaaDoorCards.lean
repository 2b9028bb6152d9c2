/-
  DERIVED. GIVEN WITH THE SEED: THE CARDS: each row of YtnbhncmggfjgdaaDoorRows.lean that lists a variable, with what it lists TIED to the program's text (the seventh form; the later family's looks); each row that meets fmt, with fmt's text TOLD by the authors' own Lean function (tested against real Go, not proved from fmt's source: count such statements apart). THE CARD IS WHAT COUNTS. Prove the row's statement (the work); the ties are given (YtnbhncmggfjgdaaDoorTie.lean); close each card by the builder's one call (the guide's Derived/Test/ToyasCard.lean, 'card_holds'). Laid BY PROGRAM, IN A SANDBOX (cutbox-door.mjs). By AI agents, Wed Nov 11 2026. No macro, syntax, notation, axiom, sorry.
-/
import Derived.Test.YtnbhncmggfjgdaaDoorRows
import GoSem.ClaimSeven
namespace Go.Proofs.YtnbhncmggfjgdaaDoor
namespace Rows

/-- THE TIED CARD OF 'ductuslaw02.ClassWords'. -/
def classWordsCard : Claim7 := { stood := { row := classWordsRow, standIns := [], harness := (true, "678b88173cc9d0b9b51f45c59e1a1986831314aad37592ff912a8badf8375a05"), looks := false }, kinds := [], alts := [], laidByText := true, laidKinds := [.data], laidTests := true, laidLooks := .later }
def ClassWordsCardSaid : Prop := Claim7.holds Tryd.pinned (.plain (OpenSpec.ofChange classWordsSpec)) classWordsCard

/-- THE TIED CARD OF 'ductuslaw02.ClassAnswers'. -/
def classAnswersCard : Claim7 := { stood := { row := classAnswersRow, standIns := [], harness := (true, "678b88173cc9d0b9b51f45c59e1a1986831314aad37592ff912a8badf8375a05"), looks := false }, kinds := [], alts := [], laidByText := true, laidKinds := [.data], laidTests := true, laidLooks := .later }
def ClassAnswersCardSaid : Prop := Claim7.holds Tryd.pinned (.plain (OpenSpec.ofChange classAnswersSpec)) classAnswersCard

/-- THE TIED CARD OF 'ductuslaw02.ClassOnce'. -/
def classOnceCard : Claim7 := { stood := { row := classOnceRow, standIns := [], harness := (true, "678b88173cc9d0b9b51f45c59e1a1986831314aad37592ff912a8badf8375a05"), looks := false }, kinds := [], alts := [], laidByText := true, laidKinds := [.data], laidTests := true, laidLooks := .later }
def ClassOnceCardSaid : Prop := Claim7.holds Tryd.pinned (.plain (OpenSpec.ofChange classOnceSpec)) classOnceCard

/-- THE TIED CARD OF 'ductuslaw02.ClassLists'. -/
def classListsCard : Claim7 := { stood := { row := classListsRow, standIns := [], harness := (true, "678b88173cc9d0b9b51f45c59e1a1986831314aad37592ff912a8badf8375a05"), looks := false }, kinds := [], alts := [], laidByText := true, laidKinds := [.data], laidTests := true, laidLooks := .later }
def ClassListsCardSaid : Prop := Claim7.holds Tryd.pinned (.plain (OpenSpec.ofChange classListsSpec)) classListsCard

/-- THE SECOND FORM's CARD OF 'ductuslaw02.ClassWords'. -/
def classWordsUptoCard : Claim7 := { stood := { row := classWordsUptoRow, standIns := [], harness := (true, "678b88173cc9d0b9b51f45c59e1a1986831314aad37592ff912a8badf8375a05"), looks := false }, kinds := [], alts := [], laidByText := true, laidKinds := [.data], laidTests := true, laidLooks := .later }
def ClassWordsUptoCardSaid : Prop := Claim7.holds Tryd.pinned (.plain (OpenSpec.upto classWordsSpec)) classWordsUptoCard

/-- THE SECOND FORM's CARD OF 'ductuslaw02.ClassAnswers'. -/
def classAnswersUptoCard : Claim7 := { stood := { row := classAnswersUptoRow, standIns := [], harness := (true, "678b88173cc9d0b9b51f45c59e1a1986831314aad37592ff912a8badf8375a05"), looks := false }, kinds := [], alts := [], laidByText := true, laidKinds := [.data], laidTests := true, laidLooks := .later }
def ClassAnswersUptoCardSaid : Prop := Claim7.holds Tryd.pinned (.plain (OpenSpec.upto classAnswersSpec)) classAnswersUptoCard

/-- THE SECOND FORM's CARD OF 'ductuslaw02.ClassOnce'. -/
def classOnceUptoCard : Claim7 := { stood := { row := classOnceUptoRow, standIns := [], harness := (true, "678b88173cc9d0b9b51f45c59e1a1986831314aad37592ff912a8badf8375a05"), looks := false }, kinds := [], alts := [], laidByText := true, laidKinds := [.data], laidTests := true, laidLooks := .later }
def ClassOnceUptoCardSaid : Prop := Claim7.holds Tryd.pinned (.plain (OpenSpec.upto classOnceSpec)) classOnceUptoCard

/-- THE SECOND FORM's CARD OF 'ductuslaw02.ClassLists'. -/
def classListsUptoCard : Claim7 := { stood := { row := classListsUptoRow, standIns := [], harness := (true, "678b88173cc9d0b9b51f45c59e1a1986831314aad37592ff912a8badf8375a05"), looks := false }, kinds := [], alts := [], laidByText := true, laidKinds := [.data], laidTests := true, laidLooks := .later }
def ClassListsUptoCardSaid : Prop := Claim7.holds Tryd.pinned (.plain (OpenSpec.upto classListsSpec)) classListsUptoCard
end Rows
end Go.Proofs.YtnbhncmggfjgdaaDoor
