/- Proved: nothing; a definition, how a number is looked up in a table of ranges. -/
import Derived.Test.YtnbhncmggfjgdaaDoorPx0
namespace Go.Proofs.YtnbhncmggfjgdaaDoor.P
/-- The first row that a number lies in. -/
def swFrom (c : Int) : List (Int × Int × Int) → Int
  | [] => 0
  | x :: l => if x.1 ≤ c ∧ c ≤ x.2.1 then x.2.2 else swFrom c l

end Go.Proofs.YtnbhncmggfjgdaaDoor.P
