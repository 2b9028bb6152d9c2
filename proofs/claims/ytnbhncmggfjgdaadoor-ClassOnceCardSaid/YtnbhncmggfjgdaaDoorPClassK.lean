/- Proved: what class.Opens, and the document's answers for it and for what is left out, tell of any number; condition: enough rounds. -/
import Derived.Test.YtnbhncmggfjgdaaDoorPClass
import Derived.Test.YtnbhncmggfjgdaaDoorSOf
import Derived.Test.YtnbhncmggfjgdaaDoorPx1
import Derived.Test.YtnbhncmggfjgdaaDoorPx3
namespace Go.Proofs.YtnbhncmggfjgdaaDoor.P
open Go.RowKit Go.Proofs.YtnbhncmggfjgdaaDoorW.PrintWords Go.Proofs.YtnbhncmggfjgdaaDoorW.PrintLast Go.Proofs.YtnbhncmggfjgdaaDoorW.PrintMore
set_option linter.unusedVariables false
set_option linter.unusedSimpArgs false

def opnK (k : Int) : Bool := decide (k ∈ [19, 20, 21])
theorem opens_eq0 (k : Int) : class_Opens.f 8 k = some (opnK k) := by
  revert k
  refine by_class _ (by decide +kernel) fun k h => ?_
  obtain ⟨b, hb⟩ : ∃ b, class_set.f 8 ([19, 20, 21] : List Int) = some b := Option.isSome_iff_exists.1 (by decide +kernel)
  have e : opnK k = false := by
    unfold opnK
    rw [decide_eq_false_iff_not]
    simp only [List.mem_cons, List.not_mem_nil, or_false]
    omega
  unfold class_Opens.f
  rw [hb, e]
  simp only [Option.bind_some]
  rw [in_out k b h]
  rfl
theorem opens_eq (n : Nat) (hn : 8 ≤ n) (k : Int) : class_Opens.f n k = some (opnK k) := more (class_Opens.mono k) 8 n hn _ (opens_eq0 k)
theorem ropens_eq (k : Int) : ductusref02_Opens.f k = some (opnK k) := by
  unfold ductusref02_Opens.f opnK
  repeat' split
  all_goals simp_all
  rfl
theorem rout0_eq (k : Int) : ductusref02_Out.f k = some (outK k) := by
  unfold ductusref02_Out.f outK
  repeat' split
  all_goals simp_all
  rfl
theorem rcls_eq (c : Int) : ductusref02_Of.f c = some (cls c) := rfl
end Go.Proofs.YtnbhncmggfjgdaaDoor.P
