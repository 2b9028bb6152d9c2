/- Proved: the two tables of package utf8 that the row takes stand in their cells. -/
import Derived.Test.YtgcdhjgdlnpknaaDoorSValid
import Derived.Test.YtgcdhjgdlnpknaaDoorRows
import Derived.Test.YtgcdhjgdlnpknaaDoorTie
import Derived.ProofKit
import Derived.LaidMore
import Derived.Lay
import Derived.Lib.LaidU8
import Derived.OpenShut
import Derived.Stop.Joined
import Derived.ChangeArms
namespace Go.Proofs.YtgcdhjgdlnpknaaDoor.P
open Go.ChangeShapes Go.WideShapes Go.ChangeAt Go.RowKit
set_option linter.unusedVariables false
set_option maxRecDepth 100000

abbrev laidV : List (String × DataW Unit) := [("unicode/utf8.acceptRanges", Rows.laid_unicode_utf8_acceptRanges), ("unicode/utf8.first", Rows.laid_unicode_utf8_first)]
theorem gFirst : Tryd.prog.globalNamed "unicode/utf8.first" = some 0 := by kernel_rfl
theorem gAcc : Tryd.prog.globalNamed "unicode/utf8.acceptRanges" = some 1 := by kernel_rfl
theorem tFirst : (Tryd.prog.globals[0]?).map (·.type) = some 47 := by kernel_rfl
theorem tAcc : (Tryd.prog.globals[1]?).map (·.type) = some 50 := by kernel_rfl
theorem firstIs : Rows.laid_unicode_utf8_first = Lib.firstData := by kernel_rfl
theorem accIs : (Rows.laid_unicode_utf8_acceptRanges : DataW Unit) = Lib.acceptData := by kernel_rfl
theorem c5 : Tryd.prog.cellsOf 5 = 1 := by kernel_rfl
theorem c256 : Tryd.prog.cellsOf 47 = 256 := by kernel_rfl
theorem cAcc : Tryd.prog.cellsOf 49 = 2 := by kernel_rfl
theorem of_laid {W : World} (h : laidMetH Tryd.prog laidV W) : U8At W := by
  rw [MakeChecks.laidMetH_plain _ _ _ (by kernel_rfl)] at h
  obtain ⟨ps, ⟨g1, t1, cs1, f1, p1, q1, hg1, ht1, hv1, hd1, ⟨g0, t0, cs0, f0, p0, q0, hg0, ht0, hv0, hd0, _⟩, _⟩, _, _⟩ := h
  obtain rfl := Option.some.inj (gFirst.symm.trans hg0)
  obtain rfl := Option.some.inj (tFirst.symm.trans ht0)
  obtain rfl := Option.some.inj (gAcc.symm.trans hg1)
  obtain rfl := Option.some.inj (tAcc.symm.trans ht1)
  rw [firstIs] at hd0
  rw [accIs] at hd1
  refine ⟨fun c hc => ?_, fun i hi => ?_⟩
  · have hcs := Lib.cells_of_tab Tryd.underlying47 Tryd.underlying5 c5 c256 hd0
    rw [World.var?_cell hg0 hv0 c, ← Array.getElem?_toList, hcs]
    simp [Lib.firstTab, hc]
  · obtain ⟨fuel', d, q, hdi, he⟩ := Lib.array_elem Tryd.underlying50 hd1 i hi
    simp only [List.getElem?_map, List.getElem?_range hi, Option.map_some, Option.some.injEq] at hdi
    subst hdi
    rw [cAcc] at he
    have hcs := Lib.ints_of_struct Tryd.underlying49 (fun j f hj => by
      match j, hj with
      | 0, hj => simp at hj; subst hj; exact ⟨Tryd.underlying5, rfl, c5⟩
      | 1, hj => simp at hj; subst hj; exact ⟨Tryd.underlying5, rfl, c5⟩
      | j + 2, hj => simp at hj) (by rw [cAcc]; rfl) he
    have e0 := congrArg (·[0]?) hcs
    have e1 := congrArg (·[1]?) hcs
    simp only [List.getElem?_take, List.getElem?_drop] at e0 e1
    constructor
    · rw [World.var?_cell hg1 hv1 (2 * i), ← Array.getElem?_toList]
      simpa [Nat.mul_comm] using e0
    · rw [World.var?_cell hg1 hv1 (2 * i + 1), ← Array.getElem?_toList]
      simpa [Nat.mul_comm] using e1
theorem door_met (os : Os) (args : Array Value) : laidMetH Tryd.prog laidV ((World.laidAll Tryd.prog os laidV).forCall (fun _ _ => 0) ⟨#[], args, []⟩).memory := by
  rw [MakeChecks.laidMetH_plain _ _ _ (by kernel_rfl)]
  exact laidMet_laidAll _ (by kernel_rfl) (by kernel_rfl)
end Go.Proofs.YtgcdhjgdlnpknaaDoor.P
