/- Proved: the table of classes' names that the row takes stands in its cells; it does in the heap that the program's start leaves. -/
import Derived.Test.YtgoebfeojkgimaaDoorSWord
import Derived.Test.YtgoebfeojkgimaaDoorRows
import Derived.Test.YtgoebfeojkgimaaDoorTie
import Derived.ProofKit
import Derived.LaidMore
import Derived.OpenShut
import Derived.Stop.Joined
import Derived.ChangeArms
namespace Go.Proofs.YtgoebfeojkgimaaDoor.P
open Go.ChangeShapes Go.WideShapes Go.ChangeAt Go.RowKit
set_option linter.unusedVariables false

abbrev laidL (H : Type) : List (String × DataW H) := [("ductus/class.words", Rows.laid_ductus_class_words)]
theorem gWords : Tryd.prog.globalNamed "ductus/class.words" = some 0 := by kernel_rfl
theorem tWords : (Tryd.prog.globals[0]?).map (·.type) = some 42 := by kernel_rfl
theorem wordsData {H : Type} : (Rows.laid_ductus_class_words : DataW H) = .agg (class_words.map fun s => .lit (.string s.data.toList)) := rfl
theorem door_met (os : Os) (args : Array Value) : laidMetH Tryd.prog [("ductus/class.words", Rows.laid_ductus_class_words)] ((World.doorLaid Tryd.prog 400 os).forCall (fun _ _ => 0) ⟨#[], args, []⟩).memory :=
  laidMetH_of_parts3 (fuel := 8) (laidMet_of_run' 8 (by kernel_rfl) (by kernel_rfl)) (by kernel_rfl) (by kernel_rfl)
theorem of_laid {W : World} (h : laidMetH Tryd.prog [("ductus/class.words", Rows.laid_ductus_class_words)] W) : WordsAt W := by
  rw [MakeChecks.laidMetH_plain _ _ _ (by kernel_rfl)] at h
  obtain ⟨ps, ⟨g0, t0, cs0, f0, p0, q0, hg0, ht0, hv0, hd0, _, _⟩, _, _⟩ := h
  obtain rfl := Option.some.inj (gWords.symm.trans hg0)
  obtain rfl := Option.some.inj (tWords.symm.trans ht0)
  obtain ⟨xs, m1, rfl, hx1, hlen, hn, hel⟩ := DataW.trod_array Tryd.underlying42 hd0
  have c9 : Tryd.prog.cellsOf 9 = 1 := by kernel_rfl
  rw [wordsData] at hx1
  simp only [Prod.mk.injEq, DataW.agg.injEq] at hx1
  intro i hi
  have hxi : i < xs.length := by omega
  have hwl : class_words.length = 23 := rfl
  have h0 := hel i hi
  rw [List.getElem?_eq_getElem hxi, c9, Nat.mul_one] at h0
  obtain ⟨s, e1, e2, _⟩ := DataW.trod_string Tryd.underlying9 h0
  have e3 : (xs.map (·.1))[i]? = some (.lit (.string s.data.toList)) := by rw [List.getElem?_map, List.getElem?_eq_getElem hxi, e2]; rfl
  rw [← hx1.1, List.getElem?_map, List.getElem?_eq_getElem (by omega)] at e3
  have e4 : (class_words[i]'(by omega)).data.toList = s.data.toList := by simpa using e3
  have e5 : class_words.getD i ByteArray.empty = s := by
    rw [List.getD_eq_getElem?_getD, List.getElem?_eq_getElem (by omega), Option.getD_some]
    exact ByteArray.ext (Array.toList_inj.1 e4)
  rw [e5, World.var?_cell hg0 hv0 i]
  have e6 : cs0.toList[i]? = some (.string s) := by
    have h7 : (List.drop i cs0.toList)[0]? = some (.string s) := by
      have h8 : (List.take 1 (List.drop i cs0.toList))[0]? = some (.string s) := by rw [e1]; rfl
      simpa using h8
    simpa using h7
  simpa using e6
end Go.Proofs.YtgoebfeojkgimaaDoor.P
