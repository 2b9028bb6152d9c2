/- Texts of this claim put together by a program of its own, what no law of the claim uses left out: each part's statements bear their own conditions. -/
import Derived.Test.YthgmkbghdobmlaaN0
import Derived.Test.YthgmkbghdobmlaaN5
import Derived.Test.YthgmkbghdobmlaaN1
import Derived.Test.YthgmkbghdobmlaaN4
namespace Go.Proofs.Ythgmkbghdobmlaa.P
open Go.RowKit Go.Proofs.YthgmkbghdobmlaaW.PrintWords Go.Proofs.YthgmkbghdobmlaaW.PrintLast Go.Proofs.YthgmkbghdobmlaaW.PrintMore
attribute [local go_sem] max2_int min2_int max_two min_two max_three min_three max_four min_four   -- for this text's walks alone
set_option linter.unusedVariables false
set_option linter.unusedSimpArgs false

def ductuslaw27_alive.f (k : Nat)  : Option (Bool) := (some (([97, 8235, 98, 8236, 99] : List Int) : List Int)).bind fun y276 => ((swap_All.f k y276 (([(⟨1, 2⟩ : S39)] : List (S39))) (([120, 8295, 121] : List Int))).bind fun bt285 => ((swap_All.f k y276 (([(⟨0, 3⟩ : S39)] : List (S39))) (([122] : List Int))).bind fun bt295 => ((swap_Some.f k y276 (([(⟨0, 1⟩ : S39), (⟨2, 2⟩ : S39)] : List (S39))) (([1] : List Int)) (([45] : List Int))).bind fun bt308 => ((swap_Some.f k y276 ([] : List (S39)) (([0] : List Int)) ([] : List Int)).bind fun bt315 => (if 1 ≤ (y276.length : Int) then ((swap_Bytes.f k (y276.take 1) (([(⟨0, 1⟩ : S39)] : List (S39))) (([1488] : List Int))).bind fun bt329 => (if bt285.2 = 0 then (if bt295.2 = 0 then (if bt308.2 = 0 then (if bt315.2 = 12 then (if bt329.2 = 0 then ((ductusref01_Ints.f k bt285.1 (([97, 8235, 120, 121, 8236, 99] : List Int))).bind fun t336 => (if t336 = true then ((ductusref01_Ints.f k bt295.1 (([122, 8235, 8236] : List Int))).bind fun t340 => (if t340 = true then ((ductusref01_Ints.f k bt308.1 (([97, 8235, 98, 8236, 45, 99] : List Int))).bind fun t344 => (if t344 = true then (if (bt329.1.length : Int) = 2 then ((swap_Plain.f y276).bind fun t345 => ((ductusref01_Ints.f k t345 (([97, 98, 99] : List Int))).bind fun t351 => (some t351))) else (none)) else (none))) else (none))) else (none))) else (none)) else (none)) else (none)) else (none)) else (none))) else (none))))))
theorem ductuslaw27_alive.mono : ∀ k, LeO (ductuslaw27_alive.f k ) (ductuslaw27_alive.f (k + 1) ) := by
  intro  k
  unfold ductuslaw27_alive.f
  repeat' first
      | (with_reducible exact ductusref01_Ints.mono _ _ _)
      | (with_reducible exact swap_All.mono _ _ _ _)
      | (with_reducible exact swap_Bytes.mono _ _ _ _)
      | (with_reducible exact swap_Some.mono _ _ _ _ _)
      | (with_reducible exact LeO.refl _)
      | (with_reducible exact LeO.none _)
      | (with_reducible refine LeO.ite ?_ ?_)
      | (with_reducible refine LeO.bind ?_ (fun _ => ?_))
      | exact ductusref01_Ints.mono _ _ _
      | exact swap_All.mono _ _ _ _
      | exact swap_Bytes.mono _ _ _ _
      | exact swap_Some.mono _ _ _ _ _
      | exact LeO.none _
      | refine LeO.ite ?_ ?_
      | refine LeO.bind ?_ (fun _ => ?_)
theorem C_lit (w : World) (t : TypeId) (xs : List Int) (hn : xs.length ≤ 9223372036854775807) (cs : Array Value) (hcs : cs.toList = xs.map (Value.int .i64)) (g : Nat) (hg : g = w.heap.size) : Kd.C (Kd.int .i64) (w.alloc (.cells cs t)) (some ⟨g, 0, none⟩) xs.length xs := by
  subst hg
  refine Kd.C_of_reads (d := (0 : Int)) (h1 := fun _ => rfl) ⟨rfl, hn, fun _ => ⟨_, rfl, fun j hj => ?_⟩⟩
  have e : (⟨w.heap.size, 0, none⟩ : Addr).add j = ⟨w.heap.size, j, none⟩ := by
    simp [Addr.add]
    intro h
    exact h.symm
  rw [e]
  refine (blk_cell (heap_alloc_new w _) j).trans ?_
  rw [← Array.getElem?_toList, hcs, List.getElem?_map, List.getElem?_eq_getElem hj, List.getD_eq_getElem?_getD, List.getElem?_eq_getElem hj]
  rfl
set_option maxHeartbeats 8000000 in
set_option maxRecDepth 100000 in
theorem ductuslaw27_alive.calls (k : Nat)  (r : Bool) (w : World) (h : ductuslaw27_alive.f k  = some r) :
    Calls Try.prog 8 #[] w fun e w' => e = .returned (.bool r) ∧ Below w.heap.size w w' := by
  have hu39 := Try.underlying39
  have HB := Aside0.mk (Below.refl w.heap.size w)
  have H : ((some (([97, 8235, 98, 8236, 99] : List Int) : List Int)).bind fun y276 => ((swap_All.f k y276 (([(⟨1, 2⟩ : S39)] : List (S39))) (([120, 8295, 121] : List Int))).bind fun bt285 => ((swap_All.f k y276 (([(⟨0, 3⟩ : S39)] : List (S39))) (([122] : List Int))).bind fun bt295 => ((swap_Some.f k y276 (([(⟨0, 1⟩ : S39), (⟨2, 2⟩ : S39)] : List (S39))) (([1] : List Int)) (([45] : List Int))).bind fun bt308 => ((swap_Some.f k y276 ([] : List (S39)) (([0] : List Int)) ([] : List Int)).bind fun bt315 => (if 1 ≤ (y276.length : Int) then ((swap_Bytes.f k (y276.take 1) (([(⟨0, 1⟩ : S39)] : List (S39))) (([1488] : List Int))).bind fun bt329 => (if bt285.2 = 0 then (if bt295.2 = 0 then (if bt308.2 = 0 then (if bt315.2 = 12 then (if bt329.2 = 0 then ((ductusref01_Ints.f k bt285.1 (([97, 8235, 120, 121, 8236, 99] : List Int))).bind fun t336 => (if t336 = true then ((ductusref01_Ints.f k bt295.1 (([122, 8235, 8236] : List Int))).bind fun t340 => (if t340 = true then ((ductusref01_Ints.f k bt308.1 (([97, 8235, 98, 8236, 45, 99] : List Int))).bind fun t344 => (if t344 = true then (if (bt329.1.length : Int) = 2 then ((swap_Plain.f y276).bind fun t345 => ((ductusref01_Ints.f k t345 (([97, 98, 99] : List Int))).bind fun t351 => (some t351))) else (none)) else (none))) else (none))) else (none))) else (none)) else (none)) else (none)) else (none)) else (none))) else (none))))))) = some r := h
  clear h
  obtain ⟨y276, hy276⟩ : ∃ y_ : List Int, y_ = (([97, 8235, 98, 8236, 99] : List Int)) := ⟨_, rfl⟩
  replace H : ((swap_All.f k y276 (([(⟨1, 2⟩ : S39)] : List (S39))) (([120, 8295, 121] : List Int))).bind fun bt285 => ((swap_All.f k y276 (([(⟨0, 3⟩ : S39)] : List (S39))) (([122] : List Int))).bind fun bt295 => ((swap_Some.f k y276 (([(⟨0, 1⟩ : S39), (⟨2, 2⟩ : S39)] : List (S39))) (([1] : List Int)) (([45] : List Int))).bind fun bt308 => ((swap_Some.f k y276 ([] : List (S39)) (([0] : List Int)) ([] : List Int)).bind fun bt315 => (if 1 ≤ (y276.length : Int) then ((swap_Bytes.f k (y276.take 1) (([(⟨0, 1⟩ : S39)] : List (S39))) (([1488] : List Int))).bind fun bt329 => (if bt285.2 = 0 then (if bt295.2 = 0 then (if bt308.2 = 0 then (if bt315.2 = 12 then (if bt329.2 = 0 then ((ductusref01_Ints.f k bt285.1 (([97, 8235, 120, 121, 8236, 99] : List Int))).bind fun t336 => (if t336 = true then ((ductusref01_Ints.f k bt295.1 (([122, 8235, 8236] : List Int))).bind fun t340 => (if t340 = true then ((ductusref01_Ints.f k bt308.1 (([97, 8235, 98, 8236, 45, 99] : List Int))).bind fun t344 => (if t344 = true then (if (bt329.1.length : Int) = 2 then ((swap_Plain.f y276).bind fun t345 => ((ductusref01_Ints.f k t345 (([97, 98, 99] : List Int))).bind fun t351 => (some t351))) else (none)) else (none))) else (none))) else (none))) else (none)) else (none)) else (none)) else (none)) else (none))) else (none)))))) = some r := by first | (rw [hy276]; with_reducible exact H) | (have H2_ := (Option.bind_some _ _).symm.trans H; rw [hy276]; with_reducible exact H2_) | (have H2_ := (Option.bind_some _ _).symm.trans H; with_reducible exact H2_) | with_reducible exact H | (rw [hy276]; exact H) | exact H
  have Ny276 := Aside0.mk hy276
  clear hy276
  obtain ⟨y279, hy279⟩ : ∃ y_ : List (S39), y_ = (([(⟨1, 2⟩ : S39)] : List (S39))) := ⟨_, rfl⟩
  replace H : ((swap_All.f k y276 y279 (([120, 8295, 121] : List Int))).bind fun bt285 => ((swap_All.f k y276 (([(⟨0, 3⟩ : S39)] : List (S39))) (([122] : List Int))).bind fun bt295 => ((swap_Some.f k y276 (([(⟨0, 1⟩ : S39), (⟨2, 2⟩ : S39)] : List (S39))) (([1] : List Int)) (([45] : List Int))).bind fun bt308 => ((swap_Some.f k y276 ([] : List (S39)) (([0] : List Int)) ([] : List Int)).bind fun bt315 => (if 1 ≤ (y276.length : Int) then ((swap_Bytes.f k (y276.take 1) (([(⟨0, 1⟩ : S39)] : List (S39))) (([1488] : List Int))).bind fun bt329 => (if bt285.2 = 0 then (if bt295.2 = 0 then (if bt308.2 = 0 then (if bt315.2 = 12 then (if bt329.2 = 0 then ((ductusref01_Ints.f k bt285.1 (([97, 8235, 120, 121, 8236, 99] : List Int))).bind fun t336 => (if t336 = true then ((ductusref01_Ints.f k bt295.1 (([122, 8235, 8236] : List Int))).bind fun t340 => (if t340 = true then ((ductusref01_Ints.f k bt308.1 (([97, 8235, 98, 8236, 45, 99] : List Int))).bind fun t344 => (if t344 = true then (if (bt329.1.length : Int) = 2 then ((swap_Plain.f y276).bind fun t345 => ((ductusref01_Ints.f k t345 (([97, 98, 99] : List Int))).bind fun t351 => (some t351))) else (none)) else (none))) else (none))) else (none))) else (none)) else (none)) else (none)) else (none)) else (none))) else (none)))))) = some r := by first | (rw [hy279]; with_reducible exact H) | (have H2_ := (Option.bind_some _ _).symm.trans H; rw [hy279]; with_reducible exact H2_) | (have H2_ := (Option.bind_some _ _).symm.trans H; with_reducible exact H2_) | with_reducible exact H | (rw [hy279]; exact H) | exact H
  have Ny279 := Aside0.mk hy279
  clear hy279
  obtain ⟨y282, hy282⟩ : ∃ y_ : List Int, y_ = (([120, 8295, 121] : List Int)) := ⟨_, rfl⟩
  replace H : ((swap_All.f k y276 y279 y282).bind fun bt285 => ((swap_All.f k y276 (([(⟨0, 3⟩ : S39)] : List (S39))) (([122] : List Int))).bind fun bt295 => ((swap_Some.f k y276 (([(⟨0, 1⟩ : S39), (⟨2, 2⟩ : S39)] : List (S39))) (([1] : List Int)) (([45] : List Int))).bind fun bt308 => ((swap_Some.f k y276 ([] : List (S39)) (([0] : List Int)) ([] : List Int)).bind fun bt315 => (if 1 ≤ (y276.length : Int) then ((swap_Bytes.f k (y276.take 1) (([(⟨0, 1⟩ : S39)] : List (S39))) (([1488] : List Int))).bind fun bt329 => (if bt285.2 = 0 then (if bt295.2 = 0 then (if bt308.2 = 0 then (if bt315.2 = 12 then (if bt329.2 = 0 then ((ductusref01_Ints.f k bt285.1 (([97, 8235, 120, 121, 8236, 99] : List Int))).bind fun t336 => (if t336 = true then ((ductusref01_Ints.f k bt295.1 (([122, 8235, 8236] : List Int))).bind fun t340 => (if t340 = true then ((ductusref01_Ints.f k bt308.1 (([97, 8235, 98, 8236, 45, 99] : List Int))).bind fun t344 => (if t344 = true then (if (bt329.1.length : Int) = 2 then ((swap_Plain.f y276).bind fun t345 => ((ductusref01_Ints.f k t345 (([97, 98, 99] : List Int))).bind fun t351 => (some t351))) else (none)) else (none))) else (none))) else (none))) else (none)) else (none)) else (none)) else (none)) else (none))) else (none)))))) = some r := by first | (rw [hy282]; with_reducible exact H) | (have H2_ := (Option.bind_some _ _).symm.trans H; rw [hy282]; with_reducible exact H2_) | (have H2_ := (Option.bind_some _ _).symm.trans H; with_reducible exact H2_) | with_reducible exact H | (rw [hy282]; exact H) | exact H
  have Ny282 := Aside0.mk hy282
  clear hy282
  replace H := Option.bind_eq_some_iff.mp H
  obtain ⟨⟨t285, t286⟩, A10, H⟩ := H
  replace H : ((swap_All.f k y276 (([(⟨0, 3⟩ : S39)] : List (S39))) (([122] : List Int))).bind fun bt295 => ((swap_Some.f k y276 (([(⟨0, 1⟩ : S39), (⟨2, 2⟩ : S39)] : List (S39))) (([1] : List Int)) (([45] : List Int))).bind fun bt308 => ((swap_Some.f k y276 ([] : List (S39)) (([0] : List Int)) ([] : List Int)).bind fun bt315 => (if 1 ≤ (y276.length : Int) then ((swap_Bytes.f k (y276.take 1) (([(⟨0, 1⟩ : S39)] : List (S39))) (([1488] : List Int))).bind fun bt329 => (if t286 = 0 then (if bt295.2 = 0 then (if bt308.2 = 0 then (if bt315.2 = 12 then (if bt329.2 = 0 then ((ductusref01_Ints.f k t285 (([97, 8235, 120, 121, 8236, 99] : List Int))).bind fun t336 => (if t336 = true then ((ductusref01_Ints.f k bt295.1 (([122, 8235, 8236] : List Int))).bind fun t340 => (if t340 = true then ((ductusref01_Ints.f k bt308.1 (([97, 8235, 98, 8236, 45, 99] : List Int))).bind fun t344 => (if t344 = true then (if (bt329.1.length : Int) = 2 then ((swap_Plain.f y276).bind fun t345 => ((ductusref01_Ints.f k t345 (([97, 98, 99] : List Int))).bind fun t351 => (some t351))) else (none)) else (none))) else (none))) else (none))) else (none)) else (none)) else (none)) else (none)) else (none))) else (none))))) = some r := H
  have A1 := Aside0.mk A10
  clear A10
  obtain ⟨y289, hy289⟩ : ∃ y_ : List (S39), y_ = (([(⟨0, 3⟩ : S39)] : List (S39))) := ⟨_, rfl⟩
  replace H : ((swap_All.f k y276 y289 (([122] : List Int))).bind fun bt295 => ((swap_Some.f k y276 (([(⟨0, 1⟩ : S39), (⟨2, 2⟩ : S39)] : List (S39))) (([1] : List Int)) (([45] : List Int))).bind fun bt308 => ((swap_Some.f k y276 ([] : List (S39)) (([0] : List Int)) ([] : List Int)).bind fun bt315 => (if 1 ≤ (y276.length : Int) then ((swap_Bytes.f k (y276.take 1) (([(⟨0, 1⟩ : S39)] : List (S39))) (([1488] : List Int))).bind fun bt329 => (if t286 = 0 then (if bt295.2 = 0 then (if bt308.2 = 0 then (if bt315.2 = 12 then (if bt329.2 = 0 then ((ductusref01_Ints.f k t285 (([97, 8235, 120, 121, 8236, 99] : List Int))).bind fun t336 => (if t336 = true then ((ductusref01_Ints.f k bt295.1 (([122, 8235, 8236] : List Int))).bind fun t340 => (if t340 = true then ((ductusref01_Ints.f k bt308.1 (([97, 8235, 98, 8236, 45, 99] : List Int))).bind fun t344 => (if t344 = true then (if (bt329.1.length : Int) = 2 then ((swap_Plain.f y276).bind fun t345 => ((ductusref01_Ints.f k t345 (([97, 98, 99] : List Int))).bind fun t351 => (some t351))) else (none)) else (none))) else (none))) else (none))) else (none)) else (none)) else (none)) else (none)) else (none))) else (none))))) = some r := by first | (rw [hy289]; with_reducible exact H) | (have H2_ := (Option.bind_some _ _).symm.trans H; rw [hy289]; with_reducible exact H2_) | (have H2_ := (Option.bind_some _ _).symm.trans H; with_reducible exact H2_) | with_reducible exact H | (rw [hy289]; exact H) | exact H
  have Ny289 := Aside0.mk hy289
  clear hy289
  obtain ⟨y292, hy292⟩ : ∃ y_ : List Int, y_ = (([122] : List Int)) := ⟨_, rfl⟩
  replace H : ((swap_All.f k y276 y289 y292).bind fun bt295 => ((swap_Some.f k y276 (([(⟨0, 1⟩ : S39), (⟨2, 2⟩ : S39)] : List (S39))) (([1] : List Int)) (([45] : List Int))).bind fun bt308 => ((swap_Some.f k y276 ([] : List (S39)) (([0] : List Int)) ([] : List Int)).bind fun bt315 => (if 1 ≤ (y276.length : Int) then ((swap_Bytes.f k (y276.take 1) (([(⟨0, 1⟩ : S39)] : List (S39))) (([1488] : List Int))).bind fun bt329 => (if t286 = 0 then (if bt295.2 = 0 then (if bt308.2 = 0 then (if bt315.2 = 12 then (if bt329.2 = 0 then ((ductusref01_Ints.f k t285 (([97, 8235, 120, 121, 8236, 99] : List Int))).bind fun t336 => (if t336 = true then ((ductusref01_Ints.f k bt295.1 (([122, 8235, 8236] : List Int))).bind fun t340 => (if t340 = true then ((ductusref01_Ints.f k bt308.1 (([97, 8235, 98, 8236, 45, 99] : List Int))).bind fun t344 => (if t344 = true then (if (bt329.1.length : Int) = 2 then ((swap_Plain.f y276).bind fun t345 => ((ductusref01_Ints.f k t345 (([97, 98, 99] : List Int))).bind fun t351 => (some t351))) else (none)) else (none))) else (none))) else (none))) else (none)) else (none)) else (none)) else (none)) else (none))) else (none))))) = some r := by first | (rw [hy292]; with_reducible exact H) | (have H2_ := (Option.bind_some _ _).symm.trans H; rw [hy292]; with_reducible exact H2_) | (have H2_ := (Option.bind_some _ _).symm.trans H; with_reducible exact H2_) | with_reducible exact H | (rw [hy292]; exact H) | exact H
  have Ny292 := Aside0.mk hy292
  clear hy292
  replace H := Option.bind_eq_some_iff.mp H
  obtain ⟨⟨t295, t296⟩, A20, H⟩ := H
  replace H : ((swap_Some.f k y276 (([(⟨0, 1⟩ : S39), (⟨2, 2⟩ : S39)] : List (S39))) (([1] : List Int)) (([45] : List Int))).bind fun bt308 => ((swap_Some.f k y276 ([] : List (S39)) (([0] : List Int)) ([] : List Int)).bind fun bt315 => (if 1 ≤ (y276.length : Int) then ((swap_Bytes.f k (y276.take 1) (([(⟨0, 1⟩ : S39)] : List (S39))) (([1488] : List Int))).bind fun bt329 => (if t286 = 0 then (if t296 = 0 then (if bt308.2 = 0 then (if bt315.2 = 12 then (if bt329.2 = 0 then ((ductusref01_Ints.f k t285 (([97, 8235, 120, 121, 8236, 99] : List Int))).bind fun t336 => (if t336 = true then ((ductusref01_Ints.f k t295 (([122, 8235, 8236] : List Int))).bind fun t340 => (if t340 = true then ((ductusref01_Ints.f k bt308.1 (([97, 8235, 98, 8236, 45, 99] : List Int))).bind fun t344 => (if t344 = true then (if (bt329.1.length : Int) = 2 then ((swap_Plain.f y276).bind fun t345 => ((ductusref01_Ints.f k t345 (([97, 98, 99] : List Int))).bind fun t351 => (some t351))) else (none)) else (none))) else (none))) else (none))) else (none)) else (none)) else (none)) else (none)) else (none))) else (none)))) = some r := H
  have A2 := Aside0.mk A20
  clear A20
  obtain ⟨y299, hy299⟩ : ∃ y_ : List (S39), y_ = (([(⟨0, 1⟩ : S39), (⟨2, 2⟩ : S39)] : List (S39))) := ⟨_, rfl⟩
  replace H : ((swap_Some.f k y276 y299 (([1] : List Int)) (([45] : List Int))).bind fun bt308 => ((swap_Some.f k y276 ([] : List (S39)) (([0] : List Int)) ([] : List Int)).bind fun bt315 => (if 1 ≤ (y276.length : Int) then ((swap_Bytes.f k (y276.take 1) (([(⟨0, 1⟩ : S39)] : List (S39))) (([1488] : List Int))).bind fun bt329 => (if t286 = 0 then (if t296 = 0 then (if bt308.2 = 0 then (if bt315.2 = 12 then (if bt329.2 = 0 then ((ductusref01_Ints.f k t285 (([97, 8235, 120, 121, 8236, 99] : List Int))).bind fun t336 => (if t336 = true then ((ductusref01_Ints.f k t295 (([122, 8235, 8236] : List Int))).bind fun t340 => (if t340 = true then ((ductusref01_Ints.f k bt308.1 (([97, 8235, 98, 8236, 45, 99] : List Int))).bind fun t344 => (if t344 = true then (if (bt329.1.length : Int) = 2 then ((swap_Plain.f y276).bind fun t345 => ((ductusref01_Ints.f k t345 (([97, 98, 99] : List Int))).bind fun t351 => (some t351))) else (none)) else (none))) else (none))) else (none))) else (none)) else (none)) else (none)) else (none)) else (none))) else (none)))) = some r := by first | (rw [hy299]; with_reducible exact H) | (have H2_ := (Option.bind_some _ _).symm.trans H; rw [hy299]; with_reducible exact H2_) | (have H2_ := (Option.bind_some _ _).symm.trans H; with_reducible exact H2_) | with_reducible exact H | (rw [hy299]; exact H) | exact H
  have Ny299 := Aside0.mk hy299
  clear hy299
  obtain ⟨y302, hy302⟩ : ∃ y_ : List Int, y_ = (([1] : List Int)) := ⟨_, rfl⟩
  replace H : ((swap_Some.f k y276 y299 y302 (([45] : List Int))).bind fun bt308 => ((swap_Some.f k y276 ([] : List (S39)) (([0] : List Int)) ([] : List Int)).bind fun bt315 => (if 1 ≤ (y276.length : Int) then ((swap_Bytes.f k (y276.take 1) (([(⟨0, 1⟩ : S39)] : List (S39))) (([1488] : List Int))).bind fun bt329 => (if t286 = 0 then (if t296 = 0 then (if bt308.2 = 0 then (if bt315.2 = 12 then (if bt329.2 = 0 then ((ductusref01_Ints.f k t285 (([97, 8235, 120, 121, 8236, 99] : List Int))).bind fun t336 => (if t336 = true then ((ductusref01_Ints.f k t295 (([122, 8235, 8236] : List Int))).bind fun t340 => (if t340 = true then ((ductusref01_Ints.f k bt308.1 (([97, 8235, 98, 8236, 45, 99] : List Int))).bind fun t344 => (if t344 = true then (if (bt329.1.length : Int) = 2 then ((swap_Plain.f y276).bind fun t345 => ((ductusref01_Ints.f k t345 (([97, 98, 99] : List Int))).bind fun t351 => (some t351))) else (none)) else (none))) else (none))) else (none))) else (none)) else (none)) else (none)) else (none)) else (none))) else (none)))) = some r := by first | (rw [hy302]; with_reducible exact H) | (have H2_ := (Option.bind_some _ _).symm.trans H; rw [hy302]; with_reducible exact H2_) | (have H2_ := (Option.bind_some _ _).symm.trans H; with_reducible exact H2_) | with_reducible exact H | (rw [hy302]; exact H) | exact H
  have Ny302 := Aside0.mk hy302
  clear hy302
  obtain ⟨y305, hy305⟩ : ∃ y_ : List Int, y_ = (([45] : List Int)) := ⟨_, rfl⟩
  replace H : ((swap_Some.f k y276 y299 y302 y305).bind fun bt308 => ((swap_Some.f k y276 ([] : List (S39)) (([0] : List Int)) ([] : List Int)).bind fun bt315 => (if 1 ≤ (y276.length : Int) then ((swap_Bytes.f k (y276.take 1) (([(⟨0, 1⟩ : S39)] : List (S39))) (([1488] : List Int))).bind fun bt329 => (if t286 = 0 then (if t296 = 0 then (if bt308.2 = 0 then (if bt315.2 = 12 then (if bt329.2 = 0 then ((ductusref01_Ints.f k t285 (([97, 8235, 120, 121, 8236, 99] : List Int))).bind fun t336 => (if t336 = true then ((ductusref01_Ints.f k t295 (([122, 8235, 8236] : List Int))).bind fun t340 => (if t340 = true then ((ductusref01_Ints.f k bt308.1 (([97, 8235, 98, 8236, 45, 99] : List Int))).bind fun t344 => (if t344 = true then (if (bt329.1.length : Int) = 2 then ((swap_Plain.f y276).bind fun t345 => ((ductusref01_Ints.f k t345 (([97, 98, 99] : List Int))).bind fun t351 => (some t351))) else (none)) else (none))) else (none))) else (none))) else (none)) else (none)) else (none)) else (none)) else (none))) else (none)))) = some r := by first | (rw [hy305]; with_reducible exact H) | (have H2_ := (Option.bind_some _ _).symm.trans H; rw [hy305]; with_reducible exact H2_) | (have H2_ := (Option.bind_some _ _).symm.trans H; with_reducible exact H2_) | with_reducible exact H | (rw [hy305]; exact H) | exact H
  have Ny305 := Aside0.mk hy305
  clear hy305
  replace H := Option.bind_eq_some_iff.mp H
  obtain ⟨⟨t308, t309⟩, A30, H⟩ := H
  replace H : ((swap_Some.f k y276 ([] : List (S39)) (([0] : List Int)) ([] : List Int)).bind fun bt315 => (if 1 ≤ (y276.length : Int) then ((swap_Bytes.f k (y276.take 1) (([(⟨0, 1⟩ : S39)] : List (S39))) (([1488] : List Int))).bind fun bt329 => (if t286 = 0 then (if t296 = 0 then (if t309 = 0 then (if bt315.2 = 12 then (if bt329.2 = 0 then ((ductusref01_Ints.f k t285 (([97, 8235, 120, 121, 8236, 99] : List Int))).bind fun t336 => (if t336 = true then ((ductusref01_Ints.f k t295 (([122, 8235, 8236] : List Int))).bind fun t340 => (if t340 = true then ((ductusref01_Ints.f k t308 (([97, 8235, 98, 8236, 45, 99] : List Int))).bind fun t344 => (if t344 = true then (if (bt329.1.length : Int) = 2 then ((swap_Plain.f y276).bind fun t345 => ((ductusref01_Ints.f k t345 (([97, 98, 99] : List Int))).bind fun t351 => (some t351))) else (none)) else (none))) else (none))) else (none))) else (none)) else (none)) else (none)) else (none)) else (none))) else (none))) = some r := H
  have A3 := Aside0.mk A30
  clear A30
  obtain ⟨y312, hy312⟩ : ∃ y_ : List Int, y_ = (([0] : List Int)) := ⟨_, rfl⟩
  replace H : ((swap_Some.f k y276 ([] : List (S39)) y312 ([] : List Int)).bind fun bt315 => (if 1 ≤ (y276.length : Int) then ((swap_Bytes.f k (y276.take 1) (([(⟨0, 1⟩ : S39)] : List (S39))) (([1488] : List Int))).bind fun bt329 => (if t286 = 0 then (if t296 = 0 then (if t309 = 0 then (if bt315.2 = 12 then (if bt329.2 = 0 then ((ductusref01_Ints.f k t285 (([97, 8235, 120, 121, 8236, 99] : List Int))).bind fun t336 => (if t336 = true then ((ductusref01_Ints.f k t295 (([122, 8235, 8236] : List Int))).bind fun t340 => (if t340 = true then ((ductusref01_Ints.f k t308 (([97, 8235, 98, 8236, 45, 99] : List Int))).bind fun t344 => (if t344 = true then (if (bt329.1.length : Int) = 2 then ((swap_Plain.f y276).bind fun t345 => ((ductusref01_Ints.f k t345 (([97, 98, 99] : List Int))).bind fun t351 => (some t351))) else (none)) else (none))) else (none))) else (none))) else (none)) else (none)) else (none)) else (none)) else (none))) else (none))) = some r := by first | (rw [hy312]; with_reducible exact H) | (have H2_ := (Option.bind_some _ _).symm.trans H; rw [hy312]; with_reducible exact H2_) | (have H2_ := (Option.bind_some _ _).symm.trans H; with_reducible exact H2_) | with_reducible exact H | (rw [hy312]; exact H) | exact H
  have Ny312 := Aside0.mk hy312
  clear hy312
  replace H := Option.bind_eq_some_iff.mp H
  obtain ⟨⟨t315, t316⟩, A40, H⟩ := H
  replace H : (if 1 ≤ (y276.length : Int) then ((swap_Bytes.f k (y276.take 1) (([(⟨0, 1⟩ : S39)] : List (S39))) (([1488] : List Int))).bind fun bt329 => (if t286 = 0 then (if t296 = 0 then (if t309 = 0 then (if t316 = 12 then (if bt329.2 = 0 then ((ductusref01_Ints.f k t285 (([97, 8235, 120, 121, 8236, 99] : List Int))).bind fun t336 => (if t336 = true then ((ductusref01_Ints.f k t295 (([122, 8235, 8236] : List Int))).bind fun t340 => (if t340 = true then ((ductusref01_Ints.f k t308 (([97, 8235, 98, 8236, 45, 99] : List Int))).bind fun t344 => (if t344 = true then (if (bt329.1.length : Int) = 2 then ((swap_Plain.f y276).bind fun t345 => ((ductusref01_Ints.f k t345 (([97, 98, 99] : List Int))).bind fun t351 => (some t351))) else (none)) else (none))) else (none))) else (none))) else (none)) else (none)) else (none)) else (none)) else (none))) else (none)) = some r := H
  have A4 := Aside0.mk A40
  clear A40
  by_cases c5 : 1 ≤ (y276.length : Int)
  rotate_left
  · rw [if_neg c5] at H
    exact absurd H (by simp)
  rw [if_pos c5] at H
  have c5b0 := eq_true c5
  have c5b1 : decide (1 ≤ (y276.length : Int)) = true := decide_eq_true c5
  clear c5
  obtain ⟨y319, hy319⟩ : ∃ y_ : List Int, y_ = (y276.take 1) := ⟨_, rfl⟩
  replace H : ((swap_Bytes.f k y319 (([(⟨0, 1⟩ : S39)] : List (S39))) (([1488] : List Int))).bind fun bt329 => (if t286 = 0 then (if t296 = 0 then (if t309 = 0 then (if t316 = 12 then (if bt329.2 = 0 then ((ductusref01_Ints.f k t285 (([97, 8235, 120, 121, 8236, 99] : List Int))).bind fun t336 => (if t336 = true then ((ductusref01_Ints.f k t295 (([122, 8235, 8236] : List Int))).bind fun t340 => (if t340 = true then ((ductusref01_Ints.f k t308 (([97, 8235, 98, 8236, 45, 99] : List Int))).bind fun t344 => (if t344 = true then (if (bt329.1.length : Int) = 2 then ((swap_Plain.f y276).bind fun t345 => ((ductusref01_Ints.f k t345 (([97, 98, 99] : List Int))).bind fun t351 => (some t351))) else (none)) else (none))) else (none))) else (none))) else (none)) else (none)) else (none)) else (none)) else (none))) = some r := by first | (rw [hy319]; with_reducible exact H) | (have H2_ := (Option.bind_some _ _).symm.trans H; rw [hy319]; with_reducible exact H2_) | (have H2_ := (Option.bind_some _ _).symm.trans H; with_reducible exact H2_) | with_reducible exact H | (rw [hy319]; exact H) | exact H
  have Ny319 := Aside0.mk hy319
  clear hy319
  obtain ⟨y323, hy323⟩ : ∃ y_ : List (S39), y_ = (([(⟨0, 1⟩ : S39)] : List (S39))) := ⟨_, rfl⟩
  replace H : ((swap_Bytes.f k y319 y323 (([1488] : List Int))).bind fun bt329 => (if t286 = 0 then (if t296 = 0 then (if t309 = 0 then (if t316 = 12 then (if bt329.2 = 0 then ((ductusref01_Ints.f k t285 (([97, 8235, 120, 121, 8236, 99] : List Int))).bind fun t336 => (if t336 = true then ((ductusref01_Ints.f k t295 (([122, 8235, 8236] : List Int))).bind fun t340 => (if t340 = true then ((ductusref01_Ints.f k t308 (([97, 8235, 98, 8236, 45, 99] : List Int))).bind fun t344 => (if t344 = true then (if (bt329.1.length : Int) = 2 then ((swap_Plain.f y276).bind fun t345 => ((ductusref01_Ints.f k t345 (([97, 98, 99] : List Int))).bind fun t351 => (some t351))) else (none)) else (none))) else (none))) else (none))) else (none)) else (none)) else (none)) else (none)) else (none))) = some r := by first | (rw [hy323]; with_reducible exact H) | (have H2_ := (Option.bind_some _ _).symm.trans H; rw [hy323]; with_reducible exact H2_) | (have H2_ := (Option.bind_some _ _).symm.trans H; with_reducible exact H2_) | with_reducible exact H | (rw [hy323]; exact H) | exact H
  have Ny323 := Aside0.mk hy323
  clear hy323
  obtain ⟨y326, hy326⟩ : ∃ y_ : List Int, y_ = (([1488] : List Int)) := ⟨_, rfl⟩
  replace H : ((swap_Bytes.f k y319 y323 y326).bind fun bt329 => (if t286 = 0 then (if t296 = 0 then (if t309 = 0 then (if t316 = 12 then (if bt329.2 = 0 then ((ductusref01_Ints.f k t285 (([97, 8235, 120, 121, 8236, 99] : List Int))).bind fun t336 => (if t336 = true then ((ductusref01_Ints.f k t295 (([122, 8235, 8236] : List Int))).bind fun t340 => (if t340 = true then ((ductusref01_Ints.f k t308 (([97, 8235, 98, 8236, 45, 99] : List Int))).bind fun t344 => (if t344 = true then (if (bt329.1.length : Int) = 2 then ((swap_Plain.f y276).bind fun t345 => ((ductusref01_Ints.f k t345 (([97, 98, 99] : List Int))).bind fun t351 => (some t351))) else (none)) else (none))) else (none))) else (none))) else (none)) else (none)) else (none)) else (none)) else (none))) = some r := by first | (rw [hy326]; with_reducible exact H) | (have H2_ := (Option.bind_some _ _).symm.trans H; rw [hy326]; with_reducible exact H2_) | (have H2_ := (Option.bind_some _ _).symm.trans H; with_reducible exact H2_) | with_reducible exact H | (rw [hy326]; exact H) | exact H
  have Ny326 := Aside0.mk hy326
  clear hy326
  replace H := Option.bind_eq_some_iff.mp H
  obtain ⟨⟨t329, t330⟩, A60, H⟩ := H
  replace H : (if t286 = 0 then (if t296 = 0 then (if t309 = 0 then (if t316 = 12 then (if t330 = 0 then ((ductusref01_Ints.f k t285 (([97, 8235, 120, 121, 8236, 99] : List Int))).bind fun t336 => (if t336 = true then ((ductusref01_Ints.f k t295 (([122, 8235, 8236] : List Int))).bind fun t340 => (if t340 = true then ((ductusref01_Ints.f k t308 (([97, 8235, 98, 8236, 45, 99] : List Int))).bind fun t344 => (if t344 = true then (if (t329.length : Int) = 2 then ((swap_Plain.f y276).bind fun t345 => ((ductusref01_Ints.f k t345 (([97, 98, 99] : List Int))).bind fun t351 => (some t351))) else (none)) else (none))) else (none))) else (none))) else (none)) else (none)) else (none)) else (none)) else (none)) = some r := H
  have A6 := Aside0.mk A60
  clear A60
  by_cases c7 : t286 = 0
  rotate_left
  · rw [if_neg c7] at H
    exact absurd H (by simp)
  rw [if_pos c7] at H
  have c7b0 : (t286 == 0) = true := beq_iff_eq.mpr c7
  have c7b1 : (t286 != 0) = false := bne_eq_false_iff_eq.mpr c7
  clear c7
  by_cases c8 : t296 = 0
  rotate_left
  · rw [if_neg c8] at H
    exact absurd H (by simp)
  rw [if_pos c8] at H
  have c8b0 : (t296 == 0) = true := beq_iff_eq.mpr c8
  have c8b1 : (t296 != 0) = false := bne_eq_false_iff_eq.mpr c8
  clear c8
  by_cases c9 : t309 = 0
  rotate_left
  · rw [if_neg c9] at H
    exact absurd H (by simp)
  rw [if_pos c9] at H
  have c9b0 : (t309 == 0) = true := beq_iff_eq.mpr c9
  have c9b1 : (t309 != 0) = false := bne_eq_false_iff_eq.mpr c9
  clear c9
  by_cases c10 : t316 = 12
  rotate_left
  · rw [if_neg c10] at H
    exact absurd H (by simp)
  rw [if_pos c10] at H
  have c10b0 : (t316 == 12) = true := beq_iff_eq.mpr c10
  have c10b1 : (t316 != 12) = false := bne_eq_false_iff_eq.mpr c10
  clear c10
  by_cases c11 : t330 = 0
  rotate_left
  · rw [if_neg c11] at H
    exact absurd H (by simp)
  rw [if_pos c11] at H
  have c11b0 : (t330 == 0) = true := beq_iff_eq.mpr c11
  have c11b1 : (t330 != 0) = false := bne_eq_false_iff_eq.mpr c11
  clear c11
  obtain ⟨y333, hy333⟩ : ∃ y_ : List Int, y_ = (([97, 8235, 120, 121, 8236, 99] : List Int)) := ⟨_, rfl⟩
  replace H : ((ductusref01_Ints.f k t285 y333).bind fun t336 => (if t336 = true then ((ductusref01_Ints.f k t295 (([122, 8235, 8236] : List Int))).bind fun t340 => (if t340 = true then ((ductusref01_Ints.f k t308 (([97, 8235, 98, 8236, 45, 99] : List Int))).bind fun t344 => (if t344 = true then (if (t329.length : Int) = 2 then ((swap_Plain.f y276).bind fun t345 => ((ductusref01_Ints.f k t345 (([97, 98, 99] : List Int))).bind fun t351 => (some t351))) else (none)) else (none))) else (none))) else (none))) = some r := by first | (rw [hy333]; with_reducible exact H) | (have H2_ := (Option.bind_some _ _).symm.trans H; rw [hy333]; with_reducible exact H2_) | (have H2_ := (Option.bind_some _ _).symm.trans H; with_reducible exact H2_) | with_reducible exact H | (rw [hy333]; exact H) | exact H
  have Ny333 := Aside0.mk hy333
  clear hy333
  replace H := Option.bind_eq_some_iff.mp H
  obtain ⟨t336, A120, H⟩ := H
  replace H : (if t336 = true then ((ductusref01_Ints.f k t295 (([122, 8235, 8236] : List Int))).bind fun t340 => (if t340 = true then ((ductusref01_Ints.f k t308 (([97, 8235, 98, 8236, 45, 99] : List Int))).bind fun t344 => (if t344 = true then (if (t329.length : Int) = 2 then ((swap_Plain.f y276).bind fun t345 => ((ductusref01_Ints.f k t345 (([97, 98, 99] : List Int))).bind fun t351 => (some t351))) else (none)) else (none))) else (none))) else (none)) = some r := H
  have A12 := Aside0.mk A120
  clear A120
  by_cases c13 : t336 = true
  rotate_left
  · replace c13 := Bool.eq_false_iff.mpr c13
    subst c13
    have H1 : (none) = some r := by rw [if_neg (show ¬ (false = true) by decide)] at H; exact H
    clear H
    have H := H1
    clear H1
    exact absurd H (by simp)
  subst c13
  have H1 : ((ductusref01_Ints.f k t295 (([122, 8235, 8236] : List Int))).bind fun t340 => (if t340 = true then ((ductusref01_Ints.f k t308 (([97, 8235, 98, 8236, 45, 99] : List Int))).bind fun t344 => (if t344 = true then (if (t329.length : Int) = 2 then ((swap_Plain.f y276).bind fun t345 => ((ductusref01_Ints.f k t345 (([97, 98, 99] : List Int))).bind fun t351 => (some t351))) else (none)) else (none))) else (none))) = some r := by rw [if_pos rfl] at H; exact H
  clear H
  have H := H1
  clear H1
  obtain ⟨y337, hy337⟩ : ∃ y_ : List Int, y_ = (([122, 8235, 8236] : List Int)) := ⟨_, rfl⟩
  replace H : ((ductusref01_Ints.f k t295 y337).bind fun t340 => (if t340 = true then ((ductusref01_Ints.f k t308 (([97, 8235, 98, 8236, 45, 99] : List Int))).bind fun t344 => (if t344 = true then (if (t329.length : Int) = 2 then ((swap_Plain.f y276).bind fun t345 => ((ductusref01_Ints.f k t345 (([97, 98, 99] : List Int))).bind fun t351 => (some t351))) else (none)) else (none))) else (none))) = some r := by first | (rw [hy337]; with_reducible exact H) | (have H2_ := (Option.bind_some _ _).symm.trans H; rw [hy337]; with_reducible exact H2_) | (have H2_ := (Option.bind_some _ _).symm.trans H; with_reducible exact H2_) | with_reducible exact H | (rw [hy337]; exact H) | exact H
  have Ny337 := Aside0.mk hy337
  clear hy337
  replace H := Option.bind_eq_some_iff.mp H
  obtain ⟨t340, A140, H⟩ := H
  replace H : (if t340 = true then ((ductusref01_Ints.f k t308 (([97, 8235, 98, 8236, 45, 99] : List Int))).bind fun t344 => (if t344 = true then (if (t329.length : Int) = 2 then ((swap_Plain.f y276).bind fun t345 => ((ductusref01_Ints.f k t345 (([97, 98, 99] : List Int))).bind fun t351 => (some t351))) else (none)) else (none))) else (none)) = some r := H
  have A14 := Aside0.mk A140
  clear A140
  by_cases c15 : t340 = true
  rotate_left
  · replace c15 := Bool.eq_false_iff.mpr c15
    subst c15
    have H1 : (none) = some r := by rw [if_neg (show ¬ (false = true) by decide)] at H; exact H
    clear H
    have H := H1
    clear H1
    exact absurd H (by simp)
  subst c15
  have H1 : ((ductusref01_Ints.f k t308 (([97, 8235, 98, 8236, 45, 99] : List Int))).bind fun t344 => (if t344 = true then (if (t329.length : Int) = 2 then ((swap_Plain.f y276).bind fun t345 => ((ductusref01_Ints.f k t345 (([97, 98, 99] : List Int))).bind fun t351 => (some t351))) else (none)) else (none))) = some r := by rw [if_pos rfl] at H; exact H
  clear H
  have H := H1
  clear H1
  obtain ⟨y341, hy341⟩ : ∃ y_ : List Int, y_ = (([97, 8235, 98, 8236, 45, 99] : List Int)) := ⟨_, rfl⟩
  replace H : ((ductusref01_Ints.f k t308 y341).bind fun t344 => (if t344 = true then (if (t329.length : Int) = 2 then ((swap_Plain.f y276).bind fun t345 => ((ductusref01_Ints.f k t345 (([97, 98, 99] : List Int))).bind fun t351 => (some t351))) else (none)) else (none))) = some r := by first | (rw [hy341]; with_reducible exact H) | (have H2_ := (Option.bind_some _ _).symm.trans H; rw [hy341]; with_reducible exact H2_) | (have H2_ := (Option.bind_some _ _).symm.trans H; with_reducible exact H2_) | with_reducible exact H | (rw [hy341]; exact H) | exact H
  have Ny341 := Aside0.mk hy341
  clear hy341
  replace H := Option.bind_eq_some_iff.mp H
  obtain ⟨t344, A160, H⟩ := H
  replace H : (if t344 = true then (if (t329.length : Int) = 2 then ((swap_Plain.f y276).bind fun t345 => ((ductusref01_Ints.f k t345 (([97, 98, 99] : List Int))).bind fun t351 => (some t351))) else (none)) else (none)) = some r := H
  have A16 := Aside0.mk A160
  clear A160
  by_cases c17 : t344 = true
  rotate_left
  · replace c17 := Bool.eq_false_iff.mpr c17
    subst c17
    have H1 : (none) = some r := by rw [if_neg (show ¬ (false = true) by decide)] at H; exact H
    clear H
    have H := H1
    clear H1
    exact absurd H (by simp)
  subst c17
  have H1 : (if (t329.length : Int) = 2 then ((swap_Plain.f y276).bind fun t345 => ((ductusref01_Ints.f k t345 (([97, 98, 99] : List Int))).bind fun t351 => (some t351))) else (none)) = some r := by rw [if_pos rfl] at H; exact H
  clear H
  have H := H1
  clear H1
  by_cases c18 : (t329.length : Int) = 2
  rotate_left
  · rw [if_neg c18] at H
    exact absurd H (by simp)
  rw [if_pos c18] at H
  have c18b0 : ((t329.length : Int) == 2) = true := beq_iff_eq.mpr c18
  have c18b1 : ((t329.length : Int) != 2) = false := bne_eq_false_iff_eq.mpr c18
  clear c18
  replace H := Option.bind_eq_some_iff.mp H
  obtain ⟨t345, A190, H⟩ := H
  replace H : ((ductusref01_Ints.f k t345 (([97, 98, 99] : List Int))).bind fun t351 => (some t351)) = some r := H
  have A19 := Aside0.mk A190
  clear A190
  obtain ⟨y348, hy348⟩ : ∃ y_ : List Int, y_ = (([97, 98, 99] : List Int)) := ⟨_, rfl⟩
  replace H : ((ductusref01_Ints.f k t345 y348).bind fun t351 => (some t351)) = some r := by first | (rw [hy348]; with_reducible exact H) | (have H2_ := (Option.bind_some _ _).symm.trans H; rw [hy348]; with_reducible exact H2_) | (have H2_ := (Option.bind_some _ _).symm.trans H; with_reducible exact H2_) | with_reducible exact H | (rw [hy348]; exact H) | exact H
  have Ny348 := Aside0.mk hy348
  clear hy348
  replace H := Option.bind_eq_some_iff.mp H
  obtain ⟨t351, A200, H⟩ := H
  replace H : (some t351) = some r := H
  have A20 := Aside0.mk A200
  clear A200
  obtain rfl := Option.some.inj H
  go_enter Try.func8, Try.ntmps8
  go_upto_region 7 with (first | ((with_reducible refine gate_dst (N := 12) rfl ?_); (try (refine gate_guard (by rfl) ?_; dsimp only)); refine Kd.R_lit (Kd.int .i64) _ 3 ?hg (N := 12) ?hd (xs := ([97, 8235, 98, 8236, 99] : List Int)) (inner := [.int .i64 97, .int .i64 8235, .int .i64 98, .int .i64 8236, .int .i64 99]) (ok := fun _ => True) (okp := fun _ => True) ?hr ?hp (fun _ hk => hk) trivial (Below.refl _ _) (Nat.le_refl _) (by simp) ?_; (case hd => rfl); (case hg => rfl); (case hr => first | (go_simp; done) | (go_simp; rfl)); (case hp => exact (Reps.one (show Kd.M (Kd.int .i64) _ _ _ 97 [.int .i64 97] from rfl) (Reps.one (show Kd.M (Kd.int .i64) _ _ _ 8235 [.int .i64 8235] from rfl) (Reps.one (show Kd.M (Kd.int .i64) _ _ _ 98 [.int .i64 98] from rfl) (Reps.one (show Kd.M (Kd.int .i64) _ _ _ 8236 [.int .i64 8236] from rfl) (Reps.one (show Kd.M (Kd.int .i64) _ _ _ 99 [.int .i64 99] from rfl) (Reps.none _ _))))))); intro v277 w21 ho22 hb hg_ hnew_; clear hg_ hnew_; (first | rw [← Ny276.out] at ho22 | (simp only [Int.reduceToNat] at ho22; rw [← Ny276.out] at ho22)); have n0_ := Aside0.mk (Kd.R_lower ho22 (below_size (by repeat (first | (with_reducible first | exact HB.out | apply below_alloc | apply pw_below_drewN | apply below_drew1) | exact HB.out)))); have n1_ := Aside0.mk (below_step (by repeat (first | (with_reducible first | exact HB.out | apply below_alloc | apply pw_below_drewN | apply below_drew1) | exact HB.out)) hb); clear HB; have HO278 := n0_; have HB := n1_; clear n0_ n1_; clear hb ho22) | ((with_reducible refine gate_dst (N := 16) rfl ?_); (try (refine gate_guard (by rfl) ?_; dsimp only)); refine Kd.R_lit k39 _ 39 ?hg (N := 16) ?hd (xs := ([(⟨1, 2⟩ : S39)] : List (S39))) (inner := [.int .i64 1, .int .i64 2]) (ok := fun _ => True) (okp := fun _ => True) ?hr ?hp (fun _ hk => hk) trivial (Below.refl _ _) (Nat.le_refl _) (by simp) ?_; (case hd => rfl); (case hg => rfl); (case hr => first | (go_simp; done) | (go_simp; rfl)); (case hp => exact (Reps.c2 (show Kd.M k39 _ _ _ (⟨1, 2⟩ : S39) [.int .i64 1, .int .i64 2] from (k39_mkM _ _ _ (⟨1, 2⟩ : S39) )) (Reps.none _ _))); intro v280 w23 ho24 hb hg_ hnew_; clear hg_ hnew_; (first | rw [← Ny279.out] at ho24 | (simp only [Int.reduceToNat] at ho24; rw [← Ny279.out] at ho24)); have n0_ := Aside0.mk (Kd.R_below (by (with_reducible repeat (first | apply Kd.R_alloc | apply Kd.R_drewN | apply Kd.R_drew)); exact HO278.out) hb); have n1_ := Aside0.mk (Kd.R_lower ho24 (below_size (by repeat (first | (with_reducible first | exact HB.out | apply below_alloc | apply pw_below_drewN | apply below_drew1) | exact HB.out)))); have n2_ := Aside0.mk (below_step (by repeat (first | (with_reducible first | exact HB.out | apply below_alloc | apply pw_below_drewN | apply below_drew1) | exact HB.out)) hb); clear HO278; clear HB; have HO278 := n0_; have HO281 := n1_; have HB := n2_; clear n0_ n1_ n2_; clear hb ho24) | ((with_reducible refine gate_dst (N := 17) rfl ?_); (try (refine gate_guard (by rfl) ?_; dsimp only)); refine Kd.R_lit (Kd.int .i64) _ 3 ?hg (N := 17) ?hd (xs := ([120, 8295, 121] : List Int)) (inner := [.int .i64 120, .int .i64 8295, .int .i64 121]) (ok := fun _ => True) (okp := fun _ => True) ?hr ?hp (fun _ hk => hk) trivial (Below.refl _ _) (Nat.le_refl _) (by simp) ?_; (case hd => rfl); (case hg => rfl); (case hr => first | (go_simp; done) | (go_simp; rfl)); (case hp => exact (Reps.one (show Kd.M (Kd.int .i64) _ _ _ 120 [.int .i64 120] from rfl) (Reps.one (show Kd.M (Kd.int .i64) _ _ _ 8295 [.int .i64 8295] from rfl) (Reps.one (show Kd.M (Kd.int .i64) _ _ _ 121 [.int .i64 121] from rfl) (Reps.none _ _))))); intro v283 w25 ho26 hb hg_ hnew_; clear hg_ hnew_; (first | rw [← Ny282.out] at ho26 | (simp only [Int.reduceToNat] at ho26; rw [← Ny282.out] at ho26)); have n0_ := Aside0.mk (Kd.R_elder' (by (with_reducible repeat (first | apply Kd.R_alloc | apply Kd.R_drewN | apply Kd.R_drew)); exact HO278.out) (Kd.R_base ho26) hb); have n1_ := Aside0.mk (Kd.R_below (by (with_reducible repeat (first | apply Kd.R_alloc | apply Kd.R_drewN | apply Kd.R_drew)); exact HO281.out) hb); have n2_ := Aside0.mk (Kd.R_lower (Kd.R_new' ho26 (Kd.R_lt (by (with_reducible repeat (first | apply Kd.R_alloc | apply Kd.R_drewN | apply Kd.R_drew)); exact HO278.out))) (below_size (by repeat (first | (with_reducible first | exact HB.out | apply below_alloc | apply pw_below_drewN | apply below_drew1) | exact HB.out)))); have n3_ := Aside0.mk (below_step (by repeat (first | (with_reducible first | exact HB.out | apply below_alloc | apply pw_below_drewN | apply below_drew1) | exact HB.out)) hb); clear HO278; clear HO281; clear HB; have HO278 := n0_; have HO281 := n1_; have HO284 := n2_; have HB := n3_; clear n0_ n1_ n2_ n3_; clear hb ho26; obtain ⟨Ao27, co27, eo27⟩ := Kd.R_slice HO278.out; subst eo27; obtain ⟨Ao28, co28, eo28⟩ := Kd.R_slice HO281.out; subst eo28; obtain ⟨Ao29, co29, eo29⟩ := Kd.R_slice HO284.out; subst eo29) | ((with_reducible refine gate_callee (f := 10) rfl ?_); refine goesL_ (some 18) rfl rfl Try.func10 (by kernel_rfl) rfl #[.slice Ao27 y276.length co27, .slice Ao28 y279.length co28, .slice Ao29 y282.length co29] rfl (by (try simp only [List.map_toArray, List.map_cons, List.map_nil]); first | done | rfl | (simp only [List.length_drop, List.length_take]; rfl)) ?_; (with_reducible refine (swap_All.calls k _ _ y276 _ _ y279 _ _ y282 t285 t286 _ ?side1 ?side2 ?side3 ?side4 ?side5 ?side6 A1.out).mono ?_); (case side1 => repeat (first | exact (Kd.R_reads' HO278.out).2.2 | (with_reducible refine Kd.C_alloc ?_ _) | (with_reducible refine Kd.C_drewN ?_ _) | (with_reducible refine Kd.C_drew ?_))); (case side2 => exact (Kd.R_reads' HO278.out).2.1); (case side3 => repeat (first | exact (Kd.R_reads' HO281.out).2.2 | (with_reducible refine Kd.C_alloc ?_ _) | (with_reducible refine Kd.C_drewN ?_ _) | (with_reducible refine Kd.C_drew ?_))); (case side4 => exact (Kd.R_reads' HO281.out).2.1); (case side5 => repeat (first | exact (Kd.R_reads' HO284.out).2.2 | (with_reducible refine Kd.C_alloc ?_ _) | (with_reducible refine Kd.C_drewN ?_ _) | (with_reducible refine Kd.C_drew ?_))); (case side6 => exact (Kd.R_reads' HO284.out).2.1); rintro e w30 ⟨v287, rfl, ho0, hb⟩; refine ⟨_, rfl, ?_⟩; have n0_ := Aside0.mk (Kd.R_elder' (by (with_reducible repeat (first | apply Kd.R_alloc | apply Kd.R_drewN | apply Kd.R_drew)); exact HO278.out) (Kd.R_base ho0) hb); have n1_ := Aside0.mk (Kd.R_below (by (with_reducible repeat (first | apply Kd.R_alloc | apply Kd.R_drewN | apply Kd.R_drew)); exact HO281.out) hb); have n2_ := Aside0.mk (Kd.R_elder' (by (with_reducible repeat (first | apply Kd.R_alloc | apply Kd.R_drewN | apply Kd.R_drew)); exact HO284.out) (Kd.R_base ho0) hb); have n3_ := Aside0.mk (Kd.R_lower (Kd.R_new' (Kd.R_new' ho0 (Kd.R_lt (by (with_reducible repeat (first | apply Kd.R_alloc | apply Kd.R_drewN | apply Kd.R_drew)); exact HO278.out))) (Kd.R_lt (by (with_reducible repeat (first | apply Kd.R_alloc | apply Kd.R_drewN | apply Kd.R_drew)); exact HO284.out))) (below_size (by repeat (first | (with_reducible first | exact HB.out | apply below_alloc | apply pw_below_drewN | apply below_drew1) | exact HB.out)))); have n4_ := Aside0.mk (below_step (by repeat (first | (with_reducible first | exact HB.out | apply below_alloc | apply pw_below_drewN | apply below_drew1) | exact HB.out)) hb); clear HO278; clear HO281; clear HO284; clear HB; have HO278 := n0_; have HO281 := n1_; have HO284 := n2_; have HO288 := n3_; have HB := n4_; clear n0_ n1_ n2_ n3_ n4_; (try clear hb); (try clear hb2); (try clear hk); (try clear hi); (try clear ho0)) | ((with_reducible refine gate_dst (N := 24) rfl ?_); (try (refine gate_guard (by rfl) ?_; dsimp only)); refine Kd.R_lit k39 _ 39 ?hg (N := 24) ?hd (xs := ([(⟨0, 3⟩ : S39)] : List (S39))) (inner := [.int .i64 0, .int .i64 3]) (ok := fun _ => True) (okp := fun _ => True) ?hr ?hp (fun _ hk => hk) trivial (Below.refl _ _) (Nat.le_refl _) (by simp) ?_; (case hd => rfl); (case hg => rfl); (case hr => first | (go_simp; done) | (go_simp; rfl)); (case hp => exact (Reps.c2 (show Kd.M k39 _ _ _ (⟨0, 3⟩ : S39) [.int .i64 0, .int .i64 3] from (k39_mkM _ _ _ (⟨0, 3⟩ : S39) )) (Reps.none _ _))); intro v290 w31 ho32 hb hg_ hnew_; clear hg_ hnew_; (first | rw [← Ny289.out] at ho32 | (simp only [Int.reduceToNat] at ho32; rw [← Ny289.out] at ho32)); have n0_ := Aside0.mk (Kd.R_below (by (with_reducible repeat (first | apply Kd.R_alloc | apply Kd.R_drewN | apply Kd.R_drew)); exact HO278.out) hb); have n1_ := Aside0.mk (Kd.R_elder' (by (with_reducible repeat (first | apply Kd.R_alloc | apply Kd.R_drewN | apply Kd.R_drew)); exact HO281.out) (Kd.R_base ho32) hb); have n2_ := Aside0.mk (Kd.R_below (by (with_reducible repeat (first | apply Kd.R_alloc | apply Kd.R_drewN | apply Kd.R_drew)); exact HO284.out) hb); have n3_ := Aside0.mk (Kd.R_below (by (with_reducible repeat (first | apply Kd.R_alloc | apply Kd.R_drewN | apply Kd.R_drew)); exact HO288.out) hb); have n4_ := Aside0.mk (Kd.R_lower (Kd.R_new' ho32 (Kd.R_lt (by (with_reducible repeat (first | apply Kd.R_alloc | apply Kd.R_drewN | apply Kd.R_drew)); exact HO281.out))) (below_size (by repeat (first | (with_reducible first | exact HB.out | apply below_alloc | apply pw_below_drewN | apply below_drew1) | exact HB.out)))); have n5_ := Aside0.mk (below_step (by repeat (first | (with_reducible first | exact HB.out | apply below_alloc | apply pw_below_drewN | apply below_drew1) | exact HB.out)) hb); clear HO278; clear HO281; clear HO284; clear HO288; clear HB; have HO278 := n0_; have HO281 := n1_; have HO284 := n2_; have HO288 := n3_; have HO291 := n4_; have HB := n5_; clear n0_ n1_ n2_ n3_ n4_ n5_; clear hb ho32) | ((with_reducible refine gate_dst (N := 25) rfl ?_); (try (refine gate_guard (by rfl) ?_; dsimp only)); refine Kd.R_lit (Kd.int .i64) _ 3 ?hg (N := 25) ?hd (xs := ([122] : List Int)) (inner := [.int .i64 122]) (ok := fun _ => True) (okp := fun _ => True) ?hr ?hp (fun _ hk => hk) trivial (Below.refl _ _) (Nat.le_refl _) (by simp) ?_; (case hd => rfl); (case hg => rfl); (case hr => first | (go_simp; done) | (go_simp; rfl)); (case hp => exact (Reps.one (show Kd.M (Kd.int .i64) _ _ _ 122 [.int .i64 122] from rfl) (Reps.none _ _))); intro v293 w33 ho34 hb hg_ hnew_; clear hg_ hnew_; (first | rw [← Ny292.out] at ho34 | (simp only [Int.reduceToNat] at ho34; rw [← Ny292.out] at ho34)); have n0_ := Aside0.mk (Kd.R_elder' (by (with_reducible repeat (first | apply Kd.R_alloc | apply Kd.R_drewN | apply Kd.R_drew)); exact HO278.out) (Kd.R_base ho34) hb); have n1_ := Aside0.mk (Kd.R_below (by (with_reducible repeat (first | apply Kd.R_alloc | apply Kd.R_drewN | apply Kd.R_drew)); exact HO281.out) hb); have n2_ := Aside0.mk (Kd.R_elder' (by (with_reducible repeat (first | apply Kd.R_alloc | apply Kd.R_drewN | apply Kd.R_drew)); exact HO284.out) (Kd.R_base ho34) hb); have n3_ := Aside0.mk (Kd.R_elder' (by (with_reducible repeat (first | apply Kd.R_alloc | apply Kd.R_drewN | apply Kd.R_drew)); exact HO288.out) (Kd.R_base ho34) hb); have n4_ := Aside0.mk (Kd.R_below (by (with_reducible repeat (first | apply Kd.R_alloc | apply Kd.R_drewN | apply Kd.R_drew)); exact HO291.out) hb); have n5_ := Aside0.mk (Kd.R_lower (Kd.R_new' (Kd.R_new' (Kd.R_new' ho34 (Kd.R_lt (by (with_reducible repeat (first | apply Kd.R_alloc | apply Kd.R_drewN | apply Kd.R_drew)); exact HO278.out))) (Kd.R_lt (by (with_reducible repeat (first | apply Kd.R_alloc | apply Kd.R_drewN | apply Kd.R_drew)); exact HO284.out))) (Kd.R_lt (by (with_reducible repeat (first | apply Kd.R_alloc | apply Kd.R_drewN | apply Kd.R_drew)); exact HO288.out))) (below_size (by repeat (first | (with_reducible first | exact HB.out | apply below_alloc | apply pw_below_drewN | apply below_drew1) | exact HB.out)))); have n6_ := Aside0.mk (below_step (by repeat (first | (with_reducible first | exact HB.out | apply below_alloc | apply pw_below_drewN | apply below_drew1) | exact HB.out)) hb); clear HO278; clear HO281; clear HO284; clear HO288; clear HO291; clear HB; have HO278 := n0_; have HO281 := n1_; have HO284 := n2_; have HO288 := n3_; have HO291 := n4_; have HO294 := n5_; have HB := n6_; clear n0_ n1_ n2_ n3_ n4_ n5_ n6_; clear hb ho34; obtain ⟨Ao35, co35, eo35⟩ := Kd.R_slice HO291.out; subst eo35; obtain ⟨Ao36, co36, eo36⟩ := Kd.R_slice HO294.out; subst eo36) | ((with_reducible refine gate_callee (f := 10) rfl ?_); refine goesL_ (some 26) rfl rfl Try.func10 (by kernel_rfl) rfl #[.slice Ao27 y276.length co27, .slice Ao35 y289.length co35, .slice Ao36 y292.length co36] rfl (by (try simp only [List.map_toArray, List.map_cons, List.map_nil]); first | done | rfl | (simp only [List.length_drop, List.length_take]; rfl)) ?_; (with_reducible refine (swap_All.calls k _ _ y276 _ _ y289 _ _ y292 t295 t296 _ ?side1 ?side2 ?side3 ?side4 ?side5 ?side6 A2.out).mono ?_); (case side1 => repeat (first | exact (Kd.R_reads' HO278.out).2.2 | (with_reducible refine Kd.C_alloc ?_ _) | (with_reducible refine Kd.C_drewN ?_ _) | (with_reducible refine Kd.C_drew ?_))); (case side2 => exact (Kd.R_reads' HO278.out).2.1); (case side3 => repeat (first | exact (Kd.R_reads' HO291.out).2.2 | (with_reducible refine Kd.C_alloc ?_ _) | (with_reducible refine Kd.C_drewN ?_ _) | (with_reducible refine Kd.C_drew ?_))); (case side4 => exact (Kd.R_reads' HO291.out).2.1); (case side5 => repeat (first | exact (Kd.R_reads' HO294.out).2.2 | (with_reducible refine Kd.C_alloc ?_ _) | (with_reducible refine Kd.C_drewN ?_ _) | (with_reducible refine Kd.C_drew ?_))); (case side6 => exact (Kd.R_reads' HO294.out).2.1); rintro e w37 ⟨v297, rfl, ho0, hb⟩; refine ⟨_, rfl, ?_⟩; have n0_ := Aside0.mk (Kd.R_elder' (by (with_reducible repeat (first | apply Kd.R_alloc | apply Kd.R_drewN | apply Kd.R_drew)); exact HO278.out) (Kd.R_base ho0) hb); have n1_ := Aside0.mk (Kd.R_below (by (with_reducible repeat (first | apply Kd.R_alloc | apply Kd.R_drewN | apply Kd.R_drew)); exact HO281.out) hb); have n2_ := Aside0.mk (Kd.R_elder' (by (with_reducible repeat (first | apply Kd.R_alloc | apply Kd.R_drewN | apply Kd.R_drew)); exact HO284.out) (Kd.R_base ho0) hb); have n3_ := Aside0.mk (Kd.R_elder' (by (with_reducible repeat (first | apply Kd.R_alloc | apply Kd.R_drewN | apply Kd.R_drew)); exact HO288.out) (Kd.R_base ho0) hb); have n4_ := Aside0.mk (Kd.R_below (by (with_reducible repeat (first | apply Kd.R_alloc | apply Kd.R_drewN | apply Kd.R_drew)); exact HO291.out) hb); have n5_ := Aside0.mk (Kd.R_elder' (by (with_reducible repeat (first | apply Kd.R_alloc | apply Kd.R_drewN | apply Kd.R_drew)); exact HO294.out) (Kd.R_base ho0) hb); have n6_ := Aside0.mk (Kd.R_lower (Kd.R_new' (Kd.R_new' (Kd.R_new' (Kd.R_new' ho0 (Kd.R_lt (by (with_reducible repeat (first | apply Kd.R_alloc | apply Kd.R_drewN | apply Kd.R_drew)); exact HO278.out))) (Kd.R_lt (by (with_reducible repeat (first | apply Kd.R_alloc | apply Kd.R_drewN | apply Kd.R_drew)); exact HO284.out))) (Kd.R_lt (by (with_reducible repeat (first | apply Kd.R_alloc | apply Kd.R_drewN | apply Kd.R_drew)); exact HO288.out))) (Kd.R_lt (by (with_reducible repeat (first | apply Kd.R_alloc | apply Kd.R_drewN | apply Kd.R_drew)); exact HO294.out))) (below_size (by repeat (first | (with_reducible first | exact HB.out | apply below_alloc | apply pw_below_drewN | apply below_drew1) | exact HB.out)))); have n7_ := Aside0.mk (below_step (by repeat (first | (with_reducible first | exact HB.out | apply below_alloc | apply pw_below_drewN | apply below_drew1) | exact HB.out)) hb); clear HO278; clear HO281; clear HO284; clear HO288; clear HO291; clear HO294; clear HB; have HO278 := n0_; have HO281 := n1_; have HO284 := n2_; have HO288 := n3_; have HO291 := n4_; have HO294 := n5_; have HO298 := n6_; have HB := n7_; clear n0_ n1_ n2_ n3_ n4_ n5_ n6_ n7_; (try clear hb); (try clear hb2); (try clear hk); (try clear hi); (try clear ho0)) | ((with_reducible refine gate_dst (N := 33) rfl ?_); (try (refine gate_guard (by rfl) ?_; dsimp only)); refine Kd.R_lit k39 _ 39 ?hg (N := 33) ?hd (xs := ([(⟨0, 1⟩ : S39), (⟨2, 2⟩ : S39)] : List (S39))) (inner := [.int .i64 0, .int .i64 1, .int .i64 2, .int .i64 2]) (ok := fun _ => True) (okp := fun _ => True) ?hr ?hp (fun _ hk => hk) trivial (Below.refl _ _) (Nat.le_refl _) (by simp) ?_; (case hd => rfl); (case hg => rfl); (case hr => first | (go_simp; done) | (go_simp; rfl)); (case hp => exact (Reps.c2 (show Kd.M k39 _ _ _ (⟨0, 1⟩ : S39) [.int .i64 0, .int .i64 1] from (k39_mkM _ _ _ (⟨0, 1⟩ : S39) )) (Reps.c2 (show Kd.M k39 _ _ _ (⟨2, 2⟩ : S39) [.int .i64 2, .int .i64 2] from (k39_mkM _ _ _ (⟨2, 2⟩ : S39) )) (Reps.none _ _)))); intro v300 w38 ho39 hb hg_ hnew_; clear hg_ hnew_; (first | rw [← Ny299.out] at ho39 | (simp only [Int.reduceToNat] at ho39; rw [← Ny299.out] at ho39)); have n0_ := Aside0.mk (Kd.R_below (by (with_reducible repeat (first | apply Kd.R_alloc | apply Kd.R_drewN | apply Kd.R_drew)); exact HO278.out) hb); have n1_ := Aside0.mk (Kd.R_elder' (by (with_reducible repeat (first | apply Kd.R_alloc | apply Kd.R_drewN | apply Kd.R_drew)); exact HO281.out) (Kd.R_base ho39) hb); have n2_ := Aside0.mk (Kd.R_below (by (with_reducible repeat (first | apply Kd.R_alloc | apply Kd.R_drewN | apply Kd.R_drew)); exact HO284.out) hb); have n3_ := Aside0.mk (Kd.R_below (by (with_reducible repeat (first | apply Kd.R_alloc | apply Kd.R_drewN | apply Kd.R_drew)); exact HO288.out) hb); have n4_ := Aside0.mk (Kd.R_elder' (by (with_reducible repeat (first | apply Kd.R_alloc | apply Kd.R_drewN | apply Kd.R_drew)); exact HO291.out) (Kd.R_base ho39) hb); have n5_ := Aside0.mk (Kd.R_below (by (with_reducible repeat (first | apply Kd.R_alloc | apply Kd.R_drewN | apply Kd.R_drew)); exact HO294.out) hb); have n6_ := Aside0.mk (Kd.R_below (by (with_reducible repeat (first | apply Kd.R_alloc | apply Kd.R_drewN | apply Kd.R_drew)); exact HO298.out) hb); have n7_ := Aside0.mk (Kd.R_lower (Kd.R_new' (Kd.R_new' ho39 (Kd.R_lt (by (with_reducible repeat (first | apply Kd.R_alloc | apply Kd.R_drewN | apply Kd.R_drew)); exact HO281.out))) (Kd.R_lt (by (with_reducible repeat (first | apply Kd.R_alloc | apply Kd.R_drewN | apply Kd.R_drew)); exact HO291.out))) (below_size (by repeat (first | (with_reducible first | exact HB.out | apply below_alloc | apply pw_below_drewN | apply below_drew1) | exact HB.out)))); have n8_ := Aside0.mk (below_step (by repeat (first | (with_reducible first | exact HB.out | apply below_alloc | apply pw_below_drewN | apply below_drew1) | exact HB.out)) hb); clear HO278; clear HO281; clear HO284; clear HO288; clear HO291; clear HO294; clear HO298; clear HB; have HO278 := n0_; have HO281 := n1_; have HO284 := n2_; have HO288 := n3_; have HO291 := n4_; have HO294 := n5_; have HO298 := n6_; have HO301 := n7_; have HB := n8_; clear n0_ n1_ n2_ n3_ n4_ n5_ n6_ n7_ n8_; clear hb ho39) | ((with_reducible refine gate_dst (N := 34) rfl ?_); (try (refine gate_guard (by rfl) ?_; dsimp only)); refine Kd.R_lit (Kd.int .i64) _ 3 ?hg (N := 34) ?hd (xs := ([1] : List Int)) (inner := [.int .i64 1]) (ok := fun _ => True) (okp := fun _ => True) ?hr ?hp (fun _ hk => hk) trivial (Below.refl _ _) (Nat.le_refl _) (by simp) ?_; (case hd => rfl); (case hg => rfl); (case hr => first | (go_simp; done) | (go_simp; rfl)); (case hp => exact (Reps.one (show Kd.M (Kd.int .i64) _ _ _ 1 [.int .i64 1] from rfl) (Reps.none _ _))); intro v303 w40 ho41 hb hg_ hnew_; clear hg_ hnew_; (first | rw [← Ny302.out] at ho41 | (simp only [Int.reduceToNat] at ho41; rw [← Ny302.out] at ho41)); have n0_ := Aside0.mk (Kd.R_elder' (by (with_reducible repeat (first | apply Kd.R_alloc | apply Kd.R_drewN | apply Kd.R_drew)); exact HO278.out) (Kd.R_base ho41) hb); have n1_ := Aside0.mk (Kd.R_below (by (with_reducible repeat (first | apply Kd.R_alloc | apply Kd.R_drewN | apply Kd.R_drew)); exact HO281.out) hb); have n2_ := Aside0.mk (Kd.R_elder' (by (with_reducible repeat (first | apply Kd.R_alloc | apply Kd.R_drewN | apply Kd.R_drew)); exact HO284.out) (Kd.R_base ho41) hb); have n3_ := Aside0.mk (Kd.R_elder' (by (with_reducible repeat (first | apply Kd.R_alloc | apply Kd.R_drewN | apply Kd.R_drew)); exact HO288.out) (Kd.R_base ho41) hb); have n4_ := Aside0.mk (Kd.R_below (by (with_reducible repeat (first | apply Kd.R_alloc | apply Kd.R_drewN | apply Kd.R_drew)); exact HO291.out) hb); have n5_ := Aside0.mk (Kd.R_elder' (by (with_reducible repeat (first | apply Kd.R_alloc | apply Kd.R_drewN | apply Kd.R_drew)); exact HO294.out) (Kd.R_base ho41) hb); have n6_ := Aside0.mk (Kd.R_elder' (by (with_reducible repeat (first | apply Kd.R_alloc | apply Kd.R_drewN | apply Kd.R_drew)); exact HO298.out) (Kd.R_base ho41) hb); have n7_ := Aside0.mk (Kd.R_below (by (with_reducible repeat (first | apply Kd.R_alloc | apply Kd.R_drewN | apply Kd.R_drew)); exact HO301.out) hb); have n8_ := Aside0.mk (Kd.R_lower (Kd.R_new' (Kd.R_new' (Kd.R_new' (Kd.R_new' (Kd.R_new' ho41 (Kd.R_lt (by (with_reducible repeat (first | apply Kd.R_alloc | apply Kd.R_drewN | apply Kd.R_drew)); exact HO278.out))) (Kd.R_lt (by (with_reducible repeat (first | apply Kd.R_alloc | apply Kd.R_drewN | apply Kd.R_drew)); exact HO284.out))) (Kd.R_lt (by (with_reducible repeat (first | apply Kd.R_alloc | apply Kd.R_drewN | apply Kd.R_drew)); exact HO288.out))) (Kd.R_lt (by (with_reducible repeat (first | apply Kd.R_alloc | apply Kd.R_drewN | apply Kd.R_drew)); exact HO294.out))) (Kd.R_lt (by (with_reducible repeat (first | apply Kd.R_alloc | apply Kd.R_drewN | apply Kd.R_drew)); exact HO298.out))) (below_size (by repeat (first | (with_reducible first | exact HB.out | apply below_alloc | apply pw_below_drewN | apply below_drew1) | exact HB.out)))); have n9_ := Aside0.mk (below_step (by repeat (first | (with_reducible first | exact HB.out | apply below_alloc | apply pw_below_drewN | apply below_drew1) | exact HB.out)) hb); clear HO278; clear HO281; clear HO284; clear HO288; clear HO291; clear HO294; clear HO298; clear HO301; clear HB; have HO278 := n0_; have HO281 := n1_; have HO284 := n2_; have HO288 := n3_; have HO291 := n4_; have HO294 := n5_; have HO298 := n6_; have HO301 := n7_; have HO304 := n8_; have HB := n9_; clear n0_ n1_ n2_ n3_ n4_ n5_ n6_ n7_ n8_ n9_; clear hb ho41) | ((with_reducible refine gate_dst (N := 35) rfl ?_); (try (refine gate_guard (by rfl) ?_; dsimp only)); refine Kd.R_lit (Kd.int .i64) _ 3 ?hg (N := 35) ?hd (xs := ([45] : List Int)) (inner := [.int .i64 45]) (ok := fun _ => True) (okp := fun _ => True) ?hr ?hp (fun _ hk => hk) trivial (Below.refl _ _) (Nat.le_refl _) (by simp) ?_; (case hd => rfl); (case hg => rfl); (case hr => first | (go_simp; done) | (go_simp; rfl)); (case hp => exact (Reps.one (show Kd.M (Kd.int .i64) _ _ _ 45 [.int .i64 45] from rfl) (Reps.none _ _))); intro v306 w42 ho43 hb hg_ hnew_; clear hg_ hnew_; (first | rw [← Ny305.out] at ho43 | (simp only [Int.reduceToNat] at ho43; rw [← Ny305.out] at ho43)); have n0_ := Aside0.mk (Kd.R_elder' (by (with_reducible repeat (first | apply Kd.R_alloc | apply Kd.R_drewN | apply Kd.R_drew)); exact HO278.out) (Kd.R_base ho43) hb); have n1_ := Aside0.mk (Kd.R_below (by (with_reducible repeat (first | apply Kd.R_alloc | apply Kd.R_drewN | apply Kd.R_drew)); exact HO281.out) hb); have n2_ := Aside0.mk (Kd.R_elder' (by (with_reducible repeat (first | apply Kd.R_alloc | apply Kd.R_drewN | apply Kd.R_drew)); exact HO284.out) (Kd.R_base ho43) hb); have n3_ := Aside0.mk (Kd.R_elder' (by (with_reducible repeat (first | apply Kd.R_alloc | apply Kd.R_drewN | apply Kd.R_drew)); exact HO288.out) (Kd.R_base ho43) hb); have n4_ := Aside0.mk (Kd.R_below (by (with_reducible repeat (first | apply Kd.R_alloc | apply Kd.R_drewN | apply Kd.R_drew)); exact HO291.out) hb); have n5_ := Aside0.mk (Kd.R_elder' (by (with_reducible repeat (first | apply Kd.R_alloc | apply Kd.R_drewN | apply Kd.R_drew)); exact HO294.out) (Kd.R_base ho43) hb); have n6_ := Aside0.mk (Kd.R_elder' (by (with_reducible repeat (first | apply Kd.R_alloc | apply Kd.R_drewN | apply Kd.R_drew)); exact HO298.out) (Kd.R_base ho43) hb); have n7_ := Aside0.mk (Kd.R_below (by (with_reducible repeat (first | apply Kd.R_alloc | apply Kd.R_drewN | apply Kd.R_drew)); exact HO301.out) hb); have n8_ := Aside0.mk (Kd.R_elder' (by (with_reducible repeat (first | apply Kd.R_alloc | apply Kd.R_drewN | apply Kd.R_drew)); exact HO304.out) (Kd.R_base ho43) hb); have n9_ := Aside0.mk (Kd.R_lower (Kd.R_new' (Kd.R_new' (Kd.R_new' (Kd.R_new' (Kd.R_new' (Kd.R_new' ho43 (Kd.R_lt (by (with_reducible repeat (first | apply Kd.R_alloc | apply Kd.R_drewN | apply Kd.R_drew)); exact HO278.out))) (Kd.R_lt (by (with_reducible repeat (first | apply Kd.R_alloc | apply Kd.R_drewN | apply Kd.R_drew)); exact HO284.out))) (Kd.R_lt (by (with_reducible repeat (first | apply Kd.R_alloc | apply Kd.R_drewN | apply Kd.R_drew)); exact HO288.out))) (Kd.R_lt (by (with_reducible repeat (first | apply Kd.R_alloc | apply Kd.R_drewN | apply Kd.R_drew)); exact HO294.out))) (Kd.R_lt (by (with_reducible repeat (first | apply Kd.R_alloc | apply Kd.R_drewN | apply Kd.R_drew)); exact HO298.out))) (Kd.R_lt (by (with_reducible repeat (first | apply Kd.R_alloc | apply Kd.R_drewN | apply Kd.R_drew)); exact HO304.out))) (below_size (by repeat (first | (with_reducible first | exact HB.out | apply below_alloc | apply pw_below_drewN | apply below_drew1) | exact HB.out)))); have n10_ := Aside0.mk (below_step (by repeat (first | (with_reducible first | exact HB.out | apply below_alloc | apply pw_below_drewN | apply below_drew1) | exact HB.out)) hb); clear HO278; clear HO281; clear HO284; clear HO288; clear HO291; clear HO294; clear HO298; clear HO301; clear HO304; clear HB; have HO278 := n0_; have HO281 := n1_; have HO284 := n2_; have HO288 := n3_; have HO291 := n4_; have HO294 := n5_; have HO298 := n6_; have HO301 := n7_; have HO304 := n8_; have HO307 := n9_; have HB := n10_; clear n0_ n1_ n2_ n3_ n4_ n5_ n6_ n7_ n8_ n9_ n10_; clear hb ho43; obtain ⟨Ao44, co44, eo44⟩ := Kd.R_slice HO301.out; subst eo44; obtain ⟨Ao45, co45, eo45⟩ := Kd.R_slice HO304.out; subst eo45; obtain ⟨Ao46, co46, eo46⟩ := Kd.R_slice HO307.out; subst eo46) | ((with_reducible refine gate_callee (f := 12) rfl ?_); refine goesL_ (some 36) rfl rfl Try.func12 (by kernel_rfl) rfl #[.slice Ao27 y276.length co27, .slice Ao44 y299.length co44, .slice Ao45 y302.length co45, .slice Ao46 y305.length co46] rfl (by (try simp only [List.map_toArray, List.map_cons, List.map_nil]); first | done | rfl | (simp only [List.length_drop, List.length_take]; rfl)) ?_; (with_reducible refine (swap_Some.calls k _ _ y276 _ _ y299 _ _ y302 _ _ y305 t308 t309 _ ?side1 ?side2 ?side3 ?side4 ?side5 ?side6 ?side7 ?side8 A3.out).mono ?_); (case side1 => repeat (first | exact (Kd.R_reads' HO278.out).2.2 | (with_reducible refine Kd.C_alloc ?_ _) | (with_reducible refine Kd.C_drewN ?_ _) | (with_reducible refine Kd.C_drew ?_))); (case side2 => exact (Kd.R_reads' HO278.out).2.1); (case side3 => repeat (first | exact (Kd.R_reads' HO301.out).2.2 | (with_reducible refine Kd.C_alloc ?_ _) | (with_reducible refine Kd.C_drewN ?_ _) | (with_reducible refine Kd.C_drew ?_))); (case side4 => exact (Kd.R_reads' HO301.out).2.1); (case side5 => repeat (first | exact (Kd.R_reads' HO304.out).2.2 | (with_reducible refine Kd.C_alloc ?_ _) | (with_reducible refine Kd.C_drewN ?_ _) | (with_reducible refine Kd.C_drew ?_))); (case side6 => exact (Kd.R_reads' HO304.out).2.1); (case side7 => repeat (first | exact (Kd.R_reads' HO307.out).2.2 | (with_reducible refine Kd.C_alloc ?_ _) | (with_reducible refine Kd.C_drewN ?_ _) | (with_reducible refine Kd.C_drew ?_))); (case side8 => exact (Kd.R_reads' HO307.out).2.1); rintro e w47 ⟨v310, rfl, ho0, hb⟩; refine ⟨_, rfl, ?_⟩; have n0_ := Aside0.mk (Kd.R_elder' (by (with_reducible repeat (first | apply Kd.R_alloc | apply Kd.R_drewN | apply Kd.R_drew)); exact HO278.out) (Kd.R_base ho0) hb); have n1_ := Aside0.mk (Kd.R_below (by (with_reducible repeat (first | apply Kd.R_alloc | apply Kd.R_drewN | apply Kd.R_drew)); exact HO281.out) hb); have n2_ := Aside0.mk (Kd.R_elder' (by (with_reducible repeat (first | apply Kd.R_alloc | apply Kd.R_drewN | apply Kd.R_drew)); exact HO284.out) (Kd.R_base ho0) hb); have n3_ := Aside0.mk (Kd.R_elder' (by (with_reducible repeat (first | apply Kd.R_alloc | apply Kd.R_drewN | apply Kd.R_drew)); exact HO288.out) (Kd.R_base ho0) hb); have n4_ := Aside0.mk (Kd.R_below (by (with_reducible repeat (first | apply Kd.R_alloc | apply Kd.R_drewN | apply Kd.R_drew)); exact HO291.out) hb); have n5_ := Aside0.mk (Kd.R_elder' (by (with_reducible repeat (first | apply Kd.R_alloc | apply Kd.R_drewN | apply Kd.R_drew)); exact HO294.out) (Kd.R_base ho0) hb); have n6_ := Aside0.mk (Kd.R_elder' (by (with_reducible repeat (first | apply Kd.R_alloc | apply Kd.R_drewN | apply Kd.R_drew)); exact HO298.out) (Kd.R_base ho0) hb); have n7_ := Aside0.mk (Kd.R_below (by (with_reducible repeat (first | apply Kd.R_alloc | apply Kd.R_drewN | apply Kd.R_drew)); exact HO301.out) hb); have n8_ := Aside0.mk (Kd.R_elder' (by (with_reducible repeat (first | apply Kd.R_alloc | apply Kd.R_drewN | apply Kd.R_drew)); exact HO304.out) (Kd.R_base ho0) hb); have n9_ := Aside0.mk (Kd.R_elder' (by (with_reducible repeat (first | apply Kd.R_alloc | apply Kd.R_drewN | apply Kd.R_drew)); exact HO307.out) (Kd.R_base ho0) hb); have n10_ := Aside0.mk (Kd.R_lower (Kd.R_new' (Kd.R_new' (Kd.R_new' (Kd.R_new' (Kd.R_new' (Kd.R_new' (Kd.R_new' ho0 (Kd.R_lt (by (with_reducible repeat (first | apply Kd.R_alloc | apply Kd.R_drewN | apply Kd.R_drew)); exact HO278.out))) (Kd.R_lt (by (with_reducible repeat (first | apply Kd.R_alloc | apply Kd.R_drewN | apply Kd.R_drew)); exact HO284.out))) (Kd.R_lt (by (with_reducible repeat (first | apply Kd.R_alloc | apply Kd.R_drewN | apply Kd.R_drew)); exact HO288.out))) (Kd.R_lt (by (with_reducible repeat (first | apply Kd.R_alloc | apply Kd.R_drewN | apply Kd.R_drew)); exact HO294.out))) (Kd.R_lt (by (with_reducible repeat (first | apply Kd.R_alloc | apply Kd.R_drewN | apply Kd.R_drew)); exact HO298.out))) (Kd.R_lt (by (with_reducible repeat (first | apply Kd.R_alloc | apply Kd.R_drewN | apply Kd.R_drew)); exact HO304.out))) (Kd.R_lt (by (with_reducible repeat (first | apply Kd.R_alloc | apply Kd.R_drewN | apply Kd.R_drew)); exact HO307.out))) (below_size (by repeat (first | (with_reducible first | exact HB.out | apply below_alloc | apply pw_below_drewN | apply below_drew1) | exact HB.out)))); have n11_ := Aside0.mk (below_step (by repeat (first | (with_reducible first | exact HB.out | apply below_alloc | apply pw_below_drewN | apply below_drew1) | exact HB.out)) hb); clear HO278; clear HO281; clear HO284; clear HO288; clear HO291; clear HO294; clear HO298; clear HO301; clear HO304; clear HO307; clear HB; have HO278 := n0_; have HO281 := n1_; have HO284 := n2_; have HO288 := n3_; have HO291 := n4_; have HO294 := n5_; have HO298 := n6_; have HO301 := n7_; have HO304 := n8_; have HO307 := n9_; have HO311 := n10_; have HB := n11_; clear n0_ n1_ n2_ n3_ n4_ n5_ n6_ n7_ n8_ n9_ n10_ n11_; (try clear hb); (try clear hb2); (try clear hk); (try clear hi); (try clear ho0)) | ((with_reducible refine gate_dst (N := 41) rfl ?_); (try (refine gate_guard (by rfl) ?_; dsimp only)); refine Kd.R_lit (Kd.int .i64) _ 3 ?hg (N := 41) ?hd (xs := ([0] : List Int)) (inner := [.int .i64 0]) (ok := fun _ => True) (okp := fun _ => True) ?hr ?hp (fun _ hk => hk) trivial (Below.refl _ _) (Nat.le_refl _) (by simp) ?_; (case hd => rfl); (case hg => rfl); (case hr => first | (go_simp; done) | (go_simp; rfl)); (case hp => exact (Reps.one (show Kd.M (Kd.int .i64) _ _ _ 0 [.int .i64 0] from rfl) (Reps.none _ _))); intro v313 w48 ho49 hb hg_ hnew_; clear hg_ hnew_; (first | rw [← Ny312.out] at ho49 | (simp only [Int.reduceToNat] at ho49; rw [← Ny312.out] at ho49)); have n0_ := Aside0.mk (Kd.R_elder' (by (with_reducible repeat (first | apply Kd.R_alloc | apply Kd.R_drewN | apply Kd.R_drew)); exact HO278.out) (Kd.R_base ho49) hb); have n1_ := Aside0.mk (Kd.R_below (by (with_reducible repeat (first | apply Kd.R_alloc | apply Kd.R_drewN | apply Kd.R_drew)); exact HO281.out) hb); have n2_ := Aside0.mk (Kd.R_elder' (by (with_reducible repeat (first | apply Kd.R_alloc | apply Kd.R_drewN | apply Kd.R_drew)); exact HO284.out) (Kd.R_base ho49) hb); have n3_ := Aside0.mk (Kd.R_elder' (by (with_reducible repeat (first | apply Kd.R_alloc | apply Kd.R_drewN | apply Kd.R_drew)); exact HO288.out) (Kd.R_base ho49) hb); have n4_ := Aside0.mk (Kd.R_below (by (with_reducible repeat (first | apply Kd.R_alloc | apply Kd.R_drewN | apply Kd.R_drew)); exact HO291.out) hb); have n5_ := Aside0.mk (Kd.R_elder' (by (with_reducible repeat (first | apply Kd.R_alloc | apply Kd.R_drewN | apply Kd.R_drew)); exact HO294.out) (Kd.R_base ho49) hb); have n6_ := Aside0.mk (Kd.R_elder' (by (with_reducible repeat (first | apply Kd.R_alloc | apply Kd.R_drewN | apply Kd.R_drew)); exact HO298.out) (Kd.R_base ho49) hb); have n7_ := Aside0.mk (Kd.R_below (by (with_reducible repeat (first | apply Kd.R_alloc | apply Kd.R_drewN | apply Kd.R_drew)); exact HO301.out) hb); have n8_ := Aside0.mk (Kd.R_elder' (by (with_reducible repeat (first | apply Kd.R_alloc | apply Kd.R_drewN | apply Kd.R_drew)); exact HO304.out) (Kd.R_base ho49) hb); have n9_ := Aside0.mk (Kd.R_elder' (by (with_reducible repeat (first | apply Kd.R_alloc | apply Kd.R_drewN | apply Kd.R_drew)); exact HO307.out) (Kd.R_base ho49) hb); have n10_ := Aside0.mk (Kd.R_elder' (by (with_reducible repeat (first | apply Kd.R_alloc | apply Kd.R_drewN | apply Kd.R_drew)); exact HO311.out) (Kd.R_base ho49) hb); have n11_ := Aside0.mk (Kd.R_lower (Kd.R_new' (Kd.R_new' (Kd.R_new' (Kd.R_new' (Kd.R_new' (Kd.R_new' (Kd.R_new' (Kd.R_new' ho49 (Kd.R_lt (by (with_reducible repeat (first | apply Kd.R_alloc | apply Kd.R_drewN | apply Kd.R_drew)); exact HO278.out))) (Kd.R_lt (by (with_reducible repeat (first | apply Kd.R_alloc | apply Kd.R_drewN | apply Kd.R_drew)); exact HO284.out))) (Kd.R_lt (by (with_reducible repeat (first | apply Kd.R_alloc | apply Kd.R_drewN | apply Kd.R_drew)); exact HO288.out))) (Kd.R_lt (by (with_reducible repeat (first | apply Kd.R_alloc | apply Kd.R_drewN | apply Kd.R_drew)); exact HO294.out))) (Kd.R_lt (by (with_reducible repeat (first | apply Kd.R_alloc | apply Kd.R_drewN | apply Kd.R_drew)); exact HO298.out))) (Kd.R_lt (by (with_reducible repeat (first | apply Kd.R_alloc | apply Kd.R_drewN | apply Kd.R_drew)); exact HO304.out))) (Kd.R_lt (by (with_reducible repeat (first | apply Kd.R_alloc | apply Kd.R_drewN | apply Kd.R_drew)); exact HO307.out))) (Kd.R_lt (by (with_reducible repeat (first | apply Kd.R_alloc | apply Kd.R_drewN | apply Kd.R_drew)); exact HO311.out))) (below_size (by repeat (first | (with_reducible first | exact HB.out | apply below_alloc | apply pw_below_drewN | apply below_drew1) | exact HB.out)))); have n12_ := Aside0.mk (below_step (by repeat (first | (with_reducible first | exact HB.out | apply below_alloc | apply pw_below_drewN | apply below_drew1) | exact HB.out)) hb); clear HO278; clear HO281; clear HO284; clear HO288; clear HO291; clear HO294; clear HO298; clear HO301; clear HO304; clear HO307; clear HO311; clear HB; have HO278 := n0_; have HO281 := n1_; have HO284 := n2_; have HO288 := n3_; have HO291 := n4_; have HO294 := n5_; have HO298 := n6_; have HO301 := n7_; have HO304 := n8_; have HO307 := n9_; have HO311 := n10_; have HO314 := n11_; have HB := n12_; clear n0_ n1_ n2_ n3_ n4_ n5_ n6_ n7_ n8_ n9_ n10_ n11_ n12_; clear hb ho49; obtain ⟨Ao50, co50, eo50⟩ := Kd.R_slice HO314.out; subst eo50) | ((with_reducible refine gate_callee (f := 12) rfl ?_); refine goesL_ (some 42) rfl rfl Try.func12 (by kernel_rfl) rfl #[.slice Ao27 y276.length co27, .slice none 0 0, .slice Ao50 y312.length co50, .slice none 0 0] rfl (by (try simp only [List.map_toArray, List.map_cons, List.map_nil]); first | done | rfl | (simp only [List.length_drop, List.length_take]; rfl)) ?_; (refine (swap_Some.calls k _ _ y276 _ _ ([] : List (S39)) _ _ y312 _ _ ([] : List Int) t315 t316 _ ?side1 ?side2 ?side3 ?side4 ?side5 ?side6 ?side7 ?side8 A4.out).mono ?_); (case side1 => repeat (first | exact (Kd.R_reads' HO278.out).2.2 | (with_reducible refine Kd.C_alloc ?_ _) | (with_reducible refine Kd.C_drewN ?_ _) | (with_reducible refine Kd.C_drew ?_))); (case side2 => exact (Kd.R_reads' HO278.out).2.1); (case side3 => exact Kd.C_nil _ _); (case side4 => exact Nat.le_refl _); (case side5 => repeat (first | exact (Kd.R_reads' HO314.out).2.2 | (with_reducible refine Kd.C_alloc ?_ _) | (with_reducible refine Kd.C_drewN ?_ _) | (with_reducible refine Kd.C_drew ?_))); (case side6 => exact (Kd.R_reads' HO314.out).2.1); (case side7 => exact Kd.C_nil _ _); (case side8 => exact Nat.le_refl _); rintro e w51 ⟨v317, rfl, ho0, hb⟩; refine ⟨_, rfl, ?_⟩; have n0_ := Aside0.mk (Kd.R_elder' (by (with_reducible repeat (first | apply Kd.R_alloc | apply Kd.R_drewN | apply Kd.R_drew)); exact HO278.out) (Kd.R_base ho0) hb); have n1_ := Aside0.mk (Kd.R_below (by (with_reducible repeat (first | apply Kd.R_alloc | apply Kd.R_drewN | apply Kd.R_drew)); exact HO281.out) hb); have n2_ := Aside0.mk (Kd.R_elder' (by (with_reducible repeat (first | apply Kd.R_alloc | apply Kd.R_drewN | apply Kd.R_drew)); exact HO284.out) (Kd.R_base ho0) hb); have n3_ := Aside0.mk (Kd.R_elder' (by (with_reducible repeat (first | apply Kd.R_alloc | apply Kd.R_drewN | apply Kd.R_drew)); exact HO288.out) (Kd.R_base ho0) hb); have n4_ := Aside0.mk (Kd.R_below (by (with_reducible repeat (first | apply Kd.R_alloc | apply Kd.R_drewN | apply Kd.R_drew)); exact HO291.out) hb); have n5_ := Aside0.mk (Kd.R_elder' (by (with_reducible repeat (first | apply Kd.R_alloc | apply Kd.R_drewN | apply Kd.R_drew)); exact HO294.out) (Kd.R_base ho0) hb); have n6_ := Aside0.mk (Kd.R_elder' (by (with_reducible repeat (first | apply Kd.R_alloc | apply Kd.R_drewN | apply Kd.R_drew)); exact HO298.out) (Kd.R_base ho0) hb); have n7_ := Aside0.mk (Kd.R_below (by (with_reducible repeat (first | apply Kd.R_alloc | apply Kd.R_drewN | apply Kd.R_drew)); exact HO301.out) hb); have n8_ := Aside0.mk (Kd.R_elder' (by (with_reducible repeat (first | apply Kd.R_alloc | apply Kd.R_drewN | apply Kd.R_drew)); exact HO304.out) (Kd.R_base ho0) hb); have n9_ := Aside0.mk (Kd.R_elder' (by (with_reducible repeat (first | apply Kd.R_alloc | apply Kd.R_drewN | apply Kd.R_drew)); exact HO307.out) (Kd.R_base ho0) hb); have n10_ := Aside0.mk (Kd.R_elder' (by (with_reducible repeat (first | apply Kd.R_alloc | apply Kd.R_drewN | apply Kd.R_drew)); exact HO311.out) (Kd.R_base ho0) hb); have n11_ := Aside0.mk (Kd.R_elder' (by (with_reducible repeat (first | apply Kd.R_alloc | apply Kd.R_drewN | apply Kd.R_drew)); exact HO314.out) (Kd.R_base ho0) hb); have n12_ := Aside0.mk (Kd.R_lower (Kd.R_new' (Kd.R_new' (Kd.R_new' (Kd.R_new' (Kd.R_new' (Kd.R_new' (Kd.R_new' (Kd.R_new' (Kd.R_new' ho0 (Kd.R_lt (by (with_reducible repeat (first | apply Kd.R_alloc | apply Kd.R_drewN | apply Kd.R_drew)); exact HO278.out))) (Kd.R_lt (by (with_reducible repeat (first | apply Kd.R_alloc | apply Kd.R_drewN | apply Kd.R_drew)); exact HO284.out))) (Kd.R_lt (by (with_reducible repeat (first | apply Kd.R_alloc | apply Kd.R_drewN | apply Kd.R_drew)); exact HO288.out))) (Kd.R_lt (by (with_reducible repeat (first | apply Kd.R_alloc | apply Kd.R_drewN | apply Kd.R_drew)); exact HO294.out))) (Kd.R_lt (by (with_reducible repeat (first | apply Kd.R_alloc | apply Kd.R_drewN | apply Kd.R_drew)); exact HO298.out))) (Kd.R_lt (by (with_reducible repeat (first | apply Kd.R_alloc | apply Kd.R_drewN | apply Kd.R_drew)); exact HO304.out))) (Kd.R_lt (by (with_reducible repeat (first | apply Kd.R_alloc | apply Kd.R_drewN | apply Kd.R_drew)); exact HO307.out))) (Kd.R_lt (by (with_reducible repeat (first | apply Kd.R_alloc | apply Kd.R_drewN | apply Kd.R_drew)); exact HO311.out))) (Kd.R_lt (by (with_reducible repeat (first | apply Kd.R_alloc | apply Kd.R_drewN | apply Kd.R_drew)); exact HO314.out))) (below_size (by repeat (first | (with_reducible first | exact HB.out | apply below_alloc | apply pw_below_drewN | apply below_drew1) | exact HB.out)))); have n13_ := Aside0.mk (below_step (by repeat (first | (with_reducible first | exact HB.out | apply below_alloc | apply pw_below_drewN | apply below_drew1) | exact HB.out)) hb); clear HO278; clear HO281; clear HO284; clear HO288; clear HO291; clear HO294; clear HO298; clear HO301; clear HO304; clear HO307; clear HO311; clear HO314; clear HB; have HO278 := n0_; have HO281 := n1_; have HO284 := n2_; have HO288 := n3_; have HO291 := n4_; have HO294 := n5_; have HO298 := n6_; have HO301 := n7_; have HO304 := n8_; have HO307 := n9_; have HO311 := n10_; have HO314 := n11_; have HO318 := n12_; have HB := n13_; clear n0_ n1_ n2_ n3_ n4_ n5_ n6_ n7_ n8_ n9_ n10_ n11_ n12_ n13_; (try clear hb); (try clear hb2); (try clear hk); (try clear hi); (try clear ho0); have q52 : (1 : Int) ≤ ((y276.length : Int) : Int) := of_decide_eq_true (by first | (with_reducible assumption) | assumption); obtain ⟨i052, hi052, _, hsz52, _⟩ := info_parts info3; have hroom52 : y276.length ≤ co27 := (Kd.R_reads' HO278.out).2.1; have hC52 : Kd.C (Kd.int .i64) _ Ao27 y276.length y276 := (Kd.R_reads' HO278.out).2.2; have hcut52 := cut_to (P := Try.prog) 22 3 .i64 Try.underlying22 hi052 Ao27 y276.length co27 1 (by omega) q52 hroom52; have hr52 := Kd.C_take (m := 1) hC52 (by omega); have hy52 : y319.length = (1 : Int).toNat := (by rw [Ny319.out, List.length_take]; omega); rw [← Ny319.out] at hr52; rw [← hy52] at hcut52; have HR322 := Aside0.mk hr52; have HC322 := Aside0.mk (show y319.length ≤ co27 from by omega); clear hr52 hC52 hroom52 hi052 hsz52; have KY52 := Aside0.mk hy52; clear hy52; have KL52 := Aside0.mk (show 1 ≤ y276.length from by omega); replace q52 := eq_true q52) | ((with_reducible refine gate_dst (N := 49) rfl ?_); (try (refine gate_guard (by rfl) ?_; dsimp only)); refine Kd.R_lit k39 _ 39 ?hg (N := 49) ?hd (xs := ([(⟨0, 1⟩ : S39)] : List (S39))) (inner := [.int .i64 0, .int .i64 1]) (ok := fun _ => True) (okp := fun _ => True) ?hr ?hp (fun _ hk => hk) trivial (Below.refl _ _) (Nat.le_refl _) (by simp) ?_; (case hd => rfl); (case hg => rfl); (case hr => first | (go_simp; done) | (go_simp; rfl)); (case hp => exact (Reps.c2 (show Kd.M k39 _ _ _ (⟨0, 1⟩ : S39) [.int .i64 0, .int .i64 1] from (k39_mkM _ _ _ (⟨0, 1⟩ : S39) )) (Reps.none _ _))); intro v324 w53 ho54 hb hg_ hnew_; clear hg_ hnew_; (first | rw [← Ny323.out] at ho54 | (simp only [Int.reduceToNat] at ho54; rw [← Ny323.out] at ho54)); have n0_ := Aside0.mk (Kd.R_below (by (with_reducible repeat (first | apply Kd.R_alloc | apply Kd.R_drewN | apply Kd.R_drew)); exact HO278.out) hb); have n1_ := Aside0.mk (Kd.R_elder' (by (with_reducible repeat (first | apply Kd.R_alloc | apply Kd.R_drewN | apply Kd.R_drew)); exact HO281.out) (Kd.R_base ho54) hb); have n2_ := Aside0.mk (Kd.R_below (by (with_reducible repeat (first | apply Kd.R_alloc | apply Kd.R_drewN | apply Kd.R_drew)); exact HO284.out) hb); have n3_ := Aside0.mk (Kd.R_below (by (with_reducible repeat (first | apply Kd.R_alloc | apply Kd.R_drewN | apply Kd.R_drew)); exact HO288.out) hb); have n4_ := Aside0.mk (Kd.R_elder' (by (with_reducible repeat (first | apply Kd.R_alloc | apply Kd.R_drewN | apply Kd.R_drew)); exact HO291.out) (Kd.R_base ho54) hb); have n5_ := Aside0.mk (Kd.R_below (by (with_reducible repeat (first | apply Kd.R_alloc | apply Kd.R_drewN | apply Kd.R_drew)); exact HO294.out) hb); have n6_ := Aside0.mk (Kd.R_below (by (with_reducible repeat (first | apply Kd.R_alloc | apply Kd.R_drewN | apply Kd.R_drew)); exact HO298.out) hb); have n7_ := Aside0.mk (Kd.R_elder' (by (with_reducible repeat (first | apply Kd.R_alloc | apply Kd.R_drewN | apply Kd.R_drew)); exact HO301.out) (Kd.R_base ho54) hb); have n8_ := Aside0.mk (Kd.R_below (by (with_reducible repeat (first | apply Kd.R_alloc | apply Kd.R_drewN | apply Kd.R_drew)); exact HO304.out) hb); have n9_ := Aside0.mk (Kd.R_below (by (with_reducible repeat (first | apply Kd.R_alloc | apply Kd.R_drewN | apply Kd.R_drew)); exact HO307.out) hb); have n10_ := Aside0.mk (Kd.R_below (by (with_reducible repeat (first | apply Kd.R_alloc | apply Kd.R_drewN | apply Kd.R_drew)); exact HO311.out) hb); have n11_ := Aside0.mk (Kd.R_below (by (with_reducible repeat (first | apply Kd.R_alloc | apply Kd.R_drewN | apply Kd.R_drew)); exact HO314.out) hb); have n12_ := Aside0.mk (Kd.R_below (by (with_reducible repeat (first | apply Kd.R_alloc | apply Kd.R_drewN | apply Kd.R_drew)); exact HO318.out) hb); have n13_ := Aside0.mk (Kd.R_lower (Kd.R_new' (Kd.R_new' (Kd.R_new' ho54 (Kd.R_lt (by (with_reducible repeat (first | apply Kd.R_alloc | apply Kd.R_drewN | apply Kd.R_drew)); exact HO281.out))) (Kd.R_lt (by (with_reducible repeat (first | apply Kd.R_alloc | apply Kd.R_drewN | apply Kd.R_drew)); exact HO291.out))) (Kd.R_lt (by (with_reducible repeat (first | apply Kd.R_alloc | apply Kd.R_drewN | apply Kd.R_drew)); exact HO301.out))) (below_size (by repeat (first | (with_reducible first | exact HB.out | apply below_alloc | apply pw_below_drewN | apply below_drew1) | exact HB.out)))); have n14_ := Aside0.mk (Kd.C_below (by repeat (first | (with_reducible exact HR322.out) | (with_reducible refine Kd.C_alloc ?_ _) | (with_reducible refine Kd.C_drewN ?_ _) | (with_reducible refine Kd.C_drew ?_) | exact HR322.out)) hb); have n15_ := Aside0.mk (below_step (by repeat (first | (with_reducible first | exact HB.out | apply below_alloc | apply pw_below_drewN | apply below_drew1) | exact HB.out)) hb); clear HO278; clear HO281; clear HO284; clear HO288; clear HO291; clear HO294; clear HO298; clear HO301; clear HO304; clear HO307; clear HO311; clear HO314; clear HO318; clear HR322; clear HB; have HO278 := n0_; have HO281 := n1_; have HO284 := n2_; have HO288 := n3_; have HO291 := n4_; have HO294 := n5_; have HO298 := n6_; have HO301 := n7_; have HO304 := n8_; have HO307 := n9_; have HO311 := n10_; have HO314 := n11_; have HO318 := n12_; have HO325 := n13_; have HR322 := n14_; have HB := n15_; clear n0_ n1_ n2_ n3_ n4_ n5_ n6_ n7_ n8_ n9_ n10_ n11_ n12_ n13_ n14_ n15_; clear hb ho54) | ((with_reducible refine gate_dst (N := 50) rfl ?_); (try (refine gate_guard (by rfl) ?_; dsimp only)); refine Kd.R_lit (Kd.int .i64) _ 3 ?hg (N := 50) ?hd (xs := ([1488] : List Int)) (inner := [.int .i64 1488]) (ok := fun _ => True) (okp := fun _ => True) ?hr ?hp (fun _ hk => hk) trivial (Below.refl _ _) (Nat.le_refl _) (by simp) ?_; (case hd => rfl); (case hg => rfl); (case hr => first | (go_simp; done) | (go_simp; rfl)); (case hp => exact (Reps.one (show Kd.M (Kd.int .i64) _ _ _ 1488 [.int .i64 1488] from rfl) (Reps.none _ _))); intro v327 w55 ho56 hb hg_ hnew_; clear hg_ hnew_; (first | rw [← Ny326.out] at ho56 | (simp only [Int.reduceToNat] at ho56; rw [← Ny326.out] at ho56)); have n0_ := Aside0.mk (Kd.R_elder' (by (with_reducible repeat (first | apply Kd.R_alloc | apply Kd.R_drewN | apply Kd.R_drew)); exact HO278.out) (Kd.R_base ho56) hb); have n1_ := Aside0.mk (Kd.R_below (by (with_reducible repeat (first | apply Kd.R_alloc | apply Kd.R_drewN | apply Kd.R_drew)); exact HO281.out) hb); have n2_ := Aside0.mk (Kd.R_elder' (by (with_reducible repeat (first | apply Kd.R_alloc | apply Kd.R_drewN | apply Kd.R_drew)); exact HO284.out) (Kd.R_base ho56) hb); have n3_ := Aside0.mk (Kd.R_elder' (by (with_reducible repeat (first | apply Kd.R_alloc | apply Kd.R_drewN | apply Kd.R_drew)); exact HO288.out) (Kd.R_base ho56) hb); have n4_ := Aside0.mk (Kd.R_below (by (with_reducible repeat (first | apply Kd.R_alloc | apply Kd.R_drewN | apply Kd.R_drew)); exact HO291.out) hb); have n5_ := Aside0.mk (Kd.R_elder' (by (with_reducible repeat (first | apply Kd.R_alloc | apply Kd.R_drewN | apply Kd.R_drew)); exact HO294.out) (Kd.R_base ho56) hb); have n6_ := Aside0.mk (Kd.R_elder' (by (with_reducible repeat (first | apply Kd.R_alloc | apply Kd.R_drewN | apply Kd.R_drew)); exact HO298.out) (Kd.R_base ho56) hb); have n7_ := Aside0.mk (Kd.R_below (by (with_reducible repeat (first | apply Kd.R_alloc | apply Kd.R_drewN | apply Kd.R_drew)); exact HO301.out) hb); have n8_ := Aside0.mk (Kd.R_elder' (by (with_reducible repeat (first | apply Kd.R_alloc | apply Kd.R_drewN | apply Kd.R_drew)); exact HO304.out) (Kd.R_base ho56) hb); have n9_ := Aside0.mk (Kd.R_elder' (by (with_reducible repeat (first | apply Kd.R_alloc | apply Kd.R_drewN | apply Kd.R_drew)); exact HO307.out) (Kd.R_base ho56) hb); have n10_ := Aside0.mk (Kd.R_elder' (by (with_reducible repeat (first | apply Kd.R_alloc | apply Kd.R_drewN | apply Kd.R_drew)); exact HO311.out) (Kd.R_base ho56) hb); have n11_ := Aside0.mk (Kd.R_elder' (by (with_reducible repeat (first | apply Kd.R_alloc | apply Kd.R_drewN | apply Kd.R_drew)); exact HO314.out) (Kd.R_base ho56) hb); have n12_ := Aside0.mk (Kd.R_elder' (by (with_reducible repeat (first | apply Kd.R_alloc | apply Kd.R_drewN | apply Kd.R_drew)); exact HO318.out) (Kd.R_base ho56) hb); have n13_ := Aside0.mk (Kd.R_below (by (with_reducible repeat (first | apply Kd.R_alloc | apply Kd.R_drewN | apply Kd.R_drew)); exact HO325.out) hb); have n14_ := Aside0.mk (Kd.R_lower (Kd.R_new' (Kd.R_new' (Kd.R_new' (Kd.R_new' (Kd.R_new' (Kd.R_new' (Kd.R_new' (Kd.R_new' (Kd.R_new' (Kd.R_new' ho56 (Kd.R_lt (by (with_reducible repeat (first | apply Kd.R_alloc | apply Kd.R_drewN | apply Kd.R_drew)); exact HO278.out))) (Kd.R_lt (by (with_reducible repeat (first | apply Kd.R_alloc | apply Kd.R_drewN | apply Kd.R_drew)); exact HO284.out))) (Kd.R_lt (by (with_reducible repeat (first | apply Kd.R_alloc | apply Kd.R_drewN | apply Kd.R_drew)); exact HO288.out))) (Kd.R_lt (by (with_reducible repeat (first | apply Kd.R_alloc | apply Kd.R_drewN | apply Kd.R_drew)); exact HO294.out))) (Kd.R_lt (by (with_reducible repeat (first | apply Kd.R_alloc | apply Kd.R_drewN | apply Kd.R_drew)); exact HO298.out))) (Kd.R_lt (by (with_reducible repeat (first | apply Kd.R_alloc | apply Kd.R_drewN | apply Kd.R_drew)); exact HO304.out))) (Kd.R_lt (by (with_reducible repeat (first | apply Kd.R_alloc | apply Kd.R_drewN | apply Kd.R_drew)); exact HO307.out))) (Kd.R_lt (by (with_reducible repeat (first | apply Kd.R_alloc | apply Kd.R_drewN | apply Kd.R_drew)); exact HO311.out))) (Kd.R_lt (by (with_reducible repeat (first | apply Kd.R_alloc | apply Kd.R_drewN | apply Kd.R_drew)); exact HO314.out))) (Kd.R_lt (by (with_reducible repeat (first | apply Kd.R_alloc | apply Kd.R_drewN | apply Kd.R_drew)); exact HO318.out))) (below_size (by repeat (first | (with_reducible first | exact HB.out | apply below_alloc | apply pw_below_drewN | apply below_drew1) | exact HB.out)))); have n15_ := Aside0.mk (Kd.C_below (by repeat (first | (with_reducible exact HR322.out) | (with_reducible refine Kd.C_alloc ?_ _) | (with_reducible refine Kd.C_drewN ?_ _) | (with_reducible refine Kd.C_drew ?_) | exact HR322.out)) hb); have n16_ := Aside0.mk (below_step (by repeat (first | (with_reducible first | exact HB.out | apply below_alloc | apply pw_below_drewN | apply below_drew1) | exact HB.out)) hb); clear HO278; clear HO281; clear HO284; clear HO288; clear HO291; clear HO294; clear HO298; clear HO301; clear HO304; clear HO307; clear HO311; clear HO314; clear HO318; clear HO325; clear HR322; clear HB; have HO278 := n0_; have HO281 := n1_; have HO284 := n2_; have HO288 := n3_; have HO291 := n4_; have HO294 := n5_; have HO298 := n6_; have HO301 := n7_; have HO304 := n8_; have HO307 := n9_; have HO311 := n10_; have HO314 := n11_; have HO318 := n12_; have HO325 := n13_; have HO328 := n14_; have HR322 := n15_; have HB := n16_; clear n0_ n1_ n2_ n3_ n4_ n5_ n6_ n7_ n8_ n9_ n10_ n11_ n12_ n13_ n14_ n15_ n16_; clear hb ho56; obtain ⟨Ao57, co57, eo57⟩ := Kd.R_slice HO325.out; subst eo57; obtain ⟨Ao58, co58, eo58⟩ := Kd.R_slice HO328.out; subst eo58) | ((with_reducible refine gate_callee (f := 14) rfl ?_); refine goesL_ (some 51) rfl rfl Try.func14 (by kernel_rfl) rfl #[.slice Ao27 y319.length co27, .slice Ao57 y323.length co57, .slice Ao58 y326.length co58] rfl (by (try simp only [List.map_toArray, List.map_cons, List.map_nil]); first | done | rfl | (simp only [List.length_drop, List.length_take]; rfl)) ?_; (with_reducible refine (swap_Bytes.calls k _ _ y319 _ _ y323 _ _ y326 t329 t330 _ ?side1 ?side2 ?side3 ?side4 ?side5 ?side6 A6.out).mono ?_); (case side1 => repeat (first | exact (by repeat (first | (with_reducible exact HR322.out) | (with_reducible refine Kd.C_alloc ?_ _) | (with_reducible refine Kd.C_drewN ?_ _) | (with_reducible refine Kd.C_drew ?_) | exact HR322.out)) | (with_reducible refine Kd.C_alloc ?_ _) | (with_reducible refine Kd.C_drewN ?_ _) | (with_reducible refine Kd.C_drew ?_))); (case side2 => exact HC322.out); (case side3 => repeat (first | exact (Kd.R_reads' HO325.out).2.2 | (with_reducible refine Kd.C_alloc ?_ _) | (with_reducible refine Kd.C_drewN ?_ _) | (with_reducible refine Kd.C_drew ?_))); (case side4 => exact (Kd.R_reads' HO325.out).2.1); (case side5 => repeat (first | exact (Kd.R_reads' HO328.out).2.2 | (with_reducible refine Kd.C_alloc ?_ _) | (with_reducible refine Kd.C_drewN ?_ _) | (with_reducible refine Kd.C_drew ?_))); (case side6 => exact (Kd.R_reads' HO328.out).2.1); rintro e w59 ⟨v331, rfl, ho0, hb⟩; refine ⟨_, rfl, ?_⟩; have n0_ := Aside0.mk (Kd.R_below (by (with_reducible repeat (first | apply Kd.R_alloc | apply Kd.R_drewN | apply Kd.R_drew)); exact HO278.out) hb); have n1_ := Aside0.mk (Kd.R_below (by (with_reducible repeat (first | apply Kd.R_alloc | apply Kd.R_drewN | apply Kd.R_drew)); exact HO281.out) hb); have n2_ := Aside0.mk (Kd.R_below (by (with_reducible repeat (first | apply Kd.R_alloc | apply Kd.R_drewN | apply Kd.R_drew)); exact HO284.out) hb); have n3_ := Aside0.mk (Kd.R_below (by (with_reducible repeat (first | apply Kd.R_alloc | apply Kd.R_drewN | apply Kd.R_drew)); exact HO288.out) hb); have n4_ := Aside0.mk (Kd.R_below (by (with_reducible repeat (first | apply Kd.R_alloc | apply Kd.R_drewN | apply Kd.R_drew)); exact HO291.out) hb); have n5_ := Aside0.mk (Kd.R_below (by (with_reducible repeat (first | apply Kd.R_alloc | apply Kd.R_drewN | apply Kd.R_drew)); exact HO294.out) hb); have n6_ := Aside0.mk (Kd.R_below (by (with_reducible repeat (first | apply Kd.R_alloc | apply Kd.R_drewN | apply Kd.R_drew)); exact HO298.out) hb); have n7_ := Aside0.mk (Kd.R_below (by (with_reducible repeat (first | apply Kd.R_alloc | apply Kd.R_drewN | apply Kd.R_drew)); exact HO301.out) hb); have n8_ := Aside0.mk (Kd.R_below (by (with_reducible repeat (first | apply Kd.R_alloc | apply Kd.R_drewN | apply Kd.R_drew)); exact HO304.out) hb); have n9_ := Aside0.mk (Kd.R_below (by (with_reducible repeat (first | apply Kd.R_alloc | apply Kd.R_drewN | apply Kd.R_drew)); exact HO307.out) hb); have n10_ := Aside0.mk (Kd.R_below (by (with_reducible repeat (first | apply Kd.R_alloc | apply Kd.R_drewN | apply Kd.R_drew)); exact HO311.out) hb); have n11_ := Aside0.mk (Kd.R_below (by (with_reducible repeat (first | apply Kd.R_alloc | apply Kd.R_drewN | apply Kd.R_drew)); exact HO314.out) hb); have n12_ := Aside0.mk (Kd.R_below (by (with_reducible repeat (first | apply Kd.R_alloc | apply Kd.R_drewN | apply Kd.R_drew)); exact HO318.out) hb); have n13_ := Aside0.mk (Kd.R_below (by (with_reducible repeat (first | apply Kd.R_alloc | apply Kd.R_drewN | apply Kd.R_drew)); exact HO325.out) hb); have n14_ := Aside0.mk (Kd.R_below (by (with_reducible repeat (first | apply Kd.R_alloc | apply Kd.R_drewN | apply Kd.R_drew)); exact HO328.out) hb); have n15_ := Aside0.mk (Kd.R_lower ho0 (below_size (by repeat (first | (with_reducible first | exact HB.out | apply below_alloc | apply pw_below_drewN | apply below_drew1) | exact HB.out)))); have n16_ := Aside0.mk (Kd.C_below (by repeat (first | (with_reducible exact HR322.out) | (with_reducible refine Kd.C_alloc ?_ _) | (with_reducible refine Kd.C_drewN ?_ _) | (with_reducible refine Kd.C_drew ?_) | exact HR322.out)) hb); have n17_ := Aside0.mk (below_step (by repeat (first | (with_reducible first | exact HB.out | apply below_alloc | apply pw_below_drewN | apply below_drew1) | exact HB.out)) hb); clear HO278; clear HO281; clear HO284; clear HO288; clear HO291; clear HO294; clear HO298; clear HO301; clear HO304; clear HO307; clear HO311; clear HO314; clear HO318; clear HO325; clear HO328; clear HR322; clear HB; have HO278 := n0_; have HO281 := n1_; have HO284 := n2_; have HO288 := n3_; have HO291 := n4_; have HO294 := n5_; have HO298 := n6_; have HO301 := n7_; have HO304 := n8_; have HO307 := n9_; have HO311 := n10_; have HO314 := n11_; have HO318 := n12_; have HO325 := n13_; have HO328 := n14_; have HO332 := n15_; have HR322 := n16_; have HB := n17_; clear n0_ n1_ n2_ n3_ n4_ n5_ n6_ n7_ n8_ n9_ n10_ n11_ n12_ n13_ n14_ n15_ n16_ n17_; (try clear hb); (try clear hb2); (try clear hk); (try clear hi); (try clear ho0)))
  have hbE := HB.out
  obtain ⟨Aa, ca, rfl⟩ := Kd.R_slice HO288.out
  obtain ⟨Ab, cb, rfl⟩ := Kd.R_slice HO298.out
  obtain ⟨Ac, cc, rfl⟩ := Kd.R_slice HO311.out
  obtain ⟨Ad, cd, rfl⟩ := Kd.R_slice HO332.out
  have Ra := Aside0.mk (Kd.R_reads' HO288.out)
  have Rb := Aside0.mk (Kd.R_reads' HO298.out)
  have Rc := Aside0.mk (Kd.R_reads' HO311.out)
  have Ry := Aside0.mk (Kd.R_reads' HO278.out)
  have HBE := Aside0.mk hbE
  have e1 : ∀ (W : World) (A : Option Addr) (c : Nat), Kd.C (Kd.int .i64) W A 6 [97, 8235, 120, 121, 8236, 99] → 6 ≤ c → Kd.C (Kd.int .i64) W Aa t285.length t285 → Calls Try.prog 16 #[.slice Aa t285.length ca, .slice A 6 c] W fun e w' => e = .returned (.bool true) ∧ Drawn0 W w' := fun W A c h hc h2 => by
    have hA := A12.out
    rw [Ny333.out] at hA
    exact ductusref01_Ints.calls k _ _ t285 _ _ [97, 8235, 120, 121, 8236, 99] true W h2 (Ra.out.2.1) h hc hA
  have e2 : ∀ (W : World) (A : Option Addr) (c : Nat), Kd.C (Kd.int .i64) W A 3 [122, 8235, 8236] → 3 ≤ c → Kd.C (Kd.int .i64) W Ab t295.length t295 → Calls Try.prog 16 #[.slice Ab t295.length cb, .slice A 3 c] W fun e w' => e = .returned (.bool true) ∧ Drawn0 W w' := fun W A c h hc h2 => by
    have hA := A14.out
    rw [Ny337.out] at hA
    exact ductusref01_Ints.calls k _ _ t295 _ _ [122, 8235, 8236] true W h2 (Rb.out.2.1) h hc hA
  have e3 : ∀ (W : World) (A : Option Addr) (c : Nat), Kd.C (Kd.int .i64) W A 6 [97, 8235, 98, 8236, 45, 99] → 6 ≤ c → Kd.C (Kd.int .i64) W Ac t308.length t308 → Calls Try.prog 16 #[.slice Ac t308.length cc, .slice A 6 c] W fun e w' => e = .returned (.bool true) ∧ Drawn0 W w' := fun W A c h hc h2 => by
    have hA := A16.out
    rw [Ny341.out] at hA
    exact ductusref01_Ints.calls k _ _ t308 _ _ [97, 8235, 98, 8236, 45, 99] true W h2 (Rc.out.2.1) h hc hA
  have e4 : ∀ (W : World) (A1 : Option Addr) (c1 : Nat) (A : Option Addr) (c : Nat), Kd.C (Kd.int .i64) W A 3 [97, 98, 99] → 3 ≤ c → Kd.C (Kd.int .i64) W A1 t345.length t345 → t345.length ≤ c1 → Calls Try.prog 16 #[.slice A1 t345.length c1, .slice A 3 c] W fun e w' => e = .returned (.bool t351) ∧ Drawn0 W w' := fun W A1 c1 A c h hc h2 h3 => by
    have hA := A20.out
    rw [Ny348.out] at hA
    exact ductusref01_Ints.calls k _ _ t345 _ _ [97, 98, 99] t351 W h2 h3 h hc hA
  have E1 := Aside0.mk e1
  have E2 := Aside0.mk e2
  have E3 := Aside0.mk e3
  have E4 := Aside0.mk e4
  have A19' := A19
  clear e1 e2 e3 e4 hbE hcut52 HO278 HO281 HO284 HO288 HO291 HO294 HO298 HO301 HO304 HO307 HO311 HO314 HO318 HO325 HO328 HO332 HC322 KY52 KL52 q52 H A1 A2 A3 A4 A6 A12 A14 A16 A20 Ny279 Ny282 Ny289 Ny292 Ny299 Ny302 Ny305 Ny312 Ny319 Ny323 Ny326 Ny333 Ny337 Ny341 Ny348 HB
  generalize w59 = wz at Ra Rb Rc Ry HBE ⊢
  go_wp2_with (first
    | (go_at_call 16; (with_reducible refine (E1.out _ _ _ ?side1 (by decide) ?side2).mono ?_); (case side1 => exact C_lit _ _ _ (by decide) _ rfl _ (by first | rfl | (show _ = (World.alloc _ _).heap.size; simp only [World.size_alloc]; done) | (show _ = (World.alloc _ _).heap.size; rw [World.size_alloc]; show _ = (World.alloc _ _).heap.size + 1; simp only [World.size_alloc]; done))); (case side2 => repeat (first | exact Ra.out.2.2 | (with_reducible refine Kd.C_alloc ?_ _) | (with_reducible refine Kd.C_drewN ?_ _))); rintro e w' ⟨rfl, ⟨nd1, rfl⟩⟩)
    | (go_at_call 16; (with_reducible refine (E2.out _ _ _ ?side1 (by decide) ?side2).mono ?_); (case side1 => exact C_lit _ _ _ (by decide) _ rfl _ (by first | rfl | (show _ = (World.alloc _ _).heap.size; simp only [World.size_alloc]; done) | (show _ = (World.alloc _ _).heap.size; rw [World.size_alloc]; show _ = (World.alloc _ _).heap.size + 1; simp only [World.size_alloc]; done))); (case side2 => repeat (first | exact Rb.out.2.2 | (with_reducible refine Kd.C_alloc ?_ _) | (with_reducible refine Kd.C_drewN ?_ _))); rintro e w' ⟨rfl, ⟨nd2, rfl⟩⟩)
    | (go_at_call 16; (with_reducible refine (E3.out _ _ _ ?side1 (by decide) ?side2).mono ?_); (case side1 => exact C_lit _ _ _ (by decide) _ rfl _ (by first | rfl | (show _ = (World.alloc _ _).heap.size; simp only [World.size_alloc]; done) | (show _ = (World.alloc _ _).heap.size; rw [World.size_alloc]; show _ = (World.alloc _ _).heap.size + 1; simp only [World.size_alloc]; done))); (case side2 => repeat (first | exact Rc.out.2.2 | (with_reducible refine Kd.C_alloc ?_ _) | (with_reducible refine Kd.C_drewN ?_ _))); rintro e w' ⟨rfl, ⟨nd3, rfl⟩⟩)
    | (go_at_call 17; (with_reducible refine (swap_Plain.calls _ _ y276 t345 _ ?side1 ?side2 A19.out).mono ?_); (case side1 => repeat (first | exact Ry.out.2.2 | (with_reducible refine Kd.C_alloc ?_ _) | (with_reducible refine Kd.C_drewN ?_ _))); (case side2 => exact Ry.out.2.1); rintro e w73 ⟨v346, rfl, ho0, hb⟩; obtain ⟨Ap, cp, rfl⟩ := Kd.R_slice ho0; have HP := Aside0.mk (Kd.R_reads' ho0); have HBP := Aside0.mk hb; clear ho0 hb)
    | (go_at_call 16; (with_reducible refine (E4.out _ _ _ _ _ ?side1 (by decide) ?side2 ?side3).mono ?_); (case side1 => exact C_lit _ _ _ (by decide) _ rfl _ (by first | rfl | (show _ = (World.alloc _ _).heap.size; simp only [World.size_alloc]; done) | (show _ = (World.alloc _ _).heap.size; rw [World.size_alloc]; show _ = (World.alloc _ _).heap.size + 1; simp only [World.size_alloc]; done))); (case side2 => repeat (first | exact HP.out.2.2 | (with_reducible refine Kd.C_alloc ?_ _) | (with_reducible refine Kd.C_drewN ?_ _))); (case side3 => exact HP.out.2.1); rintro e w' ⟨rfl, ⟨nd4, rfl⟩⟩))
  go_ret
  exact ⟨rfl, by
    repeat (first | apply below_alloc | apply pw_below_drewN)
    exact below_step (below_step HBE.out (by repeat (first | exact Below.refl _ _ | apply below_alloc | apply pw_below_drewN))) HBP.out⟩

def ductuslaw27_great.f (l0_0 : List Int) (l0_1 : List (S39)) (l0_2 : List Int) : Option (Bool) := if (l0_0.length : Int) > 500 then (some true) else (if (l0_1.length : Int) > 500 then (some true) else (some (decide ((l0_2.length : Int) > 500))))
set_option maxHeartbeats 8000000 in
set_option maxRecDepth 100000 in
theorem ductuslaw27_great.calls (A0_0 : Option Addr) (c0_0 : Nat) (l0_0 : List Int) (A0_1 : Option Addr) (c0_1 : Nat) (l0_1 : List (S39)) (A0_2 : Option Addr) (c0_2 : Nat) (l0_2 : List Int) (r : Bool) (w : World) (hr0_0 : Kd.C (Kd.int .i64) w A0_0 l0_0.length l0_0) (hc0_0 : l0_0.length ≤ c0_0) (hr0_1 : Kd.C k39 w A0_1 l0_1.length l0_1) (hc0_1 : l0_1.length ≤ c0_1) (hr0_2 : Kd.C (Kd.int .i64) w A0_2 l0_2.length l0_2) (hc0_2 : l0_2.length ≤ c0_2) (h : ductuslaw27_great.f l0_0 l0_1 l0_2 = some r) :
    Calls Try.prog 9 #[.agg #[.slice A0_0 l0_0.length c0_0, .slice A0_1 l0_1.length c0_1, .slice A0_2 l0_2.length c0_2]] w fun e w' => e = .returned (.bool r) ∧ Below w.heap.size w w' := by
  have hu25 := Try.underlying25
  have HR0_0 := Aside0.mk hr0_0
  have HC0_0 := Aside0.mk hc0_0
  clear hr0_0 hc0_0
  have HR0_1 := Aside0.mk hr0_1
  have HC0_1 := Aside0.mk hc0_1
  clear hr0_1 hc0_1
  have HR0_2 := Aside0.mk hr0_2
  have HC0_2 := Aside0.mk hc0_2
  clear hr0_2 hc0_2
  have HB := Aside0.mk (Below.refl w.heap.size w)
  have H : (if (l0_0.length : Int) > 500 then (some true) else (if (l0_1.length : Int) > 500 then (some true) else (some (decide ((l0_2.length : Int) > 500))))) = some r := h
  clear h
  by_cases c2 : (l0_0.length : Int) > 500
  · rw [if_pos c2] at H
    have c2b0 : decide (500 < (l0_0.length : Int)) = true := decide_eq_true c2
    have c2b1 : decide (500 < l0_0.length) = true := decide_eq_true (by omega)
    clear c2
    obtain rfl := Option.some.inj H
    go_enter Try.func9, Try.ntmps9
    go_wp2_with (first | ((with_reducible refine gate_dst (N := 1) rfl ?_); (try (refine gate_guard (by rfl) ?_; dsimp only)); refine box_event ?hg (N := 1) ?hd (cs := #[.slice A0_0 l0_0.length c0_0, .slice A0_1 l0_1.length c0_1, .slice A0_2 l0_2.length c0_2]) (t := 25) ?hr ?_; (case hd => rfl); (case hg => rfl); (case hr => first | (go_simp; done) | (go_simp; rfl)); intro gb352 hg w3 hbox hb; have n0_ := Aside0.mk (below_step (by repeat (first | (with_reducible first | exact HB.out | apply below_alloc | apply pw_below_drewN | apply below_drew1) | exact HB.out)) hb); have n1_ := Aside0.mk (hbox); have n2_ := Aside0.mk ((by rw [hg]; exact (below_size (by repeat (first | (with_reducible first | exact HB.out | apply below_alloc | apply pw_below_drewN | apply below_drew1) | exact HB.out))) : w.heap.size ≤ gb352)); have n3_ := Aside0.mk ((by rw [hg]; exact (below_size (by repeat (first | (with_reducible first | exact HB.out | apply below_alloc | apply pw_below_drewN | apply below_drew1) | exact HB.out))) : w.heap.size ≤ gb352)); clear HB; have HB := n0_; have BK352 := n1_; have GW352 := n2_; have GE352 := n3_; clear n0_ n1_ n2_ n3_; clear hb hbox hg; have hcz4_0 : w3.cell? ⟨gb352, 0, none⟩ = some (.slice A0_0 l0_0.length c0_0) := (blk_cell BK352.out 0).trans rfl; have hcz4_1 : w3.cell? ⟨gb352, 1, none⟩ = some (.slice A0_1 l0_1.length c0_1) := (blk_cell BK352.out 1).trans rfl; have hcz4_2 : w3.cell? ⟨gb352, 2, none⟩ = some (.slice A0_2 l0_2.length c0_2) := (blk_cell BK352.out 2).trans rfl; have hfz4_0 := blk_frozen BK352.out 0; have hfz4_1 := blk_frozen BK352.out 1; have hfz4_2 := blk_frozen BK352.out 2))
    go_ret
    exact ⟨by first | rfl | (simp [errW_none, errW_some] <;> rfl) | (simp [*, errW_none, errW_some] <;> rfl), by repeat (first | (with_reducible first | exact HB.out | apply below_alloc | apply pw_below_drewN | apply below_drew1 | refine below_set ?_ GE352.out) | exact HB.out)⟩
  rw [if_neg c2] at H
  have c2b0 : decide (500 < (l0_0.length : Int)) = false := decide_eq_false c2
  have c2b1 : decide (500 < l0_0.length) = false := decide_eq_false (by omega)
  clear c2
  by_cases c5 : (l0_1.length : Int) > 500
  · rw [if_pos c5] at H
    have c5b0 : decide (500 < (l0_1.length : Int)) = true := decide_eq_true c5
    have c5b1 : decide (500 < l0_1.length) = true := decide_eq_true (by omega)
    clear c5
    obtain rfl := Option.some.inj H
    go_enter Try.func9, Try.ntmps9
    go_wp2_with (first | ((with_reducible refine gate_dst (N := 1) rfl ?_); (try (refine gate_guard (by rfl) ?_; dsimp only)); refine box_event ?hg (N := 1) ?hd (cs := #[.slice A0_0 l0_0.length c0_0, .slice A0_1 l0_1.length c0_1, .slice A0_2 l0_2.length c0_2]) (t := 25) ?hr ?_; (case hd => rfl); (case hg => rfl); (case hr => first | (go_simp; done) | (go_simp; rfl)); intro gb352 hg w6 hbox hb; have n0_ := Aside0.mk (below_step (by repeat (first | (with_reducible first | exact HB.out | apply below_alloc | apply pw_below_drewN | apply below_drew1) | exact HB.out)) hb); have n1_ := Aside0.mk (hbox); have n2_ := Aside0.mk ((by rw [hg]; exact (below_size (by repeat (first | (with_reducible first | exact HB.out | apply below_alloc | apply pw_below_drewN | apply below_drew1) | exact HB.out))) : w.heap.size ≤ gb352)); have n3_ := Aside0.mk ((by rw [hg]; exact (below_size (by repeat (first | (with_reducible first | exact HB.out | apply below_alloc | apply pw_below_drewN | apply below_drew1) | exact HB.out))) : w.heap.size ≤ gb352)); clear HB; have HB := n0_; have BK352 := n1_; have GW352 := n2_; have GE352 := n3_; clear n0_ n1_ n2_ n3_; clear hb hbox hg; have hcz7_0 : w6.cell? ⟨gb352, 0, none⟩ = some (.slice A0_0 l0_0.length c0_0) := (blk_cell BK352.out 0).trans rfl; have hcz7_1 : w6.cell? ⟨gb352, 1, none⟩ = some (.slice A0_1 l0_1.length c0_1) := (blk_cell BK352.out 1).trans rfl; have hcz7_2 : w6.cell? ⟨gb352, 2, none⟩ = some (.slice A0_2 l0_2.length c0_2) := (blk_cell BK352.out 2).trans rfl; have hfz7_0 := blk_frozen BK352.out 0; have hfz7_1 := blk_frozen BK352.out 1; have hfz7_2 := blk_frozen BK352.out 2))
    go_ret
    exact ⟨by first | rfl | (simp [errW_none, errW_some] <;> rfl) | (simp [*, errW_none, errW_some] <;> rfl), by repeat (first | (with_reducible first | exact HB.out | apply below_alloc | apply pw_below_drewN | apply below_drew1 | refine below_set ?_ GE352.out) | exact HB.out)⟩
  rw [if_neg c5] at H
  have c5b0 : decide (500 < (l0_1.length : Int)) = false := decide_eq_false c5
  have c5b1 : decide (500 < l0_1.length) = false := decide_eq_false (by omega)
  clear c5
  obtain rfl := Option.some.inj H
  go_enter Try.func9, Try.ntmps9
  go_wp2_with (first | ((with_reducible refine gate_dst (N := 1) rfl ?_); (try (refine gate_guard (by rfl) ?_; dsimp only)); refine box_event ?hg (N := 1) ?hd (cs := #[.slice A0_0 l0_0.length c0_0, .slice A0_1 l0_1.length c0_1, .slice A0_2 l0_2.length c0_2]) (t := 25) ?hr ?_; (case hd => rfl); (case hg => rfl); (case hr => first | (go_simp; done) | (go_simp; rfl)); intro gb352 hg w8 hbox hb; have n0_ := Aside0.mk (below_step (by repeat (first | (with_reducible first | exact HB.out | apply below_alloc | apply pw_below_drewN | apply below_drew1) | exact HB.out)) hb); have n1_ := Aside0.mk (hbox); have n2_ := Aside0.mk ((by rw [hg]; exact (below_size (by repeat (first | (with_reducible first | exact HB.out | apply below_alloc | apply pw_below_drewN | apply below_drew1) | exact HB.out))) : w.heap.size ≤ gb352)); have n3_ := Aside0.mk ((by rw [hg]; exact (below_size (by repeat (first | (with_reducible first | exact HB.out | apply below_alloc | apply pw_below_drewN | apply below_drew1) | exact HB.out))) : w.heap.size ≤ gb352)); clear HB; have HB := n0_; have BK352 := n1_; have GW352 := n2_; have GE352 := n3_; clear n0_ n1_ n2_ n3_; clear hb hbox hg; have hcz9_0 : w8.cell? ⟨gb352, 0, none⟩ = some (.slice A0_0 l0_0.length c0_0) := (blk_cell BK352.out 0).trans rfl; have hcz9_1 : w8.cell? ⟨gb352, 1, none⟩ = some (.slice A0_1 l0_1.length c0_1) := (blk_cell BK352.out 1).trans rfl; have hcz9_2 : w8.cell? ⟨gb352, 2, none⟩ = some (.slice A0_2 l0_2.length c0_2) := (blk_cell BK352.out 2).trans rfl; have hfz9_0 := blk_frozen BK352.out 0; have hfz9_1 := blk_frozen BK352.out 1; have hfz9_2 := blk_frozen BK352.out 2))
  go_ret
  exact ⟨by first | rfl | (simp [errW_none, errW_some] <;> rfl) | (simp [*, errW_none, errW_some] <;> rfl), by repeat (first | (with_reducible first | exact HB.out | apply below_alloc | apply pw_below_drewN | apply below_drew1 | refine below_set ?_ GE352.out) | exact HB.out)⟩

end Go.Proofs.Ythgmkbghdobmlaa.P
namespace Go.Proofs.Ythgmkbghdobmlaa.P
open Go.RowKit Go.Proofs.YthgmkbghdobmlaaW.PrintWords Go.Proofs.YthgmkbghdobmlaaW.PrintLast
set_option linter.unusedVariables false

def ductusref02_Of.tbl : List (Int × Int × Int) := [(0, 8, 9), (9, 9, 11), (10, 10, 10), (11, 11, 11), (12, 12, 12), (13, 13, 10), (14, 27, 9), (28, 30, 10), (31, 31, 11), (32, 32, 12), (33, 34, 13), (35, 37, 5), (38, 42, 13), (43, 43, 4), (44, 44, 7), (45, 45, 4), (46, 47, 7), (48, 57, 3), (58, 58, 7), (59, 64, 13), (91, 96, 13), (123, 126, 13), (127, 132, 9), (133, 133, 10), (134, 159, 9), (160, 160, 7), (161, 161, 13), (162, 165, 5), (166, 169, 13), (171, 172, 13), (173, 173, 9), (174, 175, 13), (176, 177, 5), (178, 179, 3), (180, 180, 13), (182, 184, 13), (185, 185, 3), (187, 191, 13), (215, 215, 13), (247, 247, 13), (768, 879, 8), (1425, 1469, 8), (1470, 1470, 1), (1471, 1471, 8), (1472, 1472, 1), (1473, 1474, 8), (1488, 1524, 1), (1536, 1541, 6), (1542, 1543, 13), (1544, 1544, 2), (1545, 1546, 5), (1547, 1547, 2), (1548, 1548, 7), (1549, 1549, 2), (1552, 1562, 8), (1563, 1610, 2), (1611, 1631, 8), (1632, 1641, 6), (1642, 1642, 5), (1643, 1644, 6), (1645, 1647, 2), (1648, 1648, 8), (1649, 1749, 2), (8203, 8205, 9), (8207, 8207, 1), (8208, 8231, 13), (8232, 8232, 12), (8233, 8233, 10), (8234, 8234, 14), (8235, 8235, 16), (8236, 8236, 18), (8237, 8237, 15), (8238, 8238, 17), (8239, 8239, 7), (8240, 8244, 5), (8245, 8259, 13), (8294, 8294, 19), (8295, 8295, 20), (8296, 8296, 21), (8297, 8297, 22), (8304, 8304, 3), (8308, 8313, 3), (8352, 8384, 5), (8592, 8721, 13), (8722, 8722, 4), (8723, 8723, 5), (8724, 9013, 13), (12296, 12305, 13), (65279, 65279, 9), (128512, 128591, 13)]
def ductusref02_Of.f (a0 : Int) : Option Int := some (swFrom a0 ductusref02_Of.tbl)

section
variable {P : Program} {Q : Exit → Act → World → Prop} {w : World} {c r : Int}
theorem put_getD (a : Act) (d : Nat) (v : Value) (i : Nat) (h : d < a.tmps.size) : (a.put (some d) v).tmps.getD i undef = if d = i then v else a.tmps.getD i undef := by
  unfold Act.put
  simp only [Array.getD_eq_getD_getElem?]
  by_cases hd : d = i
  · subst hd
    simp [h]
  · simp [hd]
theorem put_size (a : Act) (d : Nat) (v : Value) : (a.put (some d) v).tmps.size = a.tmps.size := by
  unfold Act.put
  simp
theorem yields {ops : Array Oper} {tmps : Array Value} {j d : Nat} {b : Bool} (hd : (ops[j]?).bind (·.dst) = some d) (hs : d < tmps.size) (h : tmps.getD d undef = .bool b) : yielded ops tmps j = some b := by
  unfold yielded
  have he : tmps[d]? = some (.bool b) := by
    rw [Array.getElem?_eq_getElem hs]
    rw [Array.getD_eq_getD_getElem?, Array.getElem?_eq_getElem hs, Option.getD_some] at h
    rw [h]
  simp [hd, he]
/-- From here on the code hands back what the table says of c. -/
def SwOk (P : Program) (Q : Exit → Act → World → Prop) (w : World) (c r : Int) (S : Nat) (l : List (Int × Int × Int)) (code : Code) : Prop :=
  swFrom c l = r → ∀ a : Act, a.tmps.getD 0 undef = .int .i64 c → a.tmps.size = S → a.defers = [] → code.wp P Q a w
/-- What is handed back. -/
def SwQ (Q : Exit → Act → World → Prop) (w : World) (r : Int) (S : Nat) : Prop := ∀ a : Act, a.tmps.getD 2 undef = .int .i64 r → a.tmps.size = S → a.defers = [] → Q .ret a w
theorem sw_ret {S : Nat} (hQ : SwQ Q w r S) {id : Nat} {ty : TypeId} {pos : String} {af : Array Edge} (a : Act) (hs : a.tmps.size = S) (h2 : 2 < S) (hd : a.defers = []) :
    ((Code.region id #[{ dst := some 2, op := .assign (.const (.int .i64 r)), type := ty, pos := pos, after := af, guard := none }] false).seq Code.ret).wp P Q a w := by
  refine wp_seq (wp_region_list ?_)
  refine Kd.event_run (w1 := w) (v := .int .i64 r) rfl rfl (wpList_nil ?_)
  show Code.ret.wp P Q _ w
  refine wp_ret (hQ _ ?_ ?_ ?_)
  · rw [put_getD _ _ _ _ (by omega)]
    simp
  · rw [put_size]
    exact hs
  · exact hd
theorem SwOk.eqc {S : Nat} {t id id2 : Nat} {ty ty' ty2 ty3 ty4 : TypeId} {p1 p2 p3 p4 : String} {f1 f2 f3 f4 : Array Edge} {lo x : Int} {rest : Code} {l : List (Int × Int × Int)} (hQ : SwQ Q w r S) (ht : 2 < t) (htS : t + 2 < S) (hrest : SwOk P Q w c r S l rest) :
    SwOk P Q w c r S ((lo, lo, x) :: l) ((Code.region id #[{ dst := some (t + 1), op := .move (.tmp 0), type := ty, pos := p1, after := f1, guard := none }, { dst := some (t + 2), op := .binOp .eql ty' (.tmp (t + 1)) (.const (.int .i64 lo)) ty', type := ty2, pos := p2, after := f2, guard := none }, { dst := some t, op := .assign (.tmp (t + 2)), type := ty3, pos := p3, after := f3, guard := none }] false).seq
      (Code.cond (.tmp t) ((Code.region id2 #[{ dst := some 2, op := .assign (.const (.int .i64 x)), type := ty4, pos := p4, after := f4, guard := none }] false).seq Code.ret) rest)) := by
  intro hr a h0 hs hd
  obtain ⟨b, hb⟩ : ∃ b : Bool, b = (c == lo) := ⟨_, rfl⟩
  refine wp_seq (wp_region_list ?_)
  refine Kd.event_run (w1 := w) (v := .int .i64 c) rfl (by simp [execOp, Act.eval, h0]) ?_
  obtain ⟨a1, e1⟩ : ∃ a1, a1 = a.put (some (t + 1)) (.int .i64 c) := ⟨_, rfl⟩
  have s1 : a1.tmps.size = S := by rw [e1, put_size]; exact hs
  have g1 : a1.tmps.getD (t + 1) undef = .int .i64 c := by rw [e1, put_getD _ _ _ _ (by omega)]; simp
  have z1 : a1.tmps.getD 0 undef = .int .i64 c := by rw [e1, put_getD _ _ _ _ (by omega), if_neg (by omega)]; exact h0
  have d1 : a1.defers = [] := by rw [e1]; exact hd
  show wpList _ _ _ _ (a.put (some (t + 1)) (.int .i64 c)) _
  rw [← e1]
  refine Kd.event_run (w1 := w) (v := .bool b) rfl (by simp [execOp, Act.eval, g1, eqGuard, go_sem, hb]) ?_
  obtain ⟨a2, e2⟩ : ∃ a2, a2 = a1.put (some (t + 2)) (.bool b) := ⟨_, rfl⟩
  have s2 : a2.tmps.size = S := by rw [e2, put_size]; exact s1
  have g2 : a2.tmps.getD (t + 2) undef = .bool b := by rw [e2, put_getD _ _ _ _ (by omega)]; simp
  have z2 : a2.tmps.getD 0 undef = .int .i64 c := by rw [e2, put_getD _ _ _ _ (by omega), if_neg (by omega)]; exact z1
  have d2 : a2.defers = [] := by rw [e2]; exact d1
  show wpList _ _ _ _ (a1.put (some (t + 2)) (.bool b)) _
  rw [← e2]
  refine Kd.event_run (w1 := w) (v := .bool b) rfl (by simp [execOp, Act.eval, g2]) (wpList_nil ?_)
  obtain ⟨a3, e3⟩ : ∃ a3, a3 = a2.put (some t) (.bool b) := ⟨_, rfl⟩
  have s3 : a3.tmps.size = S := by rw [e3, put_size]; exact s2
  have g3 : a3.tmps.getD t undef = .bool b := by rw [e3, put_getD _ _ _ _ (by omega)]; simp
  have z3 : a3.tmps.getD 0 undef = .int .i64 c := by rw [e3, put_getD _ _ _ _ (by omega), if_neg (by omega)]; exact z2
  have d3 : a3.defers = [] := by rw [e3]; exact d2
  show (Code.cond _ _ _).wp P Q (a2.put (some t) (.bool b)) w
  rw [← e3]
  refine wp_cond_split (t := b) g3 (fun hb1 => ?_) (fun hb0 => ?_)
  · have hc : c = lo := by rw [hb1] at hb; simpa using hb.symm
    have hx : x = r := by rw [← hr]; simp [swFrom, hc]
    rw [hx]
    exact sw_ret hQ a3 s3 (by omega) d3
  · have hc : ¬ c = lo := by rw [hb0] at hb; simpa using hb.symm
    refine hrest ?_ a3 z3 s3 d3
    rw [← hr]
    simp only [swFrom]
    rw [if_neg (by omega)]
theorem SwOk.rng {S : Nat} {t id id2 : Nat} {ty ty' ty2 ty3 ty4 : TypeId} {p1 p2 p3 p4 p5 p6 p7 p8 : String} {f1 f2 f3 f4 f5 f6 f7 f8 : Array Edge} {lo hi x : Int} {rest : Code} {l : List (Int × Int × Int)} (hQ : SwQ Q w r S) (ht : 2 < t) (htS : t + 6 < S) (hrest : SwOk P Q w c r S l rest) :
    SwOk P Q w c r S ((lo, hi, x) :: l) ((Code.region id #[{ dst := some (t + 1), op := .move (.tmp 0), type := ty, pos := p1, after := f1, guard := none }, { dst := some (t + 2), op := .binOp .geq ty' (.tmp (t + 1)) (.const (.int .i64 lo)) ty', type := ty2, pos := p2, after := f2, guard := none }, { dst := some (t + 3), op := .move (.tmp (t + 2)), type := ty2, pos := p3, after := f3, guard := none },
        { dst := some (t + 4), op := .move (.tmp 0), type := ty, pos := p4, after := f4, guard := some (2, true) }, { dst := some (t + 5), op := .binOp .leq ty' (.tmp (t + 4)) (.const (.int .i64 hi)) ty', type := ty2, pos := p5, after := f5, guard := some (2, true) }, { dst := some (t + 6), op := .pick (.tmp (t + 3)) (.tmp (t + 5)) (.const (.bool false)), type := ty2, pos := p6, after := f6, guard := none }, { dst := some t, op := .assign (.tmp (t + 6)), type := ty3, pos := p7, after := f7, guard := none }] false).seq
      (Code.cond (.tmp t) ((Code.region id2 #[{ dst := some 2, op := .assign (.const (.int .i64 x)), type := ty4, pos := p8, after := f8, guard := none }] false).seq Code.ret) rest)) := by
  intro hr a h0 hs hd
  obtain ⟨b, hb⟩ : ∃ b : Bool, b = decide (c ≥ lo) := ⟨_, rfl⟩
  obtain ⟨q, hq⟩ : ∃ q : Bool, q = decide (c ≤ hi) := ⟨_, rfl⟩
  refine wp_seq (wp_region_list ?_)
  refine Kd.event_run (w1 := w) (v := .int .i64 c) rfl (by simp [execOp, Act.eval, h0]) ?_
  obtain ⟨a1, e1⟩ : ∃ a1, a1 = a.put (some (t + 1)) (.int .i64 c) := ⟨_, rfl⟩
  have s1 : a1.tmps.size = S := by rw [e1, put_size]; exact hs
  have g1 : a1.tmps.getD (t + 1) undef = .int .i64 c := by rw [e1, put_getD _ _ _ _ (by omega)]; simp
  have z1 : a1.tmps.getD 0 undef = .int .i64 c := by rw [e1, put_getD _ _ _ _ (by omega), if_neg (by omega)]; exact h0
  have d1 : a1.defers = [] := by rw [e1]; exact hd
  show wpList _ _ _ _ (a.put (some (t + 1)) (.int .i64 c)) _
  rw [← e1]
  clear e1 h0 hs hd
  refine Kd.event_run (w1 := w) (v := .bool b) rfl (by simp [execOp, Act.eval, g1, eqGuard, go_sem, hb]) ?_
  obtain ⟨a2, e2⟩ : ∃ a2, a2 = a1.put (some (t + 2)) (.bool b) := ⟨_, rfl⟩
  have s2 : a2.tmps.size = S := by rw [e2, put_size]; exact s1
  have g2 : a2.tmps.getD (t + 2) undef = .bool b := by rw [e2, put_getD _ _ _ _ (by omega)]; simp
  have z2 : a2.tmps.getD 0 undef = .int .i64 c := by rw [e2, put_getD _ _ _ _ (by omega), if_neg (by omega)]; exact z1
  have d2 : a2.defers = [] := by rw [e2]; exact d1
  show wpList _ _ _ _ (a1.put (some (t + 2)) (.bool b)) _
  rw [← e2]
  clear e2 g1 z1 s1 d1
  refine Kd.event_run (w1 := w) (v := .bool b) rfl (by simp [execOp, Act.eval, g2]) ?_
  obtain ⟨a3, e3⟩ : ∃ a3, a3 = a2.put (some (t + 3)) (.bool b) := ⟨_, rfl⟩
  have s3 : a3.tmps.size = S := by rw [e3, put_size]; exact s2
  have g3 : a3.tmps.getD (t + 3) undef = .bool b := by rw [e3, put_getD _ _ _ _ (by omega)]; simp
  have z3 : a3.tmps.getD 0 undef = .int .i64 c := by rw [e3, put_getD _ _ _ _ (by omega), if_neg (by omega)]; exact z2
  have d3 : a3.defers = [] := by rw [e3]; exact d2
  show wpList _ _ _ _ (a2.put (some (t + 3)) (.bool b)) _
  rw [← e3]
  clear e3 g2 z2 s2 d2
  obtain ⟨a5, s5, g5, z5, d5, q5, H5⟩ : ∃ a5 : Act, a5.tmps.size = S ∧ a5.tmps.getD (t + 3) undef = .bool b ∧ a5.tmps.getD 0 undef = .int .i64 c ∧ a5.defers = [] ∧ (b = true → a5.tmps.getD (t + 5) undef = .bool q) ∧
      ∀ (ops : Array Oper) (Q' : Exit → Act → World → Prop) (l' : List Oper), (ops[2]?).bind (·.dst) = some (t + 3) → wpList P ops Q' l' a5 w →
        wpList P ops Q' ({ dst := some (t + 4), op := .move (.tmp 0), type := ty, pos := p4, after := f4, guard := some (2, true) } :: { dst := some (t + 5), op := .binOp .leq ty' (.tmp (t + 4)) (.const (.int .i64 hi)) ty', type := ty2, pos := p5, after := f5, guard := some (2, true) } :: l') a3 w := by
    cases b with
    | true =>
      obtain ⟨a4, e4⟩ : ∃ a4, a4 = a3.put (some (t + 4)) (.int .i64 c) := ⟨_, rfl⟩
      have s4 : a4.tmps.size = S := by rw [e4, put_size]; exact s3
      have k4 : a4.tmps.getD (t + 4) undef = .int .i64 c := by rw [e4, put_getD _ _ _ _ (by omega)]; simp
      have g4 : a4.tmps.getD (t + 3) undef = .bool true := by rw [e4, put_getD _ _ _ _ (by omega), if_neg (by omega)]; exact g3
      have z4 : a4.tmps.getD 0 undef = .int .i64 c := by rw [e4, put_getD _ _ _ _ (by omega), if_neg (by omega)]; exact z3
      have d4 : a4.defers = [] := by rw [e4]; exact d3
      refine ⟨a4.put (some (t + 5)) (.bool q), by rw [put_size]; exact s4, by rw [put_getD _ _ _ _ (by omega), if_neg (by omega)]; exact g4, by rw [put_getD _ _ _ _ (by omega), if_neg (by omega)]; exact z4, d4, fun _ => by rw [put_getD _ _ _ _ (by omega)]; simp, fun ops Q' l' hd2 h => ?_⟩
      refine wpList_step fun K hK => ?_
      rw [if_pos (by simp [Region.wanted, yields hd2 (by omega) g3])]
      unfold Oper.wp
      have hx : (execOp a3.eval { dst := some (t + 4), op := .move (.tmp 0), type := ty, pos := p4, after := f4, guard := some (2, true) }).run P w = .ok (.value (.int .i64 c)) w := by simp [execOp, Act.eval, z3]
      rw [hx]
      refine hK _ _ ?_
      show wpList _ _ _ _ (a3.put (some (t + 4)) (.int .i64 c)) _
      rw [← e4]
      refine wpList_step fun K hK => ?_
      rw [if_pos (by simp [Region.wanted, yields hd2 (by omega) g4])]
      unfold Oper.wp
      have hx : (execOp a4.eval { dst := some (t + 5), op := .binOp .leq ty' (.tmp (t + 4)) (.const (.int .i64 hi)) ty', type := ty2, pos := p5, after := f5, guard := some (2, true) }).run P w = .ok (.value (.bool q)) w := by simp [execOp, Act.eval, k4, eqGuard, go_sem, hq]
      rw [hx]
      exact hK _ _ h
    | false =>
      obtain ⟨a4, e4⟩ : ∃ a4, a4 = a3.put (some (t + 4)) undef := ⟨_, rfl⟩
      have s4 : a4.tmps.size = S := by rw [e4, put_size]; exact s3
      have g4 : a4.tmps.getD (t + 3) undef = .bool false := by rw [e4, put_getD _ _ _ _ (by omega), if_neg (by omega)]; exact g3
      have z4 : a4.tmps.getD 0 undef = .int .i64 c := by rw [e4, put_getD _ _ _ _ (by omega), if_neg (by omega)]; exact z3
      have d4 : a4.defers = [] := by rw [e4]; exact d3
      refine ⟨a4.put (some (t + 5)) undef, by rw [put_size]; exact s4, by rw [put_getD _ _ _ _ (by omega), if_neg (by omega)]; exact g4, by rw [put_getD _ _ _ _ (by omega), if_neg (by omega)]; exact z4, d4, fun h => (by cases h), fun ops Q' l' hd2 h => ?_⟩
      refine wpList_step fun K hK => ?_
      rw [if_neg (by simp [Region.wanted, yields hd2 (by omega) g3])]
      refine hK _ _ ?_
      show wpList _ _ _ _ (a3.put (some (t + 4)) undef) _
      rw [← e4]
      refine wpList_step fun K hK => ?_
      rw [if_neg (by simp [Region.wanted, yields hd2 (by omega) g4])]
      exact hK _ _ h
  refine H5 _ _ _ rfl ?_
  refine Kd.event_run (w1 := w) (v := .bool (b && q)) rfl ?_ ?_
  · cases b with
    | true => simp [execOp, Act.eval, g5, q5 rfl, asBool]
    | false => simp [execOp, Act.eval, g5, asBool]
  obtain ⟨a6, e6⟩ : ∃ a6, a6 = a5.put (some (t + 6)) (.bool (b && q)) := ⟨_, rfl⟩
  have s6 : a6.tmps.size = S := by rw [e6, put_size]; exact s5
  have g6 : a6.tmps.getD (t + 6) undef = .bool (b && q) := by rw [e6, put_getD _ _ _ _ (by omega)]; simp
  have z6 : a6.tmps.getD 0 undef = .int .i64 c := by rw [e6, put_getD _ _ _ _ (by omega), if_neg (by omega)]; exact z5
  have d6 : a6.defers = [] := by rw [e6]; exact d5
  show wpList _ _ _ _ (a5.put (some (t + 6)) (.bool (b && q))) _
  rw [← e6]
  refine Kd.event_run (w1 := w) (v := .bool (b && q)) rfl (by simp [execOp, Act.eval, g6]) (wpList_nil ?_)
  obtain ⟨a7, e7⟩ : ∃ a7, a7 = a6.put (some t) (.bool (b && q)) := ⟨_, rfl⟩
  have s7 : a7.tmps.size = S := by rw [e7, put_size]; exact s6
  have g7 : a7.tmps.getD t undef = .bool (b && q) := by rw [e7, put_getD _ _ _ _ (by omega)]; simp
  have z7 : a7.tmps.getD 0 undef = .int .i64 c := by rw [e7, put_getD _ _ _ _ (by omega), if_neg (by omega)]; exact z6
  have d7 : a7.defers = [] := by rw [e7]; exact d6
  show (Code.cond _ _ _).wp P Q (a6.put (some t) (.bool (b && q))) w
  rw [← e7]
  refine wp_cond_split (t := (b && q)) g7 (fun hb1 => ?_) (fun hb0 => ?_)
  · have hc : lo ≤ c ∧ c ≤ hi := by
      rw [Bool.and_eq_true, hb, hq, decide_eq_true_eq, decide_eq_true_eq] at hb1
      exact hb1
    have hx : x = r := by rw [← hr]; simp [swFrom, hc]
    rw [hx]
    exact sw_ret hQ a7 s7 (by omega) d7
  · have hc : ¬ (lo ≤ c ∧ c ≤ hi) := by
      rw [hb, hq, ← Bool.decide_and, decide_eq_false_iff_not] at hb0
      exact hb0
    refine hrest ?_ a7 z7 s7 d7
    rw [← hr]
    simp only [swFrom]
    rw [if_neg hc]
theorem SwOk.last {S : Nat} (hk : ∀ a : Act, r = 0 → a.tmps.getD 0 undef = .int .i64 c → a.tmps.size = S → a.defers = [] → Q .normal a w) : SwOk P Q w c r S [] Code.skip :=
  fun hr a h0 hs hd => wp_skip (hk a hr.symm h0 hs hd)
end

set_option maxRecDepth 100000 in
theorem ductusref02_Of.calls (a0 : Int) (r : Int) (w : World) (h : ductusref02_Of.f a0 = some r) :
    Calls Try.prog 56 #[.int .i64 a0] w fun e w' => e = .returned (.int .i64 r) ∧ Drawn0 w w' := by
  have hr := Option.some.inj h
  clear h
  go_enter Try.func56, Try.ntmps56
  refine wp_seq (wp_region_list ?_)
  refine Kd.event_run (w1 := w) (v := .int .i64 0) rfl rfl (wpList_nil ?_)
  refine wp_seq (wp_block ?_)
  refine (?_ : ∀ Q, SwQ Q w r 453 → (∀ a : Act, r = 0 → a.tmps.getD 0 undef = .int .i64 a0 → a.tmps.size = 453 → a.defers = [] → Q .normal a w) → SwOk Try.prog Q w a0 r 453 ductusref02_Of.tbl _) _ ?_ ?_ hr _ rfl rfl rfl
  · intro Q hQ hn
    unfold ductusref02_Of.tbl
    refine SwOk.rng hQ (by omega) (by omega) ?_
    refine SwOk.eqc hQ (by omega) (by omega) ?_
    refine SwOk.eqc hQ (by omega) (by omega) ?_
    refine SwOk.eqc hQ (by omega) (by omega) ?_
    refine SwOk.eqc hQ (by omega) (by omega) ?_
    refine SwOk.eqc hQ (by omega) (by omega) ?_
    refine SwOk.rng hQ (by omega) (by omega) ?_
    refine SwOk.rng hQ (by omega) (by omega) ?_
    refine SwOk.eqc hQ (by omega) (by omega) ?_
    refine SwOk.eqc hQ (by omega) (by omega) ?_
    refine SwOk.rng hQ (by omega) (by omega) ?_
    refine SwOk.rng hQ (by omega) (by omega) ?_
    refine SwOk.rng hQ (by omega) (by omega) ?_
    refine SwOk.eqc hQ (by omega) (by omega) ?_
    refine SwOk.eqc hQ (by omega) (by omega) ?_
    refine SwOk.eqc hQ (by omega) (by omega) ?_
    refine SwOk.rng hQ (by omega) (by omega) ?_
    refine SwOk.rng hQ (by omega) (by omega) ?_
    refine SwOk.eqc hQ (by omega) (by omega) ?_
    refine SwOk.rng hQ (by omega) (by omega) ?_
    refine SwOk.rng hQ (by omega) (by omega) ?_
    refine SwOk.rng hQ (by omega) (by omega) ?_
    refine SwOk.rng hQ (by omega) (by omega) ?_
    refine SwOk.eqc hQ (by omega) (by omega) ?_
    refine SwOk.rng hQ (by omega) (by omega) ?_
    refine SwOk.eqc hQ (by omega) (by omega) ?_
    refine SwOk.eqc hQ (by omega) (by omega) ?_
    refine SwOk.rng hQ (by omega) (by omega) ?_
    refine SwOk.rng hQ (by omega) (by omega) ?_
    refine SwOk.rng hQ (by omega) (by omega) ?_
    refine SwOk.eqc hQ (by omega) (by omega) ?_
    refine SwOk.rng hQ (by omega) (by omega) ?_
    refine SwOk.rng hQ (by omega) (by omega) ?_
    refine SwOk.rng hQ (by omega) (by omega) ?_
    refine SwOk.eqc hQ (by omega) (by omega) ?_
    refine SwOk.rng hQ (by omega) (by omega) ?_
    refine SwOk.eqc hQ (by omega) (by omega) ?_
    refine SwOk.rng hQ (by omega) (by omega) ?_
    refine SwOk.eqc hQ (by omega) (by omega) ?_
    refine SwOk.eqc hQ (by omega) (by omega) ?_
    refine SwOk.rng hQ (by omega) (by omega) ?_
    refine SwOk.rng hQ (by omega) (by omega) ?_
    refine SwOk.eqc hQ (by omega) (by omega) ?_
    refine SwOk.eqc hQ (by omega) (by omega) ?_
    refine SwOk.eqc hQ (by omega) (by omega) ?_
    refine SwOk.rng hQ (by omega) (by omega) ?_
    refine SwOk.rng hQ (by omega) (by omega) ?_
    refine SwOk.rng hQ (by omega) (by omega) ?_
    refine SwOk.rng hQ (by omega) (by omega) ?_
    refine SwOk.eqc hQ (by omega) (by omega) ?_
    refine SwOk.rng hQ (by omega) (by omega) ?_
    refine SwOk.eqc hQ (by omega) (by omega) ?_
    refine SwOk.eqc hQ (by omega) (by omega) ?_
    refine SwOk.eqc hQ (by omega) (by omega) ?_
    refine SwOk.rng hQ (by omega) (by omega) ?_
    refine SwOk.rng hQ (by omega) (by omega) ?_
    refine SwOk.rng hQ (by omega) (by omega) ?_
    refine SwOk.rng hQ (by omega) (by omega) ?_
    refine SwOk.eqc hQ (by omega) (by omega) ?_
    refine SwOk.rng hQ (by omega) (by omega) ?_
    refine SwOk.rng hQ (by omega) (by omega) ?_
    refine SwOk.eqc hQ (by omega) (by omega) ?_
    refine SwOk.rng hQ (by omega) (by omega) ?_
    refine SwOk.rng hQ (by omega) (by omega) ?_
    refine SwOk.eqc hQ (by omega) (by omega) ?_
    refine SwOk.rng hQ (by omega) (by omega) ?_
    refine SwOk.eqc hQ (by omega) (by omega) ?_
    refine SwOk.eqc hQ (by omega) (by omega) ?_
    refine SwOk.eqc hQ (by omega) (by omega) ?_
    refine SwOk.eqc hQ (by omega) (by omega) ?_
    refine SwOk.eqc hQ (by omega) (by omega) ?_
    refine SwOk.eqc hQ (by omega) (by omega) ?_
    refine SwOk.eqc hQ (by omega) (by omega) ?_
    refine SwOk.eqc hQ (by omega) (by omega) ?_
    refine SwOk.rng hQ (by omega) (by omega) ?_
    refine SwOk.rng hQ (by omega) (by omega) ?_
    refine SwOk.eqc hQ (by omega) (by omega) ?_
    refine SwOk.eqc hQ (by omega) (by omega) ?_
    refine SwOk.eqc hQ (by omega) (by omega) ?_
    refine SwOk.eqc hQ (by omega) (by omega) ?_
    refine SwOk.eqc hQ (by omega) (by omega) ?_
    refine SwOk.rng hQ (by omega) (by omega) ?_
    refine SwOk.rng hQ (by omega) (by omega) ?_
    refine SwOk.rng hQ (by omega) (by omega) ?_
    refine SwOk.eqc hQ (by omega) (by omega) ?_
    refine SwOk.eqc hQ (by omega) (by omega) ?_
    refine SwOk.rng hQ (by omega) (by omega) ?_
    refine SwOk.rng hQ (by omega) (by omega) ?_
    refine SwOk.eqc hQ (by omega) (by omega) ?_
    refine SwOk.rng hQ (by omega) (by omega) ?_
    exact SwOk.last hn
  · intro a h2 hs hd
    show bodyPost Try.prog Try.f56 (fun e w' => e = .returned (.int .i64 r) ∧ Drawn0 w w') Exit.ret a w
    exact bodyPost_ret (v := .int .i64 r) ((results_tmp rfl _ _ _).trans (by rw [h2])) hd ⟨rfl, Drawn0.refl w⟩
  · intro a h0 h1 hs hd
    subst h0
    refine sw_ret (S := 453) (fun a h2 hs hd => ?_) a hs (by omega) hd
    show bodyPost _ _ _ Exit.ret a w
    exact bodyPost_ret (v := .int .i64 0) ((results_tmp rfl _ _ _).trans (by rw [h2])) hd ⟨rfl, Drawn0.refl w⟩
end Go.Proofs.Ythgmkbghdobmlaa.P

