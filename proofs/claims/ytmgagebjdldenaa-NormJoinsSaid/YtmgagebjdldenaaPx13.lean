/- Printed by a program of this claim's own over the translation: Lean functions of the Go functions, each with its proof; no condition beyond those written. -/
import Derived.Test.YtmgagebjdldenaaPx0
import Derived.Test.YtmgagebjdldenaaPx4
import Derived.Test.YtmgagebjdldenaaPx5
import Derived.Test.YtmgagebjdldenaaPx6
namespace Go.Proofs.Ytmgagebjdldenaa.P
open Go.RowKit Go.Proofs.YtmgagebjdldenaaW.PrintWords Go.Proofs.YtmgagebjdldenaaW.PrintLast Go.Proofs.YtmgagebjdldenaaW.PrintMore
attribute [local go_sem] max2_int min2_int max_two min_two max_three min_three max_four min_four   -- for this text's walks alone
set_option linter.unusedVariables false
set_option linter.unusedSimpArgs false

/-! ### ductuslaw23_NormJoins: function 6 -/
mutual
def ductuslaw23_NormJoins.j0 : Nat → List Int → List Int → Int → Bool → Option (Bool)
  | 0, _, _, _, _ => none
  | k + 1, x0, x1, x2, x23 => if x23 = true then (some true) else ((norm_Of.f k x0 (wrap64 (x2))).bind fun bt399 => ((norm_Of.f k x1 (wrap64 (x2))).bind fun bt405 => ((some (([] : List Int) : List Int)).bind fun y411 => (if y411.length + x0.length < 17592186044416 then ((some (y411 ++ x0 : List Int)).bind fun y414 => (if y414.length + x1.length < 17592186044416 then ((norm_Of.f k (y414 ++ x1) (wrap64 (x2))).bind fun bt420 => (if (bt399.2.length : Int) = (wrap64 ((bt399.1.length : Int) + 1)) then (if (bt405.2.length : Int) = (wrap64 ((bt405.1.length : Int) + 1)) then (ductuslaw23_NormJoins.j1 k x0 bt399.1 bt399.2 bt405.1 bt405.2 bt420.1 bt420.2 ((bt420.2.length : Int) != (wrap64 ((wrap64 ((bt399.1.length : Int) + (bt405.1.length : Int))) + 1)))) else (none)) else (none))) else (none))) else (none)))))
def ductuslaw23_NormJoins.j1 : Nat → List Int → List Int → List Int → List Int → List Int → List Int → List Int → Bool → Option (Bool)
  | 0, _, _, _, _, _, _, _, _ => none
  | k + 1, x0, x7, x8, x9, x10, x11, x12, x73 => if x73 = true then (none) else (ductuslaw23_NormJoins.l0 k x0 x7 x8 x9 x10 x11 x12 0)
def ductuslaw23_NormJoins.l0 : Nat → List Int → List Int → List Int → List Int → List Int → List Int → List Int → Int → Option (Bool)
  | 0, _, _, _, _, _, _, _, _ => none
  | k + 1, x0, x7, x8, x9, x10, x11, x12, x13 => if x13 < (x10.length : Int) then (if 0 ≤ (wrap64 ((x7.length : Int) + x13)) then (if (wrap64 ((x7.length : Int) + x13)) < (x12.length : Int) then (if 0 ≤ x13 then (if (rd x12 (wrap64 ((x7.length : Int) + x13))) = (wrap64 ((x0.length : Int) + (rd x10 x13))) then (ductuslaw23_NormJoins.l0 k x0 x7 x8 x9 x10 x11 x12 (wrap64 (x13 + 1))) else (none)) else (none)) else (none)) else (none)) else ((some (([] : List Int) : List Int)).bind fun y428 => (if y428.length + x7.length < 17592186044416 then ((some (y428 ++ x7 : List Int)).bind fun y431 => (if y431.length + x9.length < 17592186044416 then ((ductusref01_Ints.f k x11 (y431 ++ x9)).bind fun t437 => (if t437 = true then (if 0 ≤ (x7.length : Int) then (if (x7.length : Int) ≤ (x12.length : Int) then (if (x7.length : Int) ≤ (x8.length : Int) then ((ductusref01_Ints.f k (x12.take ((x7.length : Int) : Int).toNat) (x8.take ((x7.length : Int) : Int).toNat)).bind fun t446 => (some t446)) else (none)) else (none)) else (none)) else (none))) else (none))) else (none)))
end
def ductuslaw23_NormJoins.f (k : Nat) (l0 : List Int) (l1 : List Int) (a2 : Int) : Option (Bool) := (ductuslaw23_alive.f k).bind fun t398 => (if t398 = true then (if (l0.length : Int) > 1000 then (ductuslaw23_NormJoins.j0 k l0 l1 a2 true) else (ductuslaw23_NormJoins.j0 k l0 l1 a2 (decide ((l1.length : Int) > 1000)))) else (none))
theorem ductuslaw23_NormJoins.mono_l : ∀ k, (∀ y0 y1 y2 y3, LeO (ductuslaw23_NormJoins.j0 k y0 y1 y2 y3) (ductuslaw23_NormJoins.j0 (k + 1) y0 y1 y2 y3)) ∧ (∀ y0 y1 y2 y3 y4 y5 y6 y7, LeO (ductuslaw23_NormJoins.j1 k y0 y1 y2 y3 y4 y5 y6 y7) (ductuslaw23_NormJoins.j1 (k + 1) y0 y1 y2 y3 y4 y5 y6 y7)) ∧ (∀ y0 y1 y2 y3 y4 y5 y6 y7, LeO (ductuslaw23_NormJoins.l0 k y0 y1 y2 y3 y4 y5 y6 y7) (ductuslaw23_NormJoins.l0 (k + 1) y0 y1 y2 y3 y4 y5 y6 y7))
  | 0 => ⟨fun _ _ _ _ r h => by simp [ductuslaw23_NormJoins.j0] at h, fun _ _ _ _ _ _ _ _ r h => by simp [ductuslaw23_NormJoins.j1] at h, fun _ _ _ _ _ _ _ _ r h => by simp [ductuslaw23_NormJoins.l0] at h⟩
  | k + 1 => by
    obtain ⟨ih0, ih1, ih2⟩ := ductuslaw23_NormJoins.mono_l k
    refine ⟨?_, ?_, ?_⟩
    · intro y0 y1 y2 y3
      unfold ductuslaw23_NormJoins.j0
      repeat' first
      | (with_reducible exact ih0 _ _ _ _)
      | (with_reducible exact ih1 _ _ _ _ _ _ _ _)
      | (with_reducible exact ih2 _ _ _ _ _ _ _ _)
      | (with_reducible exact ductuslaw23_alive.mono _)
      | (with_reducible exact ductusref01_Ints.mono _ _ _)
      | (with_reducible exact norm_Of.mono _ _ _)
      | (with_reducible exact LeO.refl _)
      | (with_reducible exact LeO.none _)
      | (with_reducible refine LeO.ite ?_ ?_)
      | (with_reducible refine LeO.bind ?_ (fun _ => ?_))
      | exact ih0 _ _ _ _
      | exact ih1 _ _ _ _ _ _ _ _
      | exact ih2 _ _ _ _ _ _ _ _
      | exact ductuslaw23_alive.mono _
      | exact ductusref01_Ints.mono _ _ _
      | exact norm_Of.mono _ _ _
      | exact LeO.none _
      | refine LeO.ite ?_ ?_
      | refine LeO.bind ?_ (fun _ => ?_)
    · intro y0 y1 y2 y3 y4 y5 y6 y7
      unfold ductuslaw23_NormJoins.j1
      repeat' first
      | (with_reducible exact ih0 _ _ _ _)
      | (with_reducible exact ih1 _ _ _ _ _ _ _ _)
      | (with_reducible exact ih2 _ _ _ _ _ _ _ _)
      | (with_reducible exact ductuslaw23_alive.mono _)
      | (with_reducible exact ductusref01_Ints.mono _ _ _)
      | (with_reducible exact norm_Of.mono _ _ _)
      | (with_reducible exact LeO.refl _)
      | (with_reducible exact LeO.none _)
      | (with_reducible refine LeO.ite ?_ ?_)
      | (with_reducible refine LeO.bind ?_ (fun _ => ?_))
      | exact ih0 _ _ _ _
      | exact ih1 _ _ _ _ _ _ _ _
      | exact ih2 _ _ _ _ _ _ _ _
      | exact ductuslaw23_alive.mono _
      | exact ductusref01_Ints.mono _ _ _
      | exact norm_Of.mono _ _ _
      | exact LeO.none _
      | refine LeO.ite ?_ ?_
      | refine LeO.bind ?_ (fun _ => ?_)
    · intro y0 y1 y2 y3 y4 y5 y6 y7
      unfold ductuslaw23_NormJoins.l0
      repeat' first
      | (with_reducible exact ih0 _ _ _ _)
      | (with_reducible exact ih1 _ _ _ _ _ _ _ _)
      | (with_reducible exact ih2 _ _ _ _ _ _ _ _)
      | (with_reducible exact ductuslaw23_alive.mono _)
      | (with_reducible exact ductusref01_Ints.mono _ _ _)
      | (with_reducible exact norm_Of.mono _ _ _)
      | (with_reducible exact LeO.refl _)
      | (with_reducible exact LeO.none _)
      | (with_reducible refine LeO.ite ?_ ?_)
      | (with_reducible refine LeO.bind ?_ (fun _ => ?_))
      | exact ih0 _ _ _ _
      | exact ih1 _ _ _ _ _ _ _ _
      | exact ih2 _ _ _ _ _ _ _ _
      | exact ductuslaw23_alive.mono _
      | exact ductusref01_Ints.mono _ _ _
      | exact norm_Of.mono _ _ _
      | exact LeO.none _
      | refine LeO.ite ?_ ?_
      | refine LeO.bind ?_ (fun _ => ?_)
theorem ductuslaw23_NormJoins.mono : ∀ a0 a1 a2 k, LeO (ductuslaw23_NormJoins.f k a0 a1 a2) (ductuslaw23_NormJoins.f (k + 1) a0 a1 a2) := by
  intro a0 a1 a2 k
  obtain ⟨ih0, ih1, ih2⟩ := ductuslaw23_NormJoins.mono_l k
  unfold ductuslaw23_NormJoins.f
  repeat' first
      | (with_reducible exact ih0 _ _ _ _)
      | (with_reducible exact ih1 _ _ _ _ _ _ _ _)
      | (with_reducible exact ih2 _ _ _ _ _ _ _ _)
      | (with_reducible exact ductuslaw23_alive.mono _)
      | (with_reducible exact ductusref01_Ints.mono _ _ _)
      | (with_reducible exact norm_Of.mono _ _ _)
      | (with_reducible exact LeO.refl _)
      | (with_reducible exact LeO.none _)
      | (with_reducible refine LeO.ite ?_ ?_)
      | (with_reducible refine LeO.bind ?_ (fun _ => ?_))
      | exact ih0 _ _ _ _
      | exact ih1 _ _ _ _ _ _ _ _
      | exact ih2 _ _ _ _ _ _ _ _
      | exact ductuslaw23_alive.mono _
      | exact ductusref01_Ints.mono _ _ _
      | exact norm_Of.mono _ _ _
      | exact LeO.none _
      | refine LeO.ite ?_ ?_
      | refine LeO.bind ?_ (fun _ => ?_)
def ductuslaw23_NormJoins.T13 : Bool × List (List Nat × List Nat) := (true, [([], []), ([], []), ([1], [1]), ([], []), ([2, 3], [2, 3]), ([0, 4], [0, 4]), ([5], [5]), ([], []), ([7], [7]), ([], []), ([], []), ([9, 10], [9, 10]), ([11], [11]), ([8, 12], [8, 12]), ([6, 13], [6, 13])])
def ductuslaw23_NormJoins.B13 : List Nat := [0, 0, 2, 0, 14, 31, 63, 0, 128, 0, 0, 1536, 3584, 8064, 16383]
theorem ductuslaw23_NormJoins.tab13 : rtab .any (opsOf Try.f6 13) = ductuslaw23_NormJoins.T13 := by kernel_rfl
theorem ductuslaw23_NormJoins.bits13 : waitsOk ductuslaw23_NormJoins.T13.2 ductuslaw23_NormJoins.B13 = true := by kernel_rfl
def ductuslaw23_NormJoins.T15 : Bool × List (List Nat × List Nat) := (true, [([], []), ([], []), ([], []), ([1, 2], [1, 2]), ([], []), ([3, 4, 3], [3, 4]), ([0, 5, 5], [0, 5]), ([6, 6], [6]), ([7], [7]), ([7], [7]), ([9, 7], [7, 9]), ([8, 10, 7], [7, 8, 10]), ([7], [7]), ([7], [7]), ([13, 7], [7, 13]), ([12, 14, 7], [7, 12, 14]), ([11, 15, 7, 7], [7, 11, 15]), ([7, 16], [7, 16]), ([17, 16, 0, 1, 2, 3, 4, 5, 6, 7, 8, 9, 10, 11, 12, 13, 14, 15, 16, 17], [17])])
def ductuslaw23_NormJoins.B15 : List Nat := [0, 0, 0, 6, 0, 30, 63, 127, 255, 255, 767, 2047, 255, 255, 8447, 28927, 65535, 131071, 262143]
theorem ductuslaw23_NormJoins.tab15 : rtab .any (opsOf Try.f6 15) = ductuslaw23_NormJoins.T15 := by kernel_rfl
theorem ductuslaw23_NormJoins.bits15 : waitsOk ductuslaw23_NormJoins.T15.2 ductuslaw23_NormJoins.B15 = true := by kernel_rfl
set_option maxHeartbeats 8000000 in
set_option maxRecDepth 100000 in
theorem ductuslaw23_NormJoins.calls (k : Nat) (A0 : Option Addr) (c0 : Nat) (l0 : List Int) (A1 : Option Addr) (c1 : Nat) (l1 : List Int) (a2 : Int) (r : Bool) (w : World) (hr0 : Kd.C (Kd.int .i64) w A0 l0.length l0) (hc0 : l0.length ≤ c0) (hr1 : Kd.C (Kd.int .i64) w A1 l1.length l1) (hc1 : l1.length ≤ c1) (h : ductuslaw23_NormJoins.f k l0 l1 a2 = some r) :
    Calls Try.prog 6 #[.slice A0 l0.length c0, .slice A1 l1.length c1, .int .u8 a2] w fun e w' => e = .returned (.bool r) ∧ Below w.heap.size w w' := by
  have HR0 := Aside0.mk hr0
  have HC0 := Aside0.mk hc0
  clear hr0 hc0
  have HR1 := Aside0.mk hr1
  have HC1 := Aside0.mk hc1
  clear hr1 hc1
  have HB := Aside0.mk (Below.refl w.heap.size w)
  have H : ((ductuslaw23_alive.f k).bind fun t398 => (if t398 = true then (if (l0.length : Int) > 1000 then (ductuslaw23_NormJoins.j0 k l0 l1 a2 true) else (ductuslaw23_NormJoins.j0 k l0 l1 a2 (decide ((l1.length : Int) > 1000)))) else (none))) = some r := h
  clear h
  replace H := Option.bind_eq_some_iff.mp H
  obtain ⟨t398, A40, H⟩ := H
  replace H : (if t398 = true then (if (l0.length : Int) > 1000 then (ductuslaw23_NormJoins.j0 k l0 l1 a2 true) else (ductuslaw23_NormJoins.j0 k l0 l1 a2 (decide ((l1.length : Int) > 1000)))) else (none)) = some r := H
  have A4 := Aside0.mk A40
  clear A40
  by_cases c5 : t398 = true
  rotate_left
  · replace c5 := Bool.eq_false_iff.mpr c5
    subst c5
    have H1 : (none) = some r := by rw [if_neg (show ¬ (false = true) by decide)] at H; exact H
    clear H
    have H := H1
    clear H1
    exact absurd H (by simp)
  subst c5
  have H1 : (if (l0.length : Int) > 1000 then (ductuslaw23_NormJoins.j0 k l0 l1 a2 true) else (ductuslaw23_NormJoins.j0 k l0 l1 a2 (decide ((l1.length : Int) > 1000)))) = some r := by rw [if_pos rfl] at H; exact H
  clear H
  have H := H1
  clear H1
  have HC6 := Aside0.mk H
  clear H
  go_enter Try.func6, Try.ntmps6
  go_upto_region 3 with (first | ((with_reducible refine gate_callee (f := 8) rfl ?_); refine goesL_ (some 14) rfl rfl Try.func8 (by kernel_rfl) rfl #[] rfl (by (try simp only [List.map_toArray, List.map_cons, List.map_nil]); first | done | rfl | (simp only [List.length_drop, List.length_take]; rfl)) ?_; (with_reducible refine (ductuslaw23_alive.calls k  true _ A4.out).mono ?_); rintro e w7 ⟨rfl, hb⟩; refine ⟨_, rfl, ?_⟩; have n0_ := Aside0.mk (below_step (by repeat (first | (with_reducible first | exact HB.out | apply below_alloc | apply pw_below_drewN | apply below_drew1) | exact HB.out)) hb); clear HB; have HB := n0_; clear n0_; (try clear hb); (try clear hb2); (try clear hk); (try clear hi)))
  (try simp only [Act.put, List.setIfInBounds_toArray, List.set_cons_zero, List.set_cons_succ])
  go_cut [23] (fun v23 wc => ∃ (kq : Nat) (x23_5 : Bool), v23 = .bool x23_5 ∧ Aside0 (ductuslaw23_NormJoins.j0 kq l0 l1 a2 x23_5 = some r) ∧ Aside0 (kq ≤ k) ∧ Aside0 (Below w.heap.size w wc))
  case first =>
    have H := HC6.out
    clear HC6
    by_cases c8 : (l0.length : Int) > 1000
    · rw [if_pos c8] at H
      have c8b0 : decide (1000 < (l0.length : Int)) = true := decide_eq_true c8
      have c8b1 : decide (1000 < l0.length) = true := decide_eq_true (by omega)
      clear c8
      (first | rw [c8b0] | (simp only [i64_w, i32_w]; rw [c8b0]) | skip)
      have H' := Aside0.mk H
      clear H
      go_wp2
      go_meet
      case rel => exact ⟨_, (true), (by first | rfl | (simp; done) | (simp [*]; done)), H', ⟨by first | omega | exact Nat.le_refl _⟩, ⟨by repeat (first | (with_reducible first | exact HB.out | apply below_alloc | apply pw_below_drewN | apply below_drew1) | exact HB.out)⟩⟩
    rw [if_neg c8] at H
    have c8b0 : decide (1000 < (l0.length : Int)) = false := decide_eq_false c8
    have c8b1 : decide (1000 < l0.length) = false := decide_eq_false (by omega)
    clear c8
    (first | rw [c8b0] | (simp only [i64_w, i32_w]; rw [c8b0]) | skip)
    have H' := Aside0.mk H
    clear H
    go_wp2
    go_meet
    case rel => exact ⟨_, (decide ((l1.length : Int) > 1000)), (by first | rfl | (simp; done) | (simp [*]; done)), H', ⟨by first | omega | exact Nat.le_refl _⟩, ⟨by repeat (first | (with_reducible first | exact HB.out | apply below_alloc | apply pw_below_drewN | apply below_drew1) | exact HB.out)⟩⟩
  case rest =>
    clear HC6
    try clear c1
    try clear p2
    try clear c5
    try clear c6
    try clear c8
    try clear c8b0
    try clear c8b1
    obtain ⟨kq, x23_5, rfl, HA, HJ5, HB⟩ := hcut
    cases kq with
    | zero => exact absurd HA.out (by simp [ductuslaw23_NormJoins.j0])
    | succ kj5 =>
      have H := HA.out
      clear HA
      simp only [ductuslaw23_NormJoins.j0] at H
      by_cases c9 : x23_5 = true
      · subst c9
        have H1 : (some true) = some r := by rw [if_pos rfl] at H; exact H
        clear H
        have H := H1
        clear H1
        obtain rfl := Option.some.inj H
        go_wp2
        go_ret
        exact ⟨by first | rfl | (simp [errW_none, errW_some] <;> rfl) | (simp [*, errW_none, errW_some] <;> rfl), by repeat (first | (with_reducible first | exact HB.out | apply below_alloc | apply pw_below_drewN | apply below_drew1) | exact HB.out)⟩
      replace c9 := Bool.eq_false_iff.mpr c9
      subst c9
      have H1 : ((norm_Of.f kj5 l0 (wrap64 (a2))).bind fun bt399 => ((norm_Of.f kj5 l1 (wrap64 (a2))).bind fun bt405 => ((some (([] : List Int) : List Int)).bind fun y411 => (if y411.length + l0.length < 17592186044416 then ((some (y411 ++ l0 : List Int)).bind fun y414 => (if y414.length + l1.length < 17592186044416 then ((norm_Of.f kj5 (y414 ++ l1) (wrap64 (a2))).bind fun bt420 => (if (bt399.2.length : Int) = (wrap64 ((bt399.1.length : Int) + 1)) then (if (bt405.2.length : Int) = (wrap64 ((bt405.1.length : Int) + 1)) then (ductuslaw23_NormJoins.j1 kj5 l0 bt399.1 bt399.2 bt405.1 bt405.2 bt420.1 bt420.2 ((bt420.2.length : Int) != (wrap64 ((wrap64 ((bt399.1.length : Int) + (bt405.1.length : Int))) + 1)))) else (none)) else (none))) else (none))) else (none))))) = some r := by rw [if_neg (show ¬ (false = true) by decide)] at H; exact H
      clear H
      have H := H1
      clear H1
      replace H := Option.bind_eq_some_iff.mp H
      obtain ⟨⟨t399, t400⟩, A100, H⟩ := H
      replace H : ((norm_Of.f kj5 l1 (wrap64 (a2))).bind fun bt405 => ((some (([] : List Int) : List Int)).bind fun y411 => (if y411.length + l0.length < 17592186044416 then ((some (y411 ++ l0 : List Int)).bind fun y414 => (if y414.length + l1.length < 17592186044416 then ((norm_Of.f kj5 (y414 ++ l1) (wrap64 (a2))).bind fun bt420 => (if (t400.length : Int) = (wrap64 ((t399.length : Int) + 1)) then (if (bt405.2.length : Int) = (wrap64 ((bt405.1.length : Int) + 1)) then (ductuslaw23_NormJoins.j1 kj5 l0 t399 t400 bt405.1 bt405.2 bt420.1 bt420.2 ((bt420.2.length : Int) != (wrap64 ((wrap64 ((t399.length : Int) + (bt405.1.length : Int))) + 1)))) else (none)) else (none))) else (none))) else (none)))) = some r := H
      have A10 := Aside0.mk A100
      clear A100
      replace H := Option.bind_eq_some_iff.mp H
      obtain ⟨⟨t405, t406⟩, A110, H⟩ := H
      replace H : ((some (([] : List Int) : List Int)).bind fun y411 => (if y411.length + l0.length < 17592186044416 then ((some (y411 ++ l0 : List Int)).bind fun y414 => (if y414.length + l1.length < 17592186044416 then ((norm_Of.f kj5 (y414 ++ l1) (wrap64 (a2))).bind fun bt420 => (if (t400.length : Int) = (wrap64 ((t399.length : Int) + 1)) then (if (t406.length : Int) = (wrap64 ((t405.length : Int) + 1)) then (ductuslaw23_NormJoins.j1 kj5 l0 t399 t400 t405 t406 bt420.1 bt420.2 ((bt420.2.length : Int) != (wrap64 ((wrap64 ((t399.length : Int) + (t405.length : Int))) + 1)))) else (none)) else (none))) else (none))) else (none))) = some r := H
      have A11 := Aside0.mk A110
      clear A110
      obtain ⟨y411, hy411⟩ : ∃ y_ : List Int, y_ = (([] : List Int)) := ⟨_, rfl⟩
      replace H : (if y411.length + l0.length < 17592186044416 then ((some (y411 ++ l0 : List Int)).bind fun y414 => (if y414.length + l1.length < 17592186044416 then ((norm_Of.f kj5 (y414 ++ l1) (wrap64 (a2))).bind fun bt420 => (if (t400.length : Int) = (wrap64 ((t399.length : Int) + 1)) then (if (t406.length : Int) = (wrap64 ((t405.length : Int) + 1)) then (ductuslaw23_NormJoins.j1 kj5 l0 t399 t400 t405 t406 bt420.1 bt420.2 ((bt420.2.length : Int) != (wrap64 ((wrap64 ((t399.length : Int) + (t405.length : Int))) + 1)))) else (none)) else (none))) else (none))) else (none)) = some r := by first | (rw [hy411]; with_reducible exact H) | (have H2_ := (Option.bind_some _ _).symm.trans H; rw [hy411]; with_reducible exact H2_) | (have H2_ := (Option.bind_some _ _).symm.trans H; with_reducible exact H2_) | with_reducible exact H | (rw [hy411]; exact H) | exact H
      have Ny411 := Aside0.mk hy411
      clear hy411
      by_cases c12 : y411.length + l0.length < 17592186044416
      rotate_left
      · rw [if_neg c12] at H
        exact absurd H (by simp)
      rw [if_pos c12] at H
      have LMc12 := Aside0.mk c12
      clear c12
      obtain ⟨y414, hy414⟩ : ∃ y_ : List Int, y_ = (y411 ++ l0) := ⟨_, rfl⟩
      replace H : (if y414.length + l1.length < 17592186044416 then ((norm_Of.f kj5 (y414 ++ l1) (wrap64 (a2))).bind fun bt420 => (if (t400.length : Int) = (wrap64 ((t399.length : Int) + 1)) then (if (t406.length : Int) = (wrap64 ((t405.length : Int) + 1)) then (ductuslaw23_NormJoins.j1 kj5 l0 t399 t400 t405 t406 bt420.1 bt420.2 ((bt420.2.length : Int) != (wrap64 ((wrap64 ((t399.length : Int) + (t405.length : Int))) + 1)))) else (none)) else (none))) else (none)) = some r := by first | (rw [hy414]; with_reducible exact H) | (have H2_ := (Option.bind_some _ _).symm.trans H; rw [hy414]; with_reducible exact H2_) | (have H2_ := (Option.bind_some _ _).symm.trans H; with_reducible exact H2_) | with_reducible exact H | (rw [hy414]; exact H) | exact H
      have Ny414 := Aside0.mk hy414
      clear hy414
      by_cases c13 : y414.length + l1.length < 17592186044416
      rotate_left
      · rw [if_neg c13] at H
        exact absurd H (by simp)
      rw [if_pos c13] at H
      have LMc13 := Aside0.mk c13
      clear c13
      obtain ⟨y417, hy417⟩ : ∃ y_ : List Int, y_ = (y414 ++ l1) := ⟨_, rfl⟩
      replace H : ((norm_Of.f kj5 y417 (wrap64 (a2))).bind fun bt420 => (if (t400.length : Int) = (wrap64 ((t399.length : Int) + 1)) then (if (t406.length : Int) = (wrap64 ((t405.length : Int) + 1)) then (ductuslaw23_NormJoins.j1 kj5 l0 t399 t400 t405 t406 bt420.1 bt420.2 ((bt420.2.length : Int) != (wrap64 ((wrap64 ((t399.length : Int) + (t405.length : Int))) + 1)))) else (none)) else (none))) = some r := by first | (rw [hy417]; with_reducible exact H) | (have H2_ := (Option.bind_some _ _).symm.trans H; rw [hy417]; with_reducible exact H2_) | (have H2_ := (Option.bind_some _ _).symm.trans H; with_reducible exact H2_) | with_reducible exact H | (rw [hy417]; exact H) | exact H
      have Ny417 := Aside0.mk hy417
      clear hy417
      replace H := Option.bind_eq_some_iff.mp H
      obtain ⟨⟨t420, t421⟩, A140, H⟩ := H
      replace H : (if (t400.length : Int) = (wrap64 ((t399.length : Int) + 1)) then (if (t406.length : Int) = (wrap64 ((t405.length : Int) + 1)) then (ductuslaw23_NormJoins.j1 kj5 l0 t399 t400 t405 t406 t420 t421 ((t421.length : Int) != (wrap64 ((wrap64 ((t399.length : Int) + (t405.length : Int))) + 1)))) else (none)) else (none)) = some r := H
      have A14 := Aside0.mk A140
      clear A140
      have HC15 := Aside0.mk H
      clear H
      go_upto_region 8 with (first | ((with_reducible refine gate_callee (f := 9) rfl ?_); refine goesL_ (some 28) rfl rfl Try.func9 (by kernel_rfl) rfl #[.slice A0 l0.length c0, .int .i64 (wrap64 (a2))] rfl (by (try simp only [List.map_toArray, List.map_cons, List.map_nil]); first | done | rfl | (simp only [List.length_drop, List.length_take]; rfl)) ?_; (with_reducible refine (norm_Of.calls kj5 _ _ l0 (wrap64 (a2)) t399 t400 _ ?side1 ?side2 A10.out).mono ?_); (case side1 => repeat (first | exact (Kd.C_below HR0.out HB.out) | (with_reducible refine Kd.C_alloc ?_ _) | (with_reducible refine Kd.C_drewN ?_ _) | (with_reducible refine Kd.C_drew ?_))); (case side2 => exact HC0.out); rintro e w16 ⟨v401, v403, rfl, ho0, ho1, hb⟩; refine ⟨_, rfl, ?_⟩; have n0_ := Aside0.mk (Kd.R_lower ho0 (below_size (by repeat (first | (with_reducible first | exact HB.out | apply below_alloc | apply pw_below_drewN | apply below_drew1) | exact HB.out)))); have n1_ := Aside0.mk (Kd.R_lower ho1 (below_size (by repeat (first | (with_reducible first | exact HB.out | apply below_alloc | apply pw_below_drewN | apply below_drew1) | exact HB.out)))); have n2_ := Aside0.mk (below_step (by repeat (first | (with_reducible first | exact HB.out | apply below_alloc | apply pw_below_drewN | apply below_drew1) | exact HB.out)) hb); clear HB; have HO402 := n0_; have HO404 := n1_; have HB := n2_; clear n0_ n1_ n2_; (try clear hb); (try clear hb2); (try clear hk); (try clear hi); (try clear ho0); (try clear ho1)) | ((with_reducible refine gate_callee (f := 9) rfl ?_); refine goesL_ (some 35) rfl rfl Try.func9 (by kernel_rfl) rfl #[.slice A1 l1.length c1, .int .i64 (wrap64 (a2))] rfl (by (try simp only [List.map_toArray, List.map_cons, List.map_nil]); first | done | rfl | (simp only [List.length_drop, List.length_take]; rfl)) ?_; (with_reducible refine (norm_Of.calls kj5 _ _ l1 (wrap64 (a2)) t405 t406 _ ?side1 ?side2 A11.out).mono ?_); (case side1 => repeat (first | exact (Kd.C_below HR1.out HB.out) | (with_reducible refine Kd.C_alloc ?_ _) | (with_reducible refine Kd.C_drewN ?_ _) | (with_reducible refine Kd.C_drew ?_))); (case side2 => exact HC1.out); rintro e w17 ⟨v407, v409, rfl, ho0, ho1, hb⟩; refine ⟨_, rfl, ?_⟩; have n0_ := Aside0.mk (Kd.R_mono (Kd.R_told (Kd.R_told (Kd.R_old (by (with_reducible repeat (first | apply Kd.R_alloc | apply Kd.R_drewN | apply Kd.R_drew)); exact HO402.out) hb) (Kd.R_base ho0)) (Kd.R_base ho1)) (fun _ h_ => h_.1)); have n1_ := Aside0.mk (Kd.R_mono (Kd.R_told (Kd.R_told (Kd.R_old (by (with_reducible repeat (first | apply Kd.R_alloc | apply Kd.R_drewN | apply Kd.R_drew)); exact HO404.out) hb) (Kd.R_base ho0)) (Kd.R_base ho1)) (fun _ h_ => h_.1)); have n2_ := Aside0.mk (Kd.R_lower (Kd.R_new' (Kd.R_new' ho0 (Kd.R_lt (by (with_reducible repeat (first | apply Kd.R_alloc | apply Kd.R_drewN | apply Kd.R_drew)); exact HO402.out))) (Kd.R_lt (by (with_reducible repeat (first | apply Kd.R_alloc | apply Kd.R_drewN | apply Kd.R_drew)); exact HO404.out))) (below_size (by repeat (first | (with_reducible first | exact HB.out | apply below_alloc | apply pw_below_drewN | apply below_drew1) | exact HB.out)))); have n3_ := Aside0.mk (Kd.R_lower (Kd.R_new' (Kd.R_new' ho1 (Kd.R_lt (by (with_reducible repeat (first | apply Kd.R_alloc | apply Kd.R_drewN | apply Kd.R_drew)); exact HO402.out))) (Kd.R_lt (by (with_reducible repeat (first | apply Kd.R_alloc | apply Kd.R_drewN | apply Kd.R_drew)); exact HO404.out))) (below_size (by repeat (first | (with_reducible first | exact HB.out | apply below_alloc | apply pw_below_drewN | apply below_drew1) | exact HB.out)))); have n4_ := Aside0.mk (below_step (by repeat (first | (with_reducible first | exact HB.out | apply below_alloc | apply pw_below_drewN | apply below_drew1) | exact HB.out)) hb); clear HO402; clear HO404; clear HB; have HO402 := n0_; have HO404 := n1_; have HO408 := n2_; have HO410 := n3_; have HB := n4_; clear n0_ n1_ n2_ n3_ n4_; (try clear hb); (try clear hb2); (try clear hk); (try clear hi); (try clear ho0); (try clear ho1)) | ((with_reducible refine gate_dst (N := 39) rfl ?_); (try (refine gate_guard (by rfl) ?_; dsimp only)); refine Kd.R_lit (Kd.int .i64) _ 3 ?hg (N := 39) ?hd (xs := ([] : List Int)) (inner := []) (ok := fun _ => True) (okp := fun _ => True) ?hr ?hp (fun _ hk => hk) trivial (Below.refl _ _) (Nat.le_refl _) (by simp) ?_; (case hd => rfl); (case hg => rfl); (case hr => first | (go_simp; done) | (go_simp; rfl)); (case hp => exact (Reps.none _ _)); intro v412 w18 ho19 hb hg_ hnew_; clear hg_ hnew_; (first | rw [← Ny411.out] at ho19 | (simp only [Int.reduceToNat] at ho19; rw [← Ny411.out] at ho19)); have n0_ := Aside0.mk (Kd.R_elder' (by (with_reducible repeat (first | apply Kd.R_alloc | apply Kd.R_drewN | apply Kd.R_drew)); exact HO402.out) (Kd.R_base ho19) hb); have n1_ := Aside0.mk (Kd.R_elder' (by (with_reducible repeat (first | apply Kd.R_alloc | apply Kd.R_drewN | apply Kd.R_drew)); exact HO404.out) (Kd.R_base ho19) hb); have n2_ := Aside0.mk (Kd.R_elder' (by (with_reducible repeat (first | apply Kd.R_alloc | apply Kd.R_drewN | apply Kd.R_drew)); exact HO408.out) (Kd.R_base ho19) hb); have n3_ := Aside0.mk (Kd.R_elder' (by (with_reducible repeat (first | apply Kd.R_alloc | apply Kd.R_drewN | apply Kd.R_drew)); exact HO410.out) (Kd.R_base ho19) hb); have n4_ := Aside0.mk (Kd.R_lower (Kd.R_new' (Kd.R_new' (Kd.R_new' (Kd.R_new' ho19 (Kd.R_lt (by (with_reducible repeat (first | apply Kd.R_alloc | apply Kd.R_drewN | apply Kd.R_drew)); exact HO402.out))) (Kd.R_lt (by (with_reducible repeat (first | apply Kd.R_alloc | apply Kd.R_drewN | apply Kd.R_drew)); exact HO404.out))) (Kd.R_lt (by (with_reducible repeat (first | apply Kd.R_alloc | apply Kd.R_drewN | apply Kd.R_drew)); exact HO408.out))) (Kd.R_lt (by (with_reducible repeat (first | apply Kd.R_alloc | apply Kd.R_drewN | apply Kd.R_drew)); exact HO410.out))) (below_size (by repeat (first | (with_reducible first | exact HB.out | apply below_alloc | apply pw_below_drewN | apply below_drew1) | exact HB.out)))); have n5_ := Aside0.mk (below_step (by repeat (first | (with_reducible first | exact HB.out | apply below_alloc | apply pw_below_drewN | apply below_drew1) | exact HB.out)) hb); clear HO402; clear HO404; clear HO408; clear HO410; clear HB; have HO402 := n0_; have HO404 := n1_; have HO408 := n2_; have HO410 := n3_; have HO413 := n4_; have HB := n5_; clear n0_ n1_ n2_ n3_ n4_ n5_; clear hb ho19) | ((with_reducible refine gate_builtin (b := .append) (xs := #[.tmp 39, .tmp 40]) rfl ?_); (try (refine gate_guard (by rfl) ?_; dsimp only)); at_builtin; refine Kd.R_append_rows (Kd.int .i64) (w0 := w) w.heap.size rfl (.tmp 39) (.tmp 40) 22 3 (.int .i64 0) 8 rfl Try.underlying22 info3 rfl (by decide) (by omega) v412 y411 l0 _ _ _ (fun k_ => some k_ ≠ (v401 : Value).ownBlock ∧ some k_ ≠ (v403 : Value).ownBlock ∧ some k_ ≠ (v407 : Value).ownBlock ∧ some k_ ≠ (v409 : Value).ownBlock) (fun _ => False) rfl rfl ?aO ?aR (fun _ _ h => h) (fun _ h => h.elim) ?aF ?aB ?aS ?aL ?_; (case aR => repeat (first | exact (Kd.C_below HR0.out HB.out) | (with_reducible refine Kd.C_alloc ?_ _) | (with_reducible refine Kd.C_drewN ?_ _) | (with_reducible refine Kd.C_drew ?_))); (case aB => exact (by repeat (first | (with_reducible first | exact HB.out | apply below_alloc | apply pw_below_drewN | apply below_drew1) | exact HB.out))); (case aF => exact (fun k_ hk => ⟨Kd.fresh' (Kd.R_lt (by (with_reducible repeat (first | apply Kd.R_alloc | apply Kd.R_drewN | apply Kd.R_drew)); exact HO402.out)) k_ hk, Kd.fresh' (Kd.R_lt (by (with_reducible repeat (first | apply Kd.R_alloc | apply Kd.R_drewN | apply Kd.R_drew)); exact HO404.out)) k_ hk, Kd.fresh' (Kd.R_lt (by (with_reducible repeat (first | apply Kd.R_alloc | apply Kd.R_drewN | apply Kd.R_drew)); exact HO408.out)) k_ hk, Kd.fresh' (Kd.R_lt (by (with_reducible repeat (first | apply Kd.R_alloc | apply Kd.R_drewN | apply Kd.R_drew)); exact HO410.out)) k_ hk⟩)); (case aO => exact (by (with_reducible repeat (first | apply Kd.R_alloc | apply Kd.R_drewN | apply Kd.R_drew)); exact Kd.R_mono HO413.out (fun _ hk => ⟨hk.1.1.1.2, ⟨hk.1.1.2, ⟨hk.1.2, hk.2⟩⟩⟩))); (case aS => exact (below_size (by repeat (first | (with_reducible first | exact HB.out | apply below_alloc | apply pw_below_drewN | apply below_drew1) | exact HB.out)))); (case aL => have := LMc12.out; omega); intro v415 w20 ho hb hg hat; rw [← Ny414.out] at ho; have n0_ := Aside0.mk (Kd.R_after (ok := (fun k_ => some k_ ≠ (v403 : Value).ownBlock ∧ some k_ ≠ (v407 : Value).ownBlock ∧ some k_ ≠ (v409 : Value).ownBlock)) (by (with_reducible repeat (first | apply Kd.R_alloc | apply Kd.R_drewN | apply Kd.R_drew)); exact Kd.R_mono HO402.out (fun _ hk => ⟨⟨hk.1.1.1, ⟨hk.1.1.2, hk.1.2⟩⟩, hk.2⟩)) hg hat); have n1_ := Aside0.mk (Kd.R_after (ok := (fun k_ => some k_ ≠ (v401 : Value).ownBlock ∧ some k_ ≠ (v407 : Value).ownBlock ∧ some k_ ≠ (v409 : Value).ownBlock)) (by (with_reducible repeat (first | apply Kd.R_alloc | apply Kd.R_drewN | apply Kd.R_drew)); exact Kd.R_mono HO404.out (fun _ hk => ⟨⟨hk.1.1.1, ⟨hk.1.1.2, hk.1.2⟩⟩, hk.2⟩)) hg hat); have n2_ := Aside0.mk (Kd.R_after (ok := (fun k_ => some k_ ≠ (v401 : Value).ownBlock ∧ some k_ ≠ (v403 : Value).ownBlock ∧ some k_ ≠ (v409 : Value).ownBlock)) (by (with_reducible repeat (first | apply Kd.R_alloc | apply Kd.R_drewN | apply Kd.R_drew)); exact Kd.R_mono HO408.out (fun _ hk => ⟨⟨hk.1.1.2, ⟨hk.1.2, hk.1.1.1⟩⟩, hk.2⟩)) hg hat); have n3_ := Aside0.mk (Kd.R_after (ok := (fun k_ => some k_ ≠ (v401 : Value).ownBlock ∧ some k_ ≠ (v403 : Value).ownBlock ∧ some k_ ≠ (v407 : Value).ownBlock)) (by (with_reducible repeat (first | apply Kd.R_alloc | apply Kd.R_drewN | apply Kd.R_drew)); exact Kd.R_mono HO410.out (fun _ hk => ⟨⟨hk.1.1.2, ⟨hk.1.2, hk.1.1.1⟩⟩, hk.2⟩)) hg hat); have n4_ := Aside0.mk (hb); have n5_ := Aside0.mk (ho); clear HO402; clear HO404; clear HO408; clear HO410; clear HB; clear HO413; have HO402 := n0_; have HO404 := n1_; have HO408 := n2_; have HO410 := n3_; have HB := n4_; have HO416 := n5_; clear n0_ n1_ n2_ n3_ n4_ n5_; clear ho hb hg hat) | ((with_reducible refine gate_builtin (b := .append) (xs := #[.tmp 41, .tmp 42]) rfl ?_); (try (refine gate_guard (by rfl) ?_; dsimp only)); at_builtin; refine Kd.R_append_rows (Kd.int .i64) (w0 := w) w.heap.size rfl (.tmp 41) (.tmp 42) 22 3 (.int .i64 0) 8 rfl Try.underlying22 info3 rfl (by decide) (by omega) v415 y414 l1 _ _ _ (fun k_ => some k_ ≠ (v401 : Value).ownBlock ∧ some k_ ≠ (v403 : Value).ownBlock ∧ some k_ ≠ (v407 : Value).ownBlock ∧ some k_ ≠ (v409 : Value).ownBlock) (fun _ => False) rfl rfl ?aO ?aR (fun _ _ h => h) (fun _ h => h.elim) ?aF ?aB ?aS ?aL ?_; (case aR => repeat (first | exact (Kd.C_below HR1.out HB.out) | (with_reducible refine Kd.C_alloc ?_ _) | (with_reducible refine Kd.C_drewN ?_ _) | (with_reducible refine Kd.C_drew ?_))); (case aB => exact (by repeat (first | (with_reducible first | exact HB.out | apply below_alloc | apply pw_below_drewN | apply below_drew1) | exact HB.out))); (case aF => exact (fun k_ hk => ⟨Kd.fresh' (Kd.R_lt (by (with_reducible repeat (first | apply Kd.R_alloc | apply Kd.R_drewN | apply Kd.R_drew)); exact HO402.out)) k_ hk, Kd.fresh' (Kd.R_lt (by (with_reducible repeat (first | apply Kd.R_alloc | apply Kd.R_drewN | apply Kd.R_drew)); exact HO404.out)) k_ hk, Kd.fresh' (Kd.R_lt (by (with_reducible repeat (first | apply Kd.R_alloc | apply Kd.R_drewN | apply Kd.R_drew)); exact HO408.out)) k_ hk, Kd.fresh' (Kd.R_lt (by (with_reducible repeat (first | apply Kd.R_alloc | apply Kd.R_drewN | apply Kd.R_drew)); exact HO410.out)) k_ hk⟩)); (case aO => exact (by (with_reducible repeat (first | apply Kd.R_alloc | apply Kd.R_drewN | apply Kd.R_drew)); exact HO416.out)); (case aS => exact (below_size (by repeat (first | (with_reducible first | exact HB.out | apply below_alloc | apply pw_below_drewN | apply below_drew1) | exact HB.out)))); (case aL => have := LMc13.out; omega); intro v418 w21 ho hb hg hat; rw [← Ny417.out] at ho; have n0_ := Aside0.mk (Kd.R_after (ok := (fun k_ => some k_ ≠ (v403 : Value).ownBlock ∧ some k_ ≠ (v407 : Value).ownBlock ∧ some k_ ≠ (v409 : Value).ownBlock)) (by (with_reducible repeat (first | apply Kd.R_alloc | apply Kd.R_drewN | apply Kd.R_drew)); exact HO402.out) hg hat); have n1_ := Aside0.mk (Kd.R_after (ok := (fun k_ => some k_ ≠ (v401 : Value).ownBlock ∧ some k_ ≠ (v407 : Value).ownBlock ∧ some k_ ≠ (v409 : Value).ownBlock)) (by (with_reducible repeat (first | apply Kd.R_alloc | apply Kd.R_drewN | apply Kd.R_drew)); exact HO404.out) hg hat); have n2_ := Aside0.mk (Kd.R_after (ok := (fun k_ => some k_ ≠ (v401 : Value).ownBlock ∧ some k_ ≠ (v403 : Value).ownBlock ∧ some k_ ≠ (v409 : Value).ownBlock)) (by (with_reducible repeat (first | apply Kd.R_alloc | apply Kd.R_drewN | apply Kd.R_drew)); exact HO408.out) hg hat); have n3_ := Aside0.mk (Kd.R_after (ok := (fun k_ => some k_ ≠ (v401 : Value).ownBlock ∧ some k_ ≠ (v403 : Value).ownBlock ∧ some k_ ≠ (v407 : Value).ownBlock)) (by (with_reducible repeat (first | apply Kd.R_alloc | apply Kd.R_drewN | apply Kd.R_drew)); exact HO410.out) hg hat); have n4_ := Aside0.mk (hb); have n5_ := Aside0.mk (ho); clear HO402; clear HO404; clear HO408; clear HO410; clear HB; clear HO416; have HO402 := n0_; have HO404 := n1_; have HO408 := n2_; have HO410 := n3_; have HB := n4_; have HO419 := n5_; clear n0_ n1_ n2_ n3_ n4_ n5_; clear ho hb hg hat; obtain ⟨Ao22, co22, eo22⟩ := Kd.R_slice HO419.out; subst eo22) | ((with_reducible refine gate_callee (f := 9) rfl ?_); refine goesL_ (some 46) rfl rfl Try.func9 (by kernel_rfl) rfl #[.slice Ao22 y417.length co22, .int .i64 (wrap64 (a2))] rfl (by (try simp only [List.map_toArray, List.map_cons, List.map_nil]); first | done | rfl | (simp only [List.length_drop, List.length_take]; rfl)) ?_; (with_reducible refine (norm_Of.calls kj5 _ _ y417 (wrap64 (a2)) t420 t421 _ ?side1 ?side2 A14.out).mono ?_); (case side1 => repeat (first | exact (Kd.R_reads' HO419.out).2.2 | (with_reducible refine Kd.C_alloc ?_ _) | (with_reducible refine Kd.C_drewN ?_ _) | (with_reducible refine Kd.C_drew ?_))); (case side2 => exact (Kd.R_reads' HO419.out).2.1); rintro e w23 ⟨v422, v424, rfl, ho0, ho1, hb⟩; refine ⟨_, rfl, ?_⟩; have n0_ := Aside0.mk (Kd.R_mono (Kd.R_told (Kd.R_told (Kd.R_old (by (with_reducible repeat (first | apply Kd.R_alloc | apply Kd.R_drewN | apply Kd.R_drew)); exact HO402.out) hb) (Kd.R_base ho0)) (Kd.R_base ho1)) (fun _ h_ => h_.1)); have n1_ := Aside0.mk (Kd.R_mono (Kd.R_told (Kd.R_told (Kd.R_old (by (with_reducible repeat (first | apply Kd.R_alloc | apply Kd.R_drewN | apply Kd.R_drew)); exact HO404.out) hb) (Kd.R_base ho0)) (Kd.R_base ho1)) (fun _ h_ => h_.1)); have n2_ := Aside0.mk (Kd.R_mono (Kd.R_told (Kd.R_told (Kd.R_old (by (with_reducible repeat (first | apply Kd.R_alloc | apply Kd.R_drewN | apply Kd.R_drew)); exact HO408.out) hb) (Kd.R_base ho0)) (Kd.R_base ho1)) (fun _ h_ => h_.1)); have n3_ := Aside0.mk (Kd.R_mono (Kd.R_told (Kd.R_told (Kd.R_old (by (with_reducible repeat (first | apply Kd.R_alloc | apply Kd.R_drewN | apply Kd.R_drew)); exact HO410.out) hb) (Kd.R_base ho0)) (Kd.R_base ho1)) (fun _ h_ => h_.1)); have n4_ := Aside0.mk (Kd.R_mono (Kd.R_told (Kd.R_told (Kd.R_old (by (with_reducible repeat (first | apply Kd.R_alloc | apply Kd.R_drewN | apply Kd.R_drew)); exact HO419.out) hb) (Kd.R_base ho0)) (Kd.R_base ho1)) (fun _ h_ => h_.1)); have n5_ := Aside0.mk (Kd.R_lower (Kd.R_new' (Kd.R_new' (Kd.R_new' (Kd.R_new' (Kd.R_new' ho0 (Kd.R_lt (by (with_reducible repeat (first | apply Kd.R_alloc | apply Kd.R_drewN | apply Kd.R_drew)); exact HO402.out))) (Kd.R_lt (by (with_reducible repeat (first | apply Kd.R_alloc | apply Kd.R_drewN | apply Kd.R_drew)); exact HO404.out))) (Kd.R_lt (by (with_reducible repeat (first | apply Kd.R_alloc | apply Kd.R_drewN | apply Kd.R_drew)); exact HO408.out))) (Kd.R_lt (by (with_reducible repeat (first | apply Kd.R_alloc | apply Kd.R_drewN | apply Kd.R_drew)); exact HO410.out))) (Kd.R_lt (by (with_reducible repeat (first | apply Kd.R_alloc | apply Kd.R_drewN | apply Kd.R_drew)); exact HO419.out))) (below_size (by repeat (first | (with_reducible first | exact HB.out | apply below_alloc | apply pw_below_drewN | apply below_drew1) | exact HB.out)))); have n6_ := Aside0.mk (Kd.R_lower (Kd.R_new' (Kd.R_new' (Kd.R_new' (Kd.R_new' (Kd.R_new' ho1 (Kd.R_lt (by (with_reducible repeat (first | apply Kd.R_alloc | apply Kd.R_drewN | apply Kd.R_drew)); exact HO402.out))) (Kd.R_lt (by (with_reducible repeat (first | apply Kd.R_alloc | apply Kd.R_drewN | apply Kd.R_drew)); exact HO404.out))) (Kd.R_lt (by (with_reducible repeat (first | apply Kd.R_alloc | apply Kd.R_drewN | apply Kd.R_drew)); exact HO408.out))) (Kd.R_lt (by (with_reducible repeat (first | apply Kd.R_alloc | apply Kd.R_drewN | apply Kd.R_drew)); exact HO410.out))) (Kd.R_lt (by (with_reducible repeat (first | apply Kd.R_alloc | apply Kd.R_drewN | apply Kd.R_drew)); exact HO419.out))) (below_size (by repeat (first | (with_reducible first | exact HB.out | apply below_alloc | apply pw_below_drewN | apply below_drew1) | exact HB.out)))); have n7_ := Aside0.mk (below_step (by repeat (first | (with_reducible first | exact HB.out | apply below_alloc | apply pw_below_drewN | apply below_drew1) | exact HB.out)) hb); clear HO402; clear HO404; clear HO408; clear HO410; clear HO419; clear HB; have HO402 := n0_; have HO404 := n1_; have HO408 := n2_; have HO410 := n3_; have HO419 := n4_; have HO423 := n5_; have HO425 := n6_; have HB := n7_; clear n0_ n1_ n2_ n3_ n4_ n5_ n6_ n7_; (try clear hb); (try clear hb2); (try clear hk); (try clear hi); (try clear ho0); (try clear ho1)))
      (try simp only [Act.put, List.setIfInBounds_toArray, List.set_cons_zero, List.set_cons_succ])
      go_cut [73] (fun v73 wc => ∃ (kq : Nat) (x73_14 : Bool), v73 = .bool x73_14 ∧ Aside0 (ductuslaw23_NormJoins.j1 kq l0 t399 t400 t405 t406 t420 t421 x73_14 = some r) ∧ Aside0 (kq ≤ kj5) ∧ Aside0 (Kd.R (Kd.int .i64) 3 wc w.heap.size (fun k_ => some k_ ≠ (v403 : Value).ownBlock ∧ some k_ ≠ (v407 : Value).ownBlock ∧ some k_ ≠ (v409 : Value).ownBlock ∧ some k_ ≠ (v422 : Value).ownBlock ∧ some k_ ≠ (v424 : Value).ownBlock) v401 t399) ∧ Aside0 (Kd.R (Kd.int .i64) 3 wc w.heap.size (fun k_ => some k_ ≠ (v401 : Value).ownBlock ∧ some k_ ≠ (v407 : Value).ownBlock ∧ some k_ ≠ (v409 : Value).ownBlock ∧ some k_ ≠ (v422 : Value).ownBlock ∧ some k_ ≠ (v424 : Value).ownBlock) v403 t400) ∧ Aside0 (Kd.R (Kd.int .i64) 3 wc w.heap.size (fun k_ => some k_ ≠ (v401 : Value).ownBlock ∧ some k_ ≠ (v403 : Value).ownBlock ∧ some k_ ≠ (v409 : Value).ownBlock ∧ some k_ ≠ (v422 : Value).ownBlock ∧ some k_ ≠ (v424 : Value).ownBlock) v407 t405) ∧ Aside0 (Kd.R (Kd.int .i64) 3 wc w.heap.size (fun k_ => some k_ ≠ (v401 : Value).ownBlock ∧ some k_ ≠ (v403 : Value).ownBlock ∧ some k_ ≠ (v407 : Value).ownBlock ∧ some k_ ≠ (v422 : Value).ownBlock ∧ some k_ ≠ (v424 : Value).ownBlock) v409 t406) ∧ Aside0 (Kd.R (Kd.int .i64) 3 wc w.heap.size (fun k_ => some k_ ≠ (v401 : Value).ownBlock ∧ some k_ ≠ (v403 : Value).ownBlock ∧ some k_ ≠ (v407 : Value).ownBlock ∧ some k_ ≠ (v409 : Value).ownBlock ∧ some k_ ≠ (v424 : Value).ownBlock) v422 t420) ∧ Aside0 (Kd.R (Kd.int .i64) 3 wc w.heap.size (fun k_ => some k_ ≠ (v401 : Value).ownBlock ∧ some k_ ≠ (v403 : Value).ownBlock ∧ some k_ ≠ (v407 : Value).ownBlock ∧ some k_ ≠ (v409 : Value).ownBlock ∧ some k_ ≠ (v422 : Value).ownBlock) v424 t421) ∧ Aside0 (Below w.heap.size w wc))
      case first =>
        have H := HC15.out
        clear HC15
        by_cases c24 : (t400.length : Int) = (wrap64 ((t399.length : Int) + 1))
        rotate_left
        · rw [if_neg c24] at H
          exact absurd H (by simp)
        rw [if_pos c24] at H
        have c24b0 : ((t400.length : Int) == (wrap64 ((t399.length : Int) + 1))) = true := beq_iff_eq.mpr c24
        have c24b1 : ((t400.length : Int) != (wrap64 ((t399.length : Int) + 1))) = false := bne_eq_false_iff_eq.mpr c24
        clear c24
        (first | rw [c24b0] | (simp only [i64_w, i32_w]; rw [c24b0]) | skip)
        by_cases c25 : (t406.length : Int) = (wrap64 ((t405.length : Int) + 1))
        rotate_left
        · rw [if_neg c25] at H
          exact absurd H (by simp)
        rw [if_pos c25] at H
        have c25b0 : ((t406.length : Int) == (wrap64 ((t405.length : Int) + 1))) = true := beq_iff_eq.mpr c25
        have c25b1 : ((t406.length : Int) != (wrap64 ((t405.length : Int) + 1))) = false := bne_eq_false_iff_eq.mpr c25
        clear c25
        have H' := Aside0.mk H
        clear H
        obtain ⟨Ao26, co26, eo26⟩ := Kd.R_slice HO404.out
        subst eo26
        obtain ⟨Ao27, co27, eo27⟩ := Kd.R_slice HO402.out
        subst eo27
        obtain ⟨Ao28, co28, eo28⟩ := Kd.R_slice HO410.out
        subst eo28
        obtain ⟨Ao29, co29, eo29⟩ := Kd.R_slice HO408.out
        subst eo29
        obtain ⟨Ao30, co30, eo30⟩ := Kd.R_slice HO425.out
        subst eo30
        go_wp2
        go_meet
        case rel => exact ⟨_, (((t421.length : Int) != (wrap64 ((wrap64 ((t399.length : Int) + (t405.length : Int))) + 1)))), (by first | rfl | (simp; done) | (simp [*]; done)), H', ⟨by have := HJ5.out; first | omega | exact Nat.le_refl _⟩, ⟨by (with_reducible repeat (first | apply Kd.R_alloc | apply Kd.R_drewN | apply Kd.R_drew)); exact Kd.R_mono HO402.out (fun _ hk => ⟨hk.1.1.1.1, ⟨hk.1.1.1.2.1, ⟨hk.1.1.1.2.2, ⟨hk.1.2, hk.2⟩⟩⟩⟩)⟩, ⟨by (with_reducible repeat (first | apply Kd.R_alloc | apply Kd.R_drewN | apply Kd.R_drew)); exact Kd.R_mono HO404.out (fun _ hk => ⟨hk.1.1.1.1, ⟨hk.1.1.1.2.1, ⟨hk.1.1.1.2.2, ⟨hk.1.2, hk.2⟩⟩⟩⟩)⟩, ⟨by (with_reducible repeat (first | apply Kd.R_alloc | apply Kd.R_drewN | apply Kd.R_drew)); exact Kd.R_mono HO408.out (fun _ hk => ⟨hk.1.1.1.1, ⟨hk.1.1.1.2.1, ⟨hk.1.1.1.2.2, ⟨hk.1.2, hk.2⟩⟩⟩⟩)⟩, ⟨by (with_reducible repeat (first | apply Kd.R_alloc | apply Kd.R_drewN | apply Kd.R_drew)); exact Kd.R_mono HO410.out (fun _ hk => ⟨hk.1.1.1.1, ⟨hk.1.1.1.2.1, ⟨hk.1.1.1.2.2, ⟨hk.1.2, hk.2⟩⟩⟩⟩)⟩, ⟨by (with_reducible repeat (first | apply Kd.R_alloc | apply Kd.R_drewN | apply Kd.R_drew)); exact Kd.R_mono HO423.out (fun _ hk => ⟨hk.1.1.1.1.2, ⟨hk.1.1.1.2, ⟨hk.1.1.2, ⟨hk.1.2, hk.1.1.1.1.1⟩⟩⟩⟩)⟩, ⟨by (with_reducible repeat (first | apply Kd.R_alloc | apply Kd.R_drewN | apply Kd.R_drew)); exact Kd.R_mono HO425.out (fun _ hk => ⟨hk.1.1.1.1.2, ⟨hk.1.1.1.2, ⟨hk.1.1.2, ⟨hk.1.2, hk.1.1.1.1.1⟩⟩⟩⟩)⟩, ⟨by repeat (first | (with_reducible first | exact HB.out | apply below_alloc | apply pw_below_drewN | apply below_drew1) | exact HB.out)⟩⟩
      case rest =>
        clear HC15
        try clear c1
        try clear c2
        try clear p2
        try clear c5
        try clear c6
        try clear p6
        try clear c8
        try clear c8b0
        try clear c8b1
        try clear c9
        try clear c12
        try clear c13
        try clear c24
        try clear c24b0
        try clear c24b1
        try clear c25
        try clear c25b0
        try clear c25b1
        try clear p2
        obtain ⟨kq, x73_14, rfl, HA, HJ14, HO_7, HO_8, HO_9, HO_10, HO_11, HO_12, HB⟩ := hcut
        cases kq with
        | zero => exact absurd HA.out (by simp [ductuslaw23_NormJoins.j1])
        | succ kj14 =>
          have H := HA.out
          clear HA
          simp only [ductuslaw23_NormJoins.j1] at H
          by_cases c31 : x73_14 = true
          · subst c31
            have H1 : (none) = some r := by rw [if_pos rfl] at H; exact H
            clear H
            have H := H1
            clear H1
            exact absurd H (by simp)
          replace c31 := Bool.eq_false_iff.mpr c31
          subst c31
          have H1 : (ductuslaw23_NormJoins.l0 kj14 l0 t399 t400 t405 t406 t420 t421 0) = some r := by rw [if_neg (show ¬ (false = true) by decide)] at H; exact H
          clear H
          have H := H1
          clear H1
          have H' := Aside0.mk H
          clear H
          go_wp2
          go_loopg [13] kj14 (fun kq v13 w' => ∃ (x13_3 : Int), v13 = .int .i64 x13_3 ∧ Aside0 (ductuslaw23_NormJoins.l0 kq l0 t399 t400 t405 t406 t420 t421 x13_3 = some r) ∧ Aside0 (kq ≤ kj14) ∧ Aside0 (Kd.R (Kd.int .i64) 3 w' w.heap.size (fun k_ => some k_ ≠ (v403 : Value).ownBlock ∧ some k_ ≠ (v407 : Value).ownBlock ∧ some k_ ≠ (v409 : Value).ownBlock ∧ some k_ ≠ (v422 : Value).ownBlock ∧ some k_ ≠ (v424 : Value).ownBlock) v401 t399) ∧ Aside0 (Kd.R (Kd.int .i64) 3 w' w.heap.size (fun k_ => some k_ ≠ (v401 : Value).ownBlock ∧ some k_ ≠ (v407 : Value).ownBlock ∧ some k_ ≠ (v409 : Value).ownBlock ∧ some k_ ≠ (v422 : Value).ownBlock ∧ some k_ ≠ (v424 : Value).ownBlock) v403 t400) ∧ Aside0 (Kd.R (Kd.int .i64) 3 w' w.heap.size (fun k_ => some k_ ≠ (v401 : Value).ownBlock ∧ some k_ ≠ (v403 : Value).ownBlock ∧ some k_ ≠ (v409 : Value).ownBlock ∧ some k_ ≠ (v422 : Value).ownBlock ∧ some k_ ≠ (v424 : Value).ownBlock) v407 t405) ∧ Aside0 (Kd.R (Kd.int .i64) 3 w' w.heap.size (fun k_ => some k_ ≠ (v401 : Value).ownBlock ∧ some k_ ≠ (v403 : Value).ownBlock ∧ some k_ ≠ (v407 : Value).ownBlock ∧ some k_ ≠ (v422 : Value).ownBlock ∧ some k_ ≠ (v424 : Value).ownBlock) v409 t406) ∧ Aside0 (Kd.R (Kd.int .i64) 3 w' w.heap.size (fun k_ => some k_ ≠ (v401 : Value).ownBlock ∧ some k_ ≠ (v403 : Value).ownBlock ∧ some k_ ≠ (v407 : Value).ownBlock ∧ some k_ ≠ (v409 : Value).ownBlock ∧ some k_ ≠ (v424 : Value).ownBlock) v422 t420) ∧ Aside0 (Kd.R (Kd.int .i64) 3 w' w.heap.size (fun k_ => some k_ ≠ (v401 : Value).ownBlock ∧ some k_ ≠ (v403 : Value).ownBlock ∧ some k_ ≠ (v407 : Value).ownBlock ∧ some k_ ≠ (v409 : Value).ownBlock ∧ some k_ ≠ (v422 : Value).ownBlock) v424 t421) ∧ Aside0 (Below w.heap.size w w'))
          case atStart => exact ⟨(0), (by first | rfl | (simp; done) | (simp [*]; done)), H', ⟨Nat.le_refl _⟩, ⟨by (with_reducible repeat (first | apply Kd.R_alloc | apply Kd.R_drewN | apply Kd.R_drew)); exact HO_7.out⟩, ⟨by (with_reducible repeat (first | apply Kd.R_alloc | apply Kd.R_drewN | apply Kd.R_drew)); exact HO_8.out⟩, ⟨by (with_reducible repeat (first | apply Kd.R_alloc | apply Kd.R_drewN | apply Kd.R_drew)); exact HO_9.out⟩, ⟨by (with_reducible repeat (first | apply Kd.R_alloc | apply Kd.R_drewN | apply Kd.R_drew)); exact HO_10.out⟩, ⟨by (with_reducible repeat (first | apply Kd.R_alloc | apply Kd.R_drewN | apply Kd.R_drew)); exact HO_11.out⟩, ⟨by (with_reducible repeat (first | apply Kd.R_alloc | apply Kd.R_drewN | apply Kd.R_drew)); exact HO_12.out⟩, ⟨by repeat (first | (with_reducible first | exact HB.out | apply below_alloc | apply pw_below_drewN | apply below_drew1) | exact HB.out)⟩⟩
          case round =>
            clear H'
            try clear c1
            try clear c2
            try clear p2
            try clear c3
            try clear c5
            try clear c6
            try clear p6
            try clear c8
            try clear c8b0
            try clear c8b1
            try clear c9
            try clear c12
            try clear c13
            try clear c24
            try clear c24b0
            try clear c24b1
            try clear c25
            try clear c25b0
            try clear c25b1
            try clear c31
            try clear p2
            try clear p6
            obtain ⟨x13_3, rfl, HA, HK3, HO_7, HO_8, HO_9, HO_10, HO_11, HO_12, HB⟩ := hrel
            cases gk with
            | zero => exact absurd HA.out (by simp [ductuslaw23_NormJoins.l0])
            | succ k3 =>
              have H := HA.out
              clear HA
              simp only [ductuslaw23_NormJoins.l0] at H
              by_cases c32 : x13_3 < (t406.length : Int)
              · rw [if_pos c32] at H
                have c32b0 : decide (x13_3 < (t406.length : Int)) = true := decide_eq_true c32
                clear c32
                obtain ⟨ji33, hji33⟩ : ∃ j_ : Int, (wrap64 ((t399.length : Int) + x13_3)) = j_ := ⟨_, rfl⟩
                replace H : (if 0 ≤ (ji33) then (if (ji33) < (t421.length : Int) then (if 0 ≤ x13_3 then (if (rd t421 (ji33)) = (wrap64 ((l0.length : Int) + (rd t406 x13_3))) then (ductuslaw23_NormJoins.l0 k3 l0 t399 t400 t405 t406 t420 t421 (wrap64 (x13_3 + 1))) else (none)) else (none)) else (none)) else (none)) = some r := by first | (rw [hji33] at H; exact H) | (simp only [hji33] at H ⊢; exact H)
                have hji33w : (IntKind.i64.wrap ((t399.length : Int) + x13_3)) = ji33 := (i64_w _).trans hji33
                by_cases c34 : 0 ≤ (ji33)
                rotate_left
                · rw [if_neg c34] at H
                  exact absurd H (by simp)
                rw [if_pos c34] at H
                have c34b0 : decide (0 ≤ (ji33)) = true := decide_eq_true c34
                clear c34
                by_cases c35 : (ji33) < (t421.length : Int)
                rotate_left
                · rw [if_neg c35] at H
                  exact absurd H (by simp)
                rw [if_pos c35] at H
                have c35b0 : decide ((ji33) < (t421.length : Int)) = true := decide_eq_true c35
                clear c35
                by_cases c36 : 0 ≤ x13_3
                rotate_left
                · rw [if_neg c36] at H
                  exact absurd H (by simp)
                rw [if_pos c36] at H
                have c36b0 : decide (0 ≤ x13_3) = true := decide_eq_true c36
                clear c36
                by_cases c37 : (rd t421 (ji33)) = (wrap64 ((l0.length : Int) + (rd t406 x13_3)))
                rotate_left
                · rw [if_neg c37] at H
                  exact absurd H (by simp)
                rw [if_pos c37] at H
                have c37b0 : ((rd t421 (ji33)) == (wrap64 ((l0.length : Int) + (rd t406 x13_3)))) = true := beq_iff_eq.mpr c37
                have c37b1 : ((rd t421 (ji33)) != (wrap64 ((l0.length : Int) + (rd t406 x13_3)))) = false := bne_eq_false_iff_eq.mpr c37
                clear c37
                have H' := Aside0.mk H
                clear H
                obtain ⟨Ao38, co38, eo38⟩ := Kd.R_slice HO_10.out
                subst eo38
                try go_wp2
                have n0_ := Aside0.mk (Kd.R_drew HO_7.out)
                have n1_ := Aside0.mk (Kd.R_drew HO_8.out)
                have n2_ := Aside0.mk (Kd.R_drew HO_9.out)
                have n3_ := Aside0.mk (Kd.R_drew HO_10.out)
                have n4_ := Aside0.mk (Kd.R_drew HO_11.out)
                have n5_ := Aside0.mk (Kd.R_drew HO_12.out)
                have n6_ := Aside0.mk (below_drew1 HB.out)
                clear HO_7
                clear HO_8
                clear HO_9
                clear HO_10
                clear HO_11
                clear HO_12
                clear HB
                have HO_7 := n0_
                have HO_8 := n1_
                have HO_9 := n2_
                have HO_10 := n3_
                have HO_11 := n4_
                have HO_12 := n5_
                have HB := n6_
                clear n0_ n1_ n2_ n3_ n4_ n5_ n6_
                obtain ⟨Ao40, co40, eo40⟩ := Kd.R_slice HO_7.out
                (first | subst eo40 | (injection eo40 with f1_ f2_ f3_; have f4_ := f1_.symm; have f5_ := f3_.symm; clear f1_ f2_ f3_; subst f4_; subst f5_))
                obtain ⟨Ao41, co41, eo41⟩ := Kd.R_slice HO_12.out
                (first | subst eo41 | (injection eo41 with f1_ f2_ f3_; have f4_ := f1_.symm; have f5_ := f3_.symm; clear f1_ f2_ f3_; subst f4_; subst f5_))
                have p426 : 0 ≤ ((ji33) : Int) := of_decide_eq_true (by first | (with_reducible assumption) | assumption)
                have q426 : (ji33) < (t421.length : Int) := of_decide_eq_true (by first | (with_reducible assumption) | assumption)
                obtain ⟨ad426, e426, hx426_0⟩ := Kd.at_int (Kd.R_reads' HO_12.out).2.2 (ji33) p426 q426
                cases e426
                replace p426 := eq_true p426
                replace q426 := eq_true q426
                have p427 : 0 ≤ (x13_3 : Int) := of_decide_eq_true (by first | (with_reducible assumption) | assumption)
                have q427 : x13_3 < (t406.length : Int) := of_decide_eq_true (by first | (with_reducible assumption) | assumption)
                obtain ⟨ad427, e427, hx427_0⟩ := Kd.at_int (Kd.R_reads' HO_10.out).2.2 x13_3 p427 q427
                cases e427
                replace p427 := eq_true p427
                replace q427 := eq_true q427
                refine start_ (n := 15) (S := fun w' => w'.cell? (ad426.add ((ji33)).toNat) = some (.int .i64 (rd t421 (ji33))) ∧ w'.cell? (ad427.add (x13_3).toNat) = some (.int .i64 (rd t406 x13_3))) (ds := []) #[false, false, false, false, false, false, false, false, false, false, false, false, false, false, false] (by kernel_rfl) rfl rfl ⟨hx426_0, hx427_0⟩ (fun hHeld => ?_); refine with_tabW ductuslaw23_NormJoins.tab13 ductuslaw23_NormJoins.bits13 (fun HT_ HW_ => ?_)
                generalize wr.drew = w39 at HO_7 HO_8 HO_9 HO_10 HO_11 HO_12 HB hx426_0 hx427_0 hHeld ⊢
                refine pure_ (i := 0) (N := some 80) (v := ?_) (a' := ?_) #[true, false, false, false, false, false, false, false, false, false, false, false, false, false, false] rfl rfl (any_of HT_.out (by kernel_rfl)) (fun _ _ _ h => h) (Or.inl ⟨by rfl, ?_⟩) ?_ ?_
                rotate_left
                · intro w'
                  go_simp
                  with_reducible rfl
                rotate_left
                · simp only [Act.put, List.setIfInBounds_toArray, List.set_cons_zero, List.set_cons_succ, i64_w, i32_w]
                  rfl
                refine pure_ (i := 1) (N := some 81) (v := ?_) (a' := ?_) #[true, true, false, false, false, false, false, false, false, false, false, false, false, false, false] rfl rfl (any_of HT_.out (by kernel_rfl)) (fun _ _ _ h => h) (Or.inl ⟨by rfl, ?_⟩) ?_ ?_
                rotate_left
                · intro w'
                  go_simp
                  with_reducible rfl
                rotate_left
                · simp only [Act.put, List.setIfInBounds_toArray, List.set_cons_zero, List.set_cons_succ, i64_w, i32_w]
                  rfl
                refine pure_ (i := 2) (N := some 82) (v := ?_) (a' := ?_) #[true, true, true, false, false, false, false, false, false, false, false, false, false, false, false] rfl rfl (any_of HT_.out (by kernel_rfl)) (fun _ _ _ h => h) (Or.inl ⟨by rfl, ?_⟩) ?_ ?_
                rotate_left
                · intro w'
                  go_simp
                  with_reducible rfl
                rotate_left
                · simp only [Act.put, List.setIfInBounds_toArray, List.set_cons_zero, List.set_cons_succ, i64_w, i32_w]
                  rfl
                refine pure_ (i := 3) (N := some 83) (v := ?_) (a' := ?_) #[true, true, true, true, false, false, false, false, false, false, false, false, false, false, false] rfl rfl (any_of HT_.out (by kernel_rfl)) (fun _ _ _ h => h) (Or.inl ⟨by rfl, ?_⟩) ?_ ?_
                rotate_left
                · intro w'
                  go_simp
                  with_reducible rfl
                rotate_left
                · simp only [Act.put, List.setIfInBounds_toArray, List.set_cons_zero, List.set_cons_succ, i64_w, i32_w]
                  rfl
                refine pure_ (i := 4) (N := some 84) (v := ?_) (a' := ?_) #[true, true, true, true, true, false, false, false, false, false, false, false, false, false, false] rfl rfl (any_of HT_.out (by kernel_rfl)) (fun _ _ _ h => h) (Or.inl ⟨by rfl, ?_⟩) ?_ ?_
                rotate_left
                · intro w'
                  go_simp
                  with_reducible rfl
                rotate_left
                · simp only [Act.put, List.setIfInBounds_toArray, List.set_cons_zero, List.set_cons_succ, i64_w, i32_w]
                  rfl
                refine pure_ (i := 5) (N := some 85) (v := ?_) (a' := ?_) #[true, true, true, true, true, true, false, false, false, false, false, false, false, false, false] rfl rfl (any_of HT_.out (by kernel_rfl)) (fun _ _ _ h => h) (Or.inl ⟨by rfl, ?_⟩) ?_ ?_
                rotate_left
                · intro w'
                  go_simp
                  with_reducible rfl
                rotate_left
                · simp only [Act.put, List.setIfInBounds_toArray, List.set_cons_zero, List.set_cons_succ, i64_w, i32_w]
                  rfl
                refine pure_ (i := 7) (N := some 87) (v := ?_) (a' := ?_) #[true, true, true, true, true, true, false, true, false, false, false, false, false, false, false] rfl rfl (any_of HT_.out (by kernel_rfl)) (fun _ _ _ h => h) (Or.inl ⟨by rfl, ?_⟩) ?_ ?_
                rotate_left
                · intro w'
                  go_simp
                  with_reducible rfl
                rotate_left
                · simp only [Act.put, List.setIfInBounds_toArray, List.set_cons_zero, List.set_cons_succ, i64_w, i32_w]
                  rfl
                refine pure_ (i := 8) (N := some 88) (v := ?_) (a' := ?_) #[true, true, true, true, true, true, false, true, true, false, false, false, false, false, false] rfl rfl (any_of HT_.out (by kernel_rfl)) (fun _ _ _ h => h) (Or.inl ⟨by rfl, ?_⟩) ?_ ?_
                rotate_left
                · intro w'
                  go_simp
                  with_reducible rfl
                rotate_left
                · simp only [Act.put, List.setIfInBounds_toArray, List.set_cons_zero, List.set_cons_succ, i64_w, i32_w]
                  rfl
                refine pure_ (i := 9) (N := some 89) (v := ?_) (a' := ?_) #[true, true, true, true, true, true, false, true, true, true, false, false, false, false, false] rfl rfl (any_of HT_.out (by kernel_rfl)) (fun _ _ _ h => h) (Or.inl ⟨by rfl, ?_⟩) ?_ ?_
                rotate_left
                · intro w'
                  go_simp
                  with_reducible rfl
                rotate_left
                · simp only [Act.put, List.setIfInBounds_toArray, List.set_cons_zero, List.set_cons_succ, i64_w, i32_w]
                  rfl
                refine pure_ (i := 10) (N := some 90) (v := ?_) (a' := ?_) #[true, true, true, true, true, true, false, true, true, true, true, false, false, false, false] rfl rfl (any_of HT_.out (by kernel_rfl)) (fun _ _ _ h => h) (Or.inl ⟨by rfl, ?_⟩) ?_ ?_
                rotate_left
                · intro w'
                  go_simp
                  with_reducible rfl
                rotate_left
                · simp only [Act.put, List.setIfInBounds_toArray, List.set_cons_zero, List.set_cons_succ, i64_w, i32_w]
                  rfl
                refine pure_ (i := 11) (N := some 91) (v := ?_) (a' := ?_) #[true, true, true, true, true, true, false, true, true, true, true, true, false, false, false] rfl rfl (any_of HT_.out (by kernel_rfl)) (fun _ _ _ h => h) (Or.inl ⟨by rfl, ?_⟩) ?_ ?_
                rotate_left
                · intro w'
                  go_simp
                  with_reducible rfl
                rotate_left
                · simp only [Act.put, List.setIfInBounds_toArray, List.set_cons_zero, List.set_cons_succ, i64_w, i32_w]
                  rfl
                refine take_ (i := 6) (N := some 86) (v := ?_) (a' := ?_) #[true, true, true, true, true, true, true, true, true, true, true, true, false, false, false] rfl rfl (take_ofW HT_.out HW_.out (by kernel_rfl)) (fun _ _ _ h => h) (Or.inl ⟨by rfl, ?_⟩) hHeld ?_ ?_
                rotate_left
                · rintro w' ⟨s0, s1⟩
                  go_simp
                  with_reducible rfl
                rotate_left
                · simp only [Act.put, List.setIfInBounds_toArray, List.set_cons_zero, List.set_cons_succ, i64_w, i32_w]
                  rfl
                refine take_ (i := 12) (N := some 92) (v := ?_) (a' := ?_) #[true, true, true, true, true, true, true, true, true, true, true, true, true, false, false] rfl rfl (take_ofW HT_.out HW_.out (by kernel_rfl)) (fun _ _ _ h => h) (Or.inl ⟨by rfl, ?_⟩) hHeld ?_ ?_
                rotate_left
                · rintro w' ⟨s0, s1⟩
                  go_simp
                  with_reducible rfl
                rotate_left
                · simp only [Act.put, List.setIfInBounds_toArray, List.set_cons_zero, List.set_cons_succ, i64_w, i32_w]
                  rfl
                refine pure_ (i := 13) (N := some 93) (v := ?_) (a' := ?_) #[true, true, true, true, true, true, true, true, true, true, true, true, true, true, false] rfl rfl (any_of HT_.out (by kernel_rfl)) (fun _ _ _ h => h) (Or.inl ⟨by rfl, ?_⟩) ?_ ?_
                rotate_left
                · intro w'
                  go_simp
                  with_reducible rfl
                rotate_left
                · simp only [Act.put, List.setIfInBounds_toArray, List.set_cons_zero, List.set_cons_succ, i64_w, i32_w]
                  rfl
                refine pure_ (i := 14) (N := some 94) (v := ?_) (a' := ?_) #[true, true, true, true, true, true, true, true, true, true, true, true, true, true, true] rfl rfl (any_of HT_.out (by kernel_rfl)) (fun _ _ _ h => h) (Or.inl ⟨by rfl, ?_⟩) ?_ ?_
                rotate_left
                · intro w'
                  go_simp
                  with_reducible rfl
                rotate_left
                · simp only [Act.put, List.setIfInBounds_toArray, List.set_cons_zero, List.set_cons_succ, i64_w, i32_w]
                  rfl
                refine done_ (done_of HT_.out (by kernel_rfl)) ?_
                try go_wp2
                go_roundg k3
                case measure => have := HJ5.out; have := HJ14.out; have := HK3.out; omega
                case rel => exact ⟨(wrap64 (x13_3 + 1)), (by first | rfl | (simp; done) | (simp [*]; done)), H', ⟨by have := HJ5.out; have := HJ14.out; have := HK3.out; omega⟩, ⟨by (with_reducible repeat (first | apply Kd.R_alloc | apply Kd.R_drewN | apply Kd.R_drew)); exact HO_7.out⟩, ⟨by (with_reducible repeat (first | apply Kd.R_alloc | apply Kd.R_drewN | apply Kd.R_drew)); exact HO_8.out⟩, ⟨by (with_reducible repeat (first | apply Kd.R_alloc | apply Kd.R_drewN | apply Kd.R_drew)); exact HO_9.out⟩, ⟨by (with_reducible repeat (first | apply Kd.R_alloc | apply Kd.R_drewN | apply Kd.R_drew)); exact HO_10.out⟩, ⟨by (with_reducible repeat (first | apply Kd.R_alloc | apply Kd.R_drewN | apply Kd.R_drew)); exact HO_11.out⟩, ⟨by (with_reducible repeat (first | apply Kd.R_alloc | apply Kd.R_drewN | apply Kd.R_drew)); exact HO_12.out⟩, ⟨by repeat (first | (with_reducible first | exact HB.out | apply below_alloc | apply pw_below_drewN | apply below_drew1) | exact HB.out)⟩⟩
              rw [if_neg c32] at H
              have c32b0 : decide (x13_3 < (t406.length : Int)) = false := decide_eq_false c32
              clear c32
              obtain ⟨y428, hy428⟩ : ∃ y_ : List Int, y_ = (([] : List Int)) := ⟨_, rfl⟩
              replace H : (if y428.length + t399.length < 17592186044416 then ((some (y428 ++ t399 : List Int)).bind fun y431 => (if y431.length + t405.length < 17592186044416 then ((ductusref01_Ints.f k3 t420 (y431 ++ t405)).bind fun t437 => (if t437 = true then (if 0 ≤ (t399.length : Int) then (if (t399.length : Int) ≤ (t421.length : Int) then (if (t399.length : Int) ≤ (t400.length : Int) then ((ductusref01_Ints.f k3 (t421.take ((t399.length : Int) : Int).toNat) (t400.take ((t399.length : Int) : Int).toNat)).bind fun t446 => (some t446)) else (none)) else (none)) else (none)) else (none))) else (none))) else (none)) = some r := by first | (rw [hy428]; with_reducible exact H) | (have H2_ := (Option.bind_some _ _).symm.trans H; rw [hy428]; with_reducible exact H2_) | (have H2_ := (Option.bind_some _ _).symm.trans H; with_reducible exact H2_) | with_reducible exact H | (rw [hy428]; exact H) | exact H
              have Ny428 := Aside0.mk hy428
              clear hy428
              by_cases c42 : y428.length + t399.length < 17592186044416
              rotate_left
              · rw [if_neg c42] at H
                exact absurd H (by simp)
              rw [if_pos c42] at H
              have LMc42 := Aside0.mk c42
              clear c42
              obtain ⟨y431, hy431⟩ : ∃ y_ : List Int, y_ = (y428 ++ t399) := ⟨_, rfl⟩
              replace H : (if y431.length + t405.length < 17592186044416 then ((ductusref01_Ints.f k3 t420 (y431 ++ t405)).bind fun t437 => (if t437 = true then (if 0 ≤ (t399.length : Int) then (if (t399.length : Int) ≤ (t421.length : Int) then (if (t399.length : Int) ≤ (t400.length : Int) then ((ductusref01_Ints.f k3 (t421.take ((t399.length : Int) : Int).toNat) (t400.take ((t399.length : Int) : Int).toNat)).bind fun t446 => (some t446)) else (none)) else (none)) else (none)) else (none))) else (none)) = some r := by first | (rw [hy431]; with_reducible exact H) | (have H2_ := (Option.bind_some _ _).symm.trans H; rw [hy431]; with_reducible exact H2_) | (have H2_ := (Option.bind_some _ _).symm.trans H; with_reducible exact H2_) | with_reducible exact H | (rw [hy431]; exact H) | exact H
              have Ny431 := Aside0.mk hy431
              clear hy431
              by_cases c43 : y431.length + t405.length < 17592186044416
              rotate_left
              · rw [if_neg c43] at H
                exact absurd H (by simp)
              rw [if_pos c43] at H
              have LMc43 := Aside0.mk c43
              clear c43
              obtain ⟨y434, hy434⟩ : ∃ y_ : List Int, y_ = (y431 ++ t405) := ⟨_, rfl⟩
              replace H : ((ductusref01_Ints.f k3 t420 y434).bind fun t437 => (if t437 = true then (if 0 ≤ (t399.length : Int) then (if (t399.length : Int) ≤ (t421.length : Int) then (if (t399.length : Int) ≤ (t400.length : Int) then ((ductusref01_Ints.f k3 (t421.take ((t399.length : Int) : Int).toNat) (t400.take ((t399.length : Int) : Int).toNat)).bind fun t446 => (some t446)) else (none)) else (none)) else (none)) else (none))) = some r := by first | (rw [hy434]; with_reducible exact H) | (have H2_ := (Option.bind_some _ _).symm.trans H; rw [hy434]; with_reducible exact H2_) | (have H2_ := (Option.bind_some _ _).symm.trans H; with_reducible exact H2_) | with_reducible exact H | (rw [hy434]; exact H) | exact H
              have Ny434 := Aside0.mk hy434
              clear hy434
              replace H := Option.bind_eq_some_iff.mp H
              obtain ⟨t437, A440, H⟩ := H
              replace H : (if t437 = true then (if 0 ≤ (t399.length : Int) then (if (t399.length : Int) ≤ (t421.length : Int) then (if (t399.length : Int) ≤ (t400.length : Int) then ((ductusref01_Ints.f k3 (t421.take ((t399.length : Int) : Int).toNat) (t400.take ((t399.length : Int) : Int).toNat)).bind fun t446 => (some t446)) else (none)) else (none)) else (none)) else (none)) = some r := H
              have A44 := Aside0.mk A440
              clear A440
              by_cases c45 : t437 = true
              rotate_left
              · replace c45 := Bool.eq_false_iff.mpr c45
                subst c45
                have H1 : (none) = some r := by rw [if_neg (show ¬ (false = true) by decide)] at H; exact H
                clear H
                have H := H1
                clear H1
                exact absurd H (by simp)
              subst c45
              have H1 : (if 0 ≤ (t399.length : Int) then (if (t399.length : Int) ≤ (t421.length : Int) then (if (t399.length : Int) ≤ (t400.length : Int) then ((ductusref01_Ints.f k3 (t421.take ((t399.length : Int) : Int).toNat) (t400.take ((t399.length : Int) : Int).toNat)).bind fun t446 => (some t446)) else (none)) else (none)) else (none)) = some r := by rw [if_pos rfl] at H; exact H
              clear H
              have H := H1
              clear H1
              by_cases c46 : 0 ≤ (t399.length : Int)
              rotate_left
              · rw [if_neg c46] at H
                exact absurd H (by simp)
              rw [if_pos c46] at H
              have c46b0 := eq_true c46
              have c46b1 : decide (0 ≤ (t399.length : Int)) = true := decide_eq_true c46
              clear c46
              by_cases c47 : (t399.length : Int) ≤ (t421.length : Int)
              rotate_left
              · rw [if_neg c47] at H
                exact absurd H (by simp)
              rw [if_pos c47] at H
              have c47b0 := eq_true c47
              have c47b1 : decide ((t399.length : Int) ≤ (t421.length : Int)) = true := decide_eq_true c47
              clear c47
              obtain ⟨y438, hy438⟩ : ∃ y_ : List Int, y_ = (t421.take ((t399.length : Int) : Int).toNat) := ⟨_, rfl⟩
              replace H : (if (t399.length : Int) ≤ (t400.length : Int) then ((ductusref01_Ints.f k3 y438 (t400.take ((t399.length : Int) : Int).toNat)).bind fun t446 => (some t446)) else (none)) = some r := by first | (rw [hy438]; with_reducible exact H) | (have H2_ := (Option.bind_some _ _).symm.trans H; rw [hy438]; with_reducible exact H2_) | (have H2_ := (Option.bind_some _ _).symm.trans H; with_reducible exact H2_) | with_reducible exact H | (rw [hy438]; exact H) | exact H
              have Ny438 := Aside0.mk hy438
              clear hy438
              have c48b0 := eq_true (of_decide_eq_true (by first | (with_reducible assumption) | assumption) : 0 ≤ (t399.length : Int))
              by_cases c49 : (t399.length : Int) ≤ (t400.length : Int)
              rotate_left
              · rw [if_neg c49] at H
                exact absurd H (by simp)
              rw [if_pos c49] at H
              have c49b0 := eq_true c49
              have c49b1 : decide ((t399.length : Int) ≤ (t400.length : Int)) = true := decide_eq_true c49
              clear c49
              obtain ⟨y442, hy442⟩ : ∃ y_ : List Int, y_ = (t400.take ((t399.length : Int) : Int).toNat) := ⟨_, rfl⟩
              replace H : ((ductusref01_Ints.f k3 y438 y442).bind fun t446 => (some t446)) = some r := by first | (rw [hy442]; with_reducible exact H) | (have H2_ := (Option.bind_some _ _).symm.trans H; rw [hy442]; with_reducible exact H2_) | (have H2_ := (Option.bind_some _ _).symm.trans H; with_reducible exact H2_) | with_reducible exact H | (rw [hy442]; exact H) | exact H
              have Ny442 := Aside0.mk hy442
              clear hy442
              replace H := Option.bind_eq_some_iff.mp H
              obtain ⟨t446, A500, H⟩ := H
              replace H : (some t446) = some r := H
              have A50 := Aside0.mk A500
              clear A500
              obtain rfl := Option.some.inj H
              obtain ⟨Ao51, co51, eo51⟩ := Kd.R_slice HO_10.out
              subst eo51
              try go_wp2
              have n0_ := Aside0.mk (Kd.R_drew HO_7.out)
              have n1_ := Aside0.mk (Kd.R_drew HO_8.out)
              have n2_ := Aside0.mk (Kd.R_drew HO_9.out)
              have n3_ := Aside0.mk (Kd.R_drew HO_10.out)
              have n4_ := Aside0.mk (Kd.R_drew HO_11.out)
              have n5_ := Aside0.mk (Kd.R_drew HO_12.out)
              have n6_ := Aside0.mk (below_drew1 HB.out)
              clear HO_7
              clear HO_8
              clear HO_9
              clear HO_10
              clear HO_11
              clear HO_12
              clear HB
              have HO_7 := n0_
              have HO_8 := n1_
              have HO_9 := n2_
              have HO_10 := n3_
              have HO_11 := n4_
              have HO_12 := n5_
              have HB := n6_
              clear n0_ n1_ n2_ n3_ n4_ n5_ n6_
              refine start_ (n := 19) (S := fun w' => True) (ds := []) #[false, false, false, false, false, false, false, false, false, false, false, false, false, false, false, false, false, false, false] (by kernel_rfl) rfl rfl trivial (fun hHeld => ?_); refine with_tabW ductuslaw23_NormJoins.tab15 ductuslaw23_NormJoins.bits15 (fun HT_ HW_ => ?_)
              generalize wr.drew = w52 at HO_7 HO_8 HO_9 HO_10 HO_11 HO_12 HB hHeld ⊢
              refine pure_ (i := 0) (N := some 95) (v := ?_) (a' := ?_) #[true, false, false, false, false, false, false, false, false, false, false, false, false, false, false, false, false, false, false] rfl rfl (any_of HT_.out (by kernel_rfl)) (fun _ _ _ h => h) (Or.inl ⟨by rfl, ?_⟩) ?_ ?_
              rotate_left
              · intro w'
                go_simp
                with_reducible rfl
              rotate_left
              · simp only [Act.put, List.setIfInBounds_toArray, List.set_cons_zero, List.set_cons_succ, i64_w, i32_w]
                rfl
              refine pure_ (i := 2) (N := some 97) (v := ?_) (a' := ?_) #[true, false, true, false, false, false, false, false, false, false, false, false, false, false, false, false, false, false, false] rfl rfl (any_of HT_.out (by kernel_rfl)) (fun _ _ _ h => h) (Or.inl ⟨by rfl, ?_⟩) ?_ ?_
              rotate_left
              · intro w'
                go_simp
                with_reducible rfl
              rotate_left
              · simp only [Act.put, List.setIfInBounds_toArray, List.set_cons_zero, List.set_cons_succ, i64_w, i32_w]
                rfl
              refine pure_ (i := 4) (N := some 99) (v := ?_) (a' := ?_) #[true, false, true, false, true, false, false, false, false, false, false, false, false, false, false, false, false, false, false] rfl rfl (any_of HT_.out (by kernel_rfl)) (fun _ _ _ h => h) (Or.inl ⟨by rfl, ?_⟩) ?_ ?_
              rotate_left
              · intro w'
                go_simp
                with_reducible rfl
              rotate_left
              · simp only [Act.put, List.setIfInBounds_toArray, List.set_cons_zero, List.set_cons_succ, i64_w, i32_w]
                rfl
              refine one_ (i := 1) (N := some 96) #[true, true, true, false, true, false, false, false, false, false, false, false, false, false, false, false, false, false, false] rfl rfl (one_of HT_.out (by kernel_rfl)) (by decide) (fun K hK => ?_)
              refine Kd.R_lit_step (Kd.int .i64) _ 3 ?hg (N := 96) ?hd (xs := ([] : List Int)) (inner := []) (ok := fun _ => True) (okp := fun _ => True) ?hr ?hp (fun _ hk => hk) trivial (Below.refl _ _) (Nat.le_refl _) (by simp) ?_; (case hd => rfl); (case hg => rfl); (case hr => first | (go_simp; done) | (go_simp; rfl)); (case hp => exact (Reps.none _ _))
              intro v429 w53 ho54 hb hg_ hnew_
              clear hg_ hnew_
              (first | rw [← Ny428.out] at ho54 | (simp only [Int.reduceToNat] at ho54; rw [← Ny428.out] at ho54))
              have n0_ := Aside0.mk (Kd.R_elder' (by (with_reducible repeat (first | apply Kd.R_alloc | apply Kd.R_drewN | apply Kd.R_drew)); exact HO_7.out) (Kd.R_base ho54) hb)
              have n1_ := Aside0.mk (Kd.R_elder' (by (with_reducible repeat (first | apply Kd.R_alloc | apply Kd.R_drewN | apply Kd.R_drew)); exact HO_8.out) (Kd.R_base ho54) hb)
              have n2_ := Aside0.mk (Kd.R_elder' (by (with_reducible repeat (first | apply Kd.R_alloc | apply Kd.R_drewN | apply Kd.R_drew)); exact HO_9.out) (Kd.R_base ho54) hb)
              have n3_ := Aside0.mk (Kd.R_elder' (by (with_reducible repeat (first | apply Kd.R_alloc | apply Kd.R_drewN | apply Kd.R_drew)); exact HO_10.out) (Kd.R_base ho54) hb)
              have n4_ := Aside0.mk (Kd.R_elder' (by (with_reducible repeat (first | apply Kd.R_alloc | apply Kd.R_drewN | apply Kd.R_drew)); exact HO_11.out) (Kd.R_base ho54) hb)
              have n5_ := Aside0.mk (Kd.R_elder' (by (with_reducible repeat (first | apply Kd.R_alloc | apply Kd.R_drewN | apply Kd.R_drew)); exact HO_12.out) (Kd.R_base ho54) hb)
              have n6_ := Aside0.mk (Kd.R_lower (Kd.R_new' (Kd.R_new' (Kd.R_new' (Kd.R_new' (Kd.R_new' (Kd.R_new' ho54 (Kd.R_lt (by (with_reducible repeat (first | apply Kd.R_alloc | apply Kd.R_drewN | apply Kd.R_drew)); exact HO_7.out))) (Kd.R_lt (by (with_reducible repeat (first | apply Kd.R_alloc | apply Kd.R_drewN | apply Kd.R_drew)); exact HO_8.out))) (Kd.R_lt (by (with_reducible repeat (first | apply Kd.R_alloc | apply Kd.R_drewN | apply Kd.R_drew)); exact HO_9.out))) (Kd.R_lt (by (with_reducible repeat (first | apply Kd.R_alloc | apply Kd.R_drewN | apply Kd.R_drew)); exact HO_10.out))) (Kd.R_lt (by (with_reducible repeat (first | apply Kd.R_alloc | apply Kd.R_drewN | apply Kd.R_drew)); exact HO_11.out))) (Kd.R_lt (by (with_reducible repeat (first | apply Kd.R_alloc | apply Kd.R_drewN | apply Kd.R_drew)); exact HO_12.out))) (below_size (by repeat (first | (with_reducible first | exact HB.out | apply below_alloc | apply pw_below_drewN | apply below_drew1) | exact HB.out))))
              have n7_ := Aside0.mk (below_step (by repeat (first | (with_reducible first | exact HB.out | apply below_alloc | apply pw_below_drewN | apply below_drew1) | exact HB.out)) hb)
              clear HO_7
              clear HO_8
              clear HO_9
              clear HO_10
              clear HO_11
              clear HO_12
              clear HB
              have HO_7 := n0_
              have HO_8 := n1_
              have HO_9 := n2_
              have HO_10 := n3_
              have HO_11 := n4_
              have HO_12 := n5_
              have HO430 := n6_
              have HB := n7_
              clear n0_ n1_ n2_ n3_ n4_ n5_ n6_ n7_
              clear hb ho54
              obtain ⟨Ao56, co56, eo56⟩ := Kd.R_slice HO_7.out
              (first | subst eo56 | (injection eo56 with f1_ f2_ f3_; have f4_ := f1_.symm; have f5_ := f3_.symm; clear f1_ f2_ f3_; subst f4_; subst f5_))
              refine hK.out _ _ trivial (fun hHeld => ?_)
              clear hK K
              refine norm_ (a' := ?_) ?_ ?_
              rotate_left
              · show Act.put _ (some 96) _ = _
                simp only [Act.put, List.setIfInBounds_toArray, List.set_cons_zero, List.set_cons_succ, i64_w, i32_w]
                rfl
              refine one_ (i := 3) (N := some 98) #[true, true, true, true, true, false, false, false, false, false, false, false, false, false, false, false, false, false, false] rfl rfl (one_of HT_.out (by kernel_rfl)) (by decide) (fun K hK => ?_)
              refine Kd.R_append_rows_step (Kd.int .i64) (w0 := w) w.heap.size (by rfl) (.tmp 96) (.tmp 97) 22 3 (.int .i64 0) 8 rfl Try.underlying22 info3 rfl (by decide) (by omega) v429 y428 t399 _ _ _ (fun k_ => some k_ ≠ (.slice Ao56 t399.length co56 : Value).ownBlock ∧ some k_ ≠ (v403 : Value).ownBlock ∧ some k_ ≠ (v407 : Value).ownBlock ∧ some k_ ≠ (.slice Ao51 t406.length co51 : Value).ownBlock ∧ some k_ ≠ (v422 : Value).ownBlock ∧ some k_ ≠ (v424 : Value).ownBlock) (fun _ => False) rfl rfl ?aO ?aR (fun _ _ h => h) (fun _ h => h.elim) ?aF ?aB ?aS ?aL ?_
              (case aR => repeat (first | exact (Kd.R_reads' HO_7.out).2.2 | (with_reducible refine Kd.C_alloc ?_ _) | (with_reducible refine Kd.C_drewN ?_ _) | (with_reducible refine Kd.C_drew ?_)))
              (case aB => exact (by repeat (first | (with_reducible first | exact HB.out | apply below_alloc | apply pw_below_drewN | apply below_drew1) | exact HB.out)))
              (case aF => exact (fun k_ hk => ⟨Kd.fresh' (Kd.R_lt (by (with_reducible repeat (first | apply Kd.R_alloc | apply Kd.R_drewN | apply Kd.R_drew)); exact HO_7.out)) k_ hk, Kd.fresh' (Kd.R_lt (by (with_reducible repeat (first | apply Kd.R_alloc | apply Kd.R_drewN | apply Kd.R_drew)); exact HO_8.out)) k_ hk, Kd.fresh' (Kd.R_lt (by (with_reducible repeat (first | apply Kd.R_alloc | apply Kd.R_drewN | apply Kd.R_drew)); exact HO_9.out)) k_ hk, Kd.fresh' (Kd.R_lt (by (with_reducible repeat (first | apply Kd.R_alloc | apply Kd.R_drewN | apply Kd.R_drew)); exact HO_10.out)) k_ hk, Kd.fresh' (Kd.R_lt (by (with_reducible repeat (first | apply Kd.R_alloc | apply Kd.R_drewN | apply Kd.R_drew)); exact HO_11.out)) k_ hk, Kd.fresh' (Kd.R_lt (by (with_reducible repeat (first | apply Kd.R_alloc | apply Kd.R_drewN | apply Kd.R_drew)); exact HO_12.out)) k_ hk⟩))
              (case aO => exact (by (with_reducible repeat (first | apply Kd.R_alloc | apply Kd.R_drewN | apply Kd.R_drew)); exact Kd.R_mono HO430.out (fun _ hk => ⟨hk.1.1.1.1.1.2, ⟨hk.1.1.1.1.2, ⟨hk.1.1.1.2, ⟨hk.1.1.2, ⟨hk.1.2, hk.2⟩⟩⟩⟩⟩)))
              (case aS => exact (below_size (by repeat (first | (with_reducible first | exact HB.out | apply below_alloc | apply pw_below_drewN | apply below_drew1) | exact HB.out))))
              (case aL => have := LMc42.out; omega)
              intro v432 w55 ho hb hg hat
              rw [← Ny431.out] at ho
              have n0_ := Aside0.mk (Kd.R_after (ok := (fun k_ => some k_ ≠ (v403 : Value).ownBlock ∧ some k_ ≠ (v407 : Value).ownBlock ∧ some k_ ≠ (.slice Ao51 t406.length co51 : Value).ownBlock ∧ some k_ ≠ (v422 : Value).ownBlock ∧ some k_ ≠ (v424 : Value).ownBlock)) (by (with_reducible repeat (first | apply Kd.R_alloc | apply Kd.R_drewN | apply Kd.R_drew)); exact HO_7.out) hg hat)
              have n1_ := Aside0.mk (Kd.R_after (ok := (fun k_ => some k_ ≠ (.slice Ao56 t399.length co56 : Value).ownBlock ∧ some k_ ≠ (v407 : Value).ownBlock ∧ some k_ ≠ (.slice Ao51 t406.length co51 : Value).ownBlock ∧ some k_ ≠ (v422 : Value).ownBlock ∧ some k_ ≠ (v424 : Value).ownBlock)) (by (with_reducible repeat (first | apply Kd.R_alloc | apply Kd.R_drewN | apply Kd.R_drew)); exact HO_8.out) hg hat)
              have n2_ := Aside0.mk (Kd.R_after (ok := (fun k_ => some k_ ≠ (.slice Ao56 t399.length co56 : Value).ownBlock ∧ some k_ ≠ (v403 : Value).ownBlock ∧ some k_ ≠ (.slice Ao51 t406.length co51 : Value).ownBlock ∧ some k_ ≠ (v422 : Value).ownBlock ∧ some k_ ≠ (v424 : Value).ownBlock)) (by (with_reducible repeat (first | apply Kd.R_alloc | apply Kd.R_drewN | apply Kd.R_drew)); exact HO_9.out) hg hat)
              have n3_ := Aside0.mk (Kd.R_after (ok := (fun k_ => some k_ ≠ (.slice Ao56 t399.length co56 : Value).ownBlock ∧ some k_ ≠ (v403 : Value).ownBlock ∧ some k_ ≠ (v407 : Value).ownBlock ∧ some k_ ≠ (v422 : Value).ownBlock ∧ some k_ ≠ (v424 : Value).ownBlock)) (by (with_reducible repeat (first | apply Kd.R_alloc | apply Kd.R_drewN | apply Kd.R_drew)); exact HO_10.out) hg hat)
              have n4_ := Aside0.mk (Kd.R_after (ok := (fun k_ => some k_ ≠ (.slice Ao56 t399.length co56 : Value).ownBlock ∧ some k_ ≠ (v403 : Value).ownBlock ∧ some k_ ≠ (v407 : Value).ownBlock ∧ some k_ ≠ (.slice Ao51 t406.length co51 : Value).ownBlock ∧ some k_ ≠ (v424 : Value).ownBlock)) (by (with_reducible repeat (first | apply Kd.R_alloc | apply Kd.R_drewN | apply Kd.R_drew)); exact HO_11.out) hg hat)
              have n5_ := Aside0.mk (Kd.R_after (ok := (fun k_ => some k_ ≠ (.slice Ao56 t399.length co56 : Value).ownBlock ∧ some k_ ≠ (v403 : Value).ownBlock ∧ some k_ ≠ (v407 : Value).ownBlock ∧ some k_ ≠ (.slice Ao51 t406.length co51 : Value).ownBlock ∧ some k_ ≠ (v422 : Value).ownBlock)) (by (with_reducible repeat (first | apply Kd.R_alloc | apply Kd.R_drewN | apply Kd.R_drew)); exact HO_12.out) hg hat)
              have n6_ := Aside0.mk (hb)
              have n7_ := Aside0.mk (ho)
              clear HO_7
              clear HO_8
              clear HO_9
              clear HO_10
              clear HO_11
              clear HO_12
              clear HB
              clear HO430
              have HO_7 := n0_
              have HO_8 := n1_
              have HO_9 := n2_
              have HO_10 := n3_
              have HO_11 := n4_
              have HO_12 := n5_
              have HB := n6_
              have HO433 := n7_
              clear n0_ n1_ n2_ n3_ n4_ n5_ n6_ n7_
              clear ho hb hg hat
              obtain ⟨Ao58, co58, eo58⟩ := Kd.R_slice HO_9.out
              (first | subst eo58 | (injection eo58 with f1_ f2_ f3_; have f4_ := f1_.symm; have f5_ := f3_.symm; clear f1_ f2_ f3_; subst f4_; subst f5_))
              refine hK.out _ _ trivial (fun hHeld => ?_)
              clear hK K
              refine norm_ (a' := ?_) ?_ ?_
              rotate_left
              · show Act.put _ (some 98) _ = _
                simp only [Act.put, List.setIfInBounds_toArray, List.set_cons_zero, List.set_cons_succ, i64_w, i32_w]
                rfl
              refine one_ (i := 5) (N := some 100) #[true, true, true, true, true, true, false, false, false, false, false, false, false, false, false, false, false, false, false] rfl rfl (one_of HT_.out (by kernel_rfl)) (by decide) (fun K hK => ?_)
              refine Kd.R_append_rows_step (Kd.int .i64) (w0 := w) w.heap.size (by rfl) (.tmp 98) (.tmp 99) 22 3 (.int .i64 0) 8 rfl Try.underlying22 info3 rfl (by decide) (by omega) v432 y431 t405 _ _ _ (fun k_ => some k_ ≠ (.slice Ao56 t399.length co56 : Value).ownBlock ∧ some k_ ≠ (v403 : Value).ownBlock ∧ some k_ ≠ (.slice Ao58 t405.length co58 : Value).ownBlock ∧ some k_ ≠ (.slice Ao51 t406.length co51 : Value).ownBlock ∧ some k_ ≠ (v422 : Value).ownBlock ∧ some k_ ≠ (v424 : Value).ownBlock) (fun _ => False) rfl rfl ?aO ?aR (fun _ _ h => h) (fun _ h => h.elim) ?aF ?aB ?aS ?aL ?_
              (case aR => repeat (first | exact (Kd.R_reads' HO_9.out).2.2 | (with_reducible refine Kd.C_alloc ?_ _) | (with_reducible refine Kd.C_drewN ?_ _) | (with_reducible refine Kd.C_drew ?_)))
              (case aB => exact (by repeat (first | (with_reducible first | exact HB.out | apply below_alloc | apply pw_below_drewN | apply below_drew1) | exact HB.out)))
              (case aF => exact (fun k_ hk => ⟨Kd.fresh' (Kd.R_lt (by (with_reducible repeat (first | apply Kd.R_alloc | apply Kd.R_drewN | apply Kd.R_drew)); exact HO_7.out)) k_ hk, Kd.fresh' (Kd.R_lt (by (with_reducible repeat (first | apply Kd.R_alloc | apply Kd.R_drewN | apply Kd.R_drew)); exact HO_8.out)) k_ hk, Kd.fresh' (Kd.R_lt (by (with_reducible repeat (first | apply Kd.R_alloc | apply Kd.R_drewN | apply Kd.R_drew)); exact HO_9.out)) k_ hk, Kd.fresh' (Kd.R_lt (by (with_reducible repeat (first | apply Kd.R_alloc | apply Kd.R_drewN | apply Kd.R_drew)); exact HO_10.out)) k_ hk, Kd.fresh' (Kd.R_lt (by (with_reducible repeat (first | apply Kd.R_alloc | apply Kd.R_drewN | apply Kd.R_drew)); exact HO_11.out)) k_ hk, Kd.fresh' (Kd.R_lt (by (with_reducible repeat (first | apply Kd.R_alloc | apply Kd.R_drewN | apply Kd.R_drew)); exact HO_12.out)) k_ hk⟩))
              (case aO => exact (by (with_reducible repeat (first | apply Kd.R_alloc | apply Kd.R_drewN | apply Kd.R_drew)); exact HO433.out))
              (case aS => exact (below_size (by repeat (first | (with_reducible first | exact HB.out | apply below_alloc | apply pw_below_drewN | apply below_drew1) | exact HB.out))))
              (case aL => have := LMc43.out; omega)
              intro v435 w57 ho hb hg hat
              rw [← Ny434.out] at ho
              have n0_ := Aside0.mk (Kd.R_after (ok := (fun k_ => some k_ ≠ (v403 : Value).ownBlock ∧ some k_ ≠ (.slice Ao58 t405.length co58 : Value).ownBlock ∧ some k_ ≠ (.slice Ao51 t406.length co51 : Value).ownBlock ∧ some k_ ≠ (v422 : Value).ownBlock ∧ some k_ ≠ (v424 : Value).ownBlock)) (by (with_reducible repeat (first | apply Kd.R_alloc | apply Kd.R_drewN | apply Kd.R_drew)); exact HO_7.out) hg hat)
              have n1_ := Aside0.mk (Kd.R_after (ok := (fun k_ => some k_ ≠ (.slice Ao56 t399.length co56 : Value).ownBlock ∧ some k_ ≠ (.slice Ao58 t405.length co58 : Value).ownBlock ∧ some k_ ≠ (.slice Ao51 t406.length co51 : Value).ownBlock ∧ some k_ ≠ (v422 : Value).ownBlock ∧ some k_ ≠ (v424 : Value).ownBlock)) (by (with_reducible repeat (first | apply Kd.R_alloc | apply Kd.R_drewN | apply Kd.R_drew)); exact HO_8.out) hg hat)
              have n2_ := Aside0.mk (Kd.R_after (ok := (fun k_ => some k_ ≠ (.slice Ao56 t399.length co56 : Value).ownBlock ∧ some k_ ≠ (v403 : Value).ownBlock ∧ some k_ ≠ (.slice Ao51 t406.length co51 : Value).ownBlock ∧ some k_ ≠ (v422 : Value).ownBlock ∧ some k_ ≠ (v424 : Value).ownBlock)) (by (with_reducible repeat (first | apply Kd.R_alloc | apply Kd.R_drewN | apply Kd.R_drew)); exact HO_9.out) hg hat)
              have n3_ := Aside0.mk (Kd.R_after (ok := (fun k_ => some k_ ≠ (.slice Ao56 t399.length co56 : Value).ownBlock ∧ some k_ ≠ (v403 : Value).ownBlock ∧ some k_ ≠ (.slice Ao58 t405.length co58 : Value).ownBlock ∧ some k_ ≠ (v422 : Value).ownBlock ∧ some k_ ≠ (v424 : Value).ownBlock)) (by (with_reducible repeat (first | apply Kd.R_alloc | apply Kd.R_drewN | apply Kd.R_drew)); exact HO_10.out) hg hat)
              have n4_ := Aside0.mk (Kd.R_after (ok := (fun k_ => some k_ ≠ (.slice Ao56 t399.length co56 : Value).ownBlock ∧ some k_ ≠ (v403 : Value).ownBlock ∧ some k_ ≠ (.slice Ao58 t405.length co58 : Value).ownBlock ∧ some k_ ≠ (.slice Ao51 t406.length co51 : Value).ownBlock ∧ some k_ ≠ (v424 : Value).ownBlock)) (by (with_reducible repeat (first | apply Kd.R_alloc | apply Kd.R_drewN | apply Kd.R_drew)); exact HO_11.out) hg hat)
              have n5_ := Aside0.mk (Kd.R_after (ok := (fun k_ => some k_ ≠ (.slice Ao56 t399.length co56 : Value).ownBlock ∧ some k_ ≠ (v403 : Value).ownBlock ∧ some k_ ≠ (.slice Ao58 t405.length co58 : Value).ownBlock ∧ some k_ ≠ (.slice Ao51 t406.length co51 : Value).ownBlock ∧ some k_ ≠ (v422 : Value).ownBlock)) (by (with_reducible repeat (first | apply Kd.R_alloc | apply Kd.R_drewN | apply Kd.R_drew)); exact HO_12.out) hg hat)
              have n6_ := Aside0.mk (hb)
              have n7_ := Aside0.mk (ho)
              clear HO_7
              clear HO_8
              clear HO_9
              clear HO_10
              clear HO_11
              clear HO_12
              clear HB
              clear HO433
              have HO_7 := n0_
              have HO_8 := n1_
              have HO_9 := n2_
              have HO_10 := n3_
              have HO_11 := n4_
              have HO_12 := n5_
              have HB := n6_
              have HO436 := n7_
              clear n0_ n1_ n2_ n3_ n4_ n5_ n6_ n7_
              clear ho hb hg hat
              obtain ⟨Ao59, co59, eo59⟩ := Kd.R_slice HO_11.out
              (first | subst eo59 | (injection eo59 with f1_ f2_ f3_; have f4_ := f1_.symm; have f5_ := f3_.symm; clear f1_ f2_ f3_; subst f4_; subst f5_))
              obtain ⟨Ao60, co60, eo60⟩ := Kd.R_slice HO436.out
              (first | subst eo60 | (injection eo60 with f1_ f2_ f3_; have f4_ := f1_.symm; have f5_ := f3_.symm; clear f1_ f2_ f3_; subst f4_; subst f5_))
              refine hK.out _ _ trivial (fun hHeld => ?_)
              clear hK K
              refine norm_ (a' := ?_) ?_ ?_
              rotate_left
              · show Act.put _ (some 100) _ = _
                simp only [Act.put, List.setIfInBounds_toArray, List.set_cons_zero, List.set_cons_succ, i64_w, i32_w]
                rfl
              refine one_ (i := 6) (N := some 101) #[true, true, true, true, true, true, true, false, false, false, false, false, false, false, false, false, false, false, false] rfl rfl (one_of HT_.out (by kernel_rfl)) (by decide) (fun K hK => ?_)
              refine goes_ Try.func15 (by kernel_rfl) rfl #[.slice Ao59 t420.length co59, .slice Ao60 y434.length co60] (by rfl) rfl rfl (by (try simp only [List.map_toArray, List.map_cons, List.map_nil]); first | done | rfl | (simp only [List.length_drop, List.length_take]; rfl)) ?_
              with_reducible refine (ductusref01_Ints.calls k3 _ _ t420 _ _ y434 true _ ?side1 ?side2 ?side3 ?side4 A44.out).mono ?_
              (case side1 => repeat (first | exact (Kd.R_reads' HO_11.out).2.2 | (with_reducible refine Kd.C_alloc ?_ _) | (with_reducible refine Kd.C_drewN ?_ _) | (with_reducible refine Kd.C_drew ?_)))
              (case side2 => exact (Kd.R_reads' HO_11.out).2.1)
              (case side3 => repeat (first | exact (Kd.R_reads' HO436.out).2.2 | (with_reducible refine Kd.C_alloc ?_ _) | (with_reducible refine Kd.C_drewN ?_ _) | (with_reducible refine Kd.C_drew ?_)))
              (case side4 => exact (Kd.R_reads' HO436.out).2.1)
              rintro e w' ⟨rfl, ⟨nd, rfl⟩⟩
              refine ⟨_, rfl, ?_⟩
              obtain ⟨Ao62, co62, eo62⟩ := Kd.R_slice HO_12.out
              (first | subst eo62 | (injection eo62 with f1_ f2_ f3_; have f4_ := f1_.symm; have f5_ := f3_.symm; clear f1_ f2_ f3_; subst f4_; subst f5_))
              have q61 : ((t399.length : Int) : Int) ≤ ((t421.length : Int) : Int) := of_decide_eq_true (by first | (with_reducible assumption) | assumption)
              obtain ⟨i061, hi061, _, hsz61, _⟩ := info_parts info3
              have hroom61 : t421.length ≤ co62 := (Kd.R_reads' HO_12.out).2.1
              have hC61 : Kd.C (Kd.int .i64) _ Ao62 t421.length t421 := (Kd.R_reads' HO_12.out).2.2
              have hcut61 := cut_to (P := Try.prog) 22 3 .i64 Try.underlying22 hi061 Ao62 t421.length co62 (t399.length : Int) (of_decide_eq_true (by first | (with_reducible assumption) | assumption)) q61 hroom61
              have hr61 := Kd.C_take (m := ((t399.length : Int) : Int).toNat) hC61 (by omega)
              have hy61 : y438.length = ((t399.length : Int) : Int).toNat := (by rw [Ny438.out, List.length_take]; omega)
              rw [← Ny438.out] at hr61
              rw [← hy61] at hcut61
              have HR441 := Aside0.mk hr61
              have HC441 := Aside0.mk (show y438.length ≤ co62 from by omega)
              clear hr61 hC61 hroom61 hi061 hsz61
              have KY61 := Aside0.mk hy61
              clear hy61
              have KL61 := Aside0.mk (show ((t399.length : Int) : Int).toNat ≤ t421.length from by omega)
              replace q61 := eq_true q61
              obtain ⟨Ao64, co64, eo64⟩ := Kd.R_slice HO_8.out
              (first | subst eo64 | (injection eo64 with f1_ f2_ f3_; have f4_ := f1_.symm; have f5_ := f3_.symm; clear f1_ f2_ f3_; subst f4_; subst f5_))
              have q63 : ((t399.length : Int) : Int) ≤ ((t400.length : Int) : Int) := of_decide_eq_true (by first | (with_reducible assumption) | assumption)
              obtain ⟨i063, hi063, _, hsz63, _⟩ := info_parts info3
              have hroom63 : t400.length ≤ co64 := (Kd.R_reads' HO_8.out).2.1
              have hC63 : Kd.C (Kd.int .i64) _ Ao64 t400.length t400 := (Kd.R_reads' HO_8.out).2.2
              have hcut63 := cut_to (P := Try.prog) 22 3 .i64 Try.underlying22 hi063 Ao64 t400.length co64 (t399.length : Int) (of_decide_eq_true (by first | (with_reducible assumption) | assumption)) q63 hroom63
              have hr63 := Kd.C_take (m := ((t399.length : Int) : Int).toNat) hC63 (by omega)
              have hy63 : y442.length = ((t399.length : Int) : Int).toNat := (by rw [Ny442.out, List.length_take]; omega)
              rw [← Ny442.out] at hr63
              rw [← hy63] at hcut63
              have HR445 := Aside0.mk hr63
              have HC445 := Aside0.mk (show y442.length ≤ co64 from by omega)
              clear hr63 hC63 hroom63 hi063 hsz63
              have KY63 := Aside0.mk hy63
              clear hy63
              have KL63 := Aside0.mk (show ((t399.length : Int) : Int).toNat ≤ t400.length from by omega)
              replace q63 := eq_true q63
              refine hK.out _ _ trivial (fun hHeld => ?_)
              clear hK K
              refine norm_ (a' := ?_) ?_ ?_
              rotate_left
              · show Act.put _ (some 101) _ = _
                simp only [Act.put, List.setIfInBounds_toArray, List.set_cons_zero, List.set_cons_succ, i64_w, i32_w]
                rfl
              refine pure_ (i := 7) (N := some 102) (v := ?_) (a' := ?_) #[true, true, true, true, true, true, true, true, false, false, false, false, false, false, false, false, false, false, false] rfl rfl (any_of HT_.out (by kernel_rfl)) (fun _ _ _ h => h) (Or.inl ⟨by rfl, ?_⟩) ?_ ?_
              rotate_left
              · intro w'
                go_simp
                with_reducible rfl
              rotate_left
              · simp only [Act.put, List.setIfInBounds_toArray, List.set_cons_zero, List.set_cons_succ, i64_w, i32_w]
                rfl
              refine pure_ (i := 8) (N := some 103) (v := ?_) (a' := ?_) #[true, true, true, true, true, true, true, true, true, false, false, false, false, false, false, false, false, false, false] rfl rfl (any_of HT_.out (by kernel_rfl)) (fun _ _ _ h => h) (Or.inl ⟨by rfl, ?_⟩) ?_ ?_
              rotate_left
              · intro w'
                go_simp
                with_reducible rfl
              rotate_left
              · simp only [Act.put, List.setIfInBounds_toArray, List.set_cons_zero, List.set_cons_succ, i64_w, i32_w]
                rfl
              refine pure_ (i := 9) (N := some 104) (v := ?_) (a' := ?_) #[true, true, true, true, true, true, true, true, true, true, false, false, false, false, false, false, false, false, false] rfl rfl (any_of HT_.out (by kernel_rfl)) (fun _ _ _ h => h) (Or.inl ⟨by rfl, ?_⟩) ?_ ?_
              rotate_left
              · intro w'
                go_simp
                with_reducible rfl
              rotate_left
              · simp only [Act.put, List.setIfInBounds_toArray, List.set_cons_zero, List.set_cons_succ, i64_w, i32_w]
                rfl
              refine pure_ (i := 10) (N := some 105) (v := ?_) (a' := ?_) #[true, true, true, true, true, true, true, true, true, true, true, false, false, false, false, false, false, false, false] rfl rfl (any_of HT_.out (by kernel_rfl)) (fun _ _ _ h => h) (Or.inl ⟨by rfl, ?_⟩) ?_ ?_
              rotate_left
              · intro w'
                go_simp
                with_reducible rfl
              rotate_left
              · simp only [Act.put, List.setIfInBounds_toArray, List.set_cons_zero, List.set_cons_succ, i64_w, i32_w]
                rfl
              refine pure_ (i := 11) (N := some 106) (v := ?_) (a' := ?_) #[true, true, true, true, true, true, true, true, true, true, true, true, false, false, false, false, false, false, false] rfl rfl (any_of HT_.out (by kernel_rfl)) (fun _ _ _ h => h) (Or.inl ⟨by rfl, ?_⟩) ?_ ?_
              rotate_left
              · intro w'
                go_simp
                with_reducible rfl
              rotate_left
              · simp only [Act.put, List.setIfInBounds_toArray, List.set_cons_zero, List.set_cons_succ, i64_w, i32_w]
                rfl
              refine pure_ (i := 12) (N := some 107) (v := ?_) (a' := ?_) #[true, true, true, true, true, true, true, true, true, true, true, true, true, false, false, false, false, false, false] rfl rfl (any_of HT_.out (by kernel_rfl)) (fun _ _ _ h => h) (Or.inl ⟨by rfl, ?_⟩) ?_ ?_
              rotate_left
              · intro w'
                go_simp
                with_reducible rfl
              rotate_left
              · simp only [Act.put, List.setIfInBounds_toArray, List.set_cons_zero, List.set_cons_succ, i64_w, i32_w]
                rfl
              refine pure_ (i := 13) (N := some 108) (v := ?_) (a' := ?_) #[true, true, true, true, true, true, true, true, true, true, true, true, true, true, false, false, false, false, false] rfl rfl (any_of HT_.out (by kernel_rfl)) (fun _ _ _ h => h) (Or.inl ⟨by rfl, ?_⟩) ?_ ?_
              rotate_left
              · intro w'
                go_simp
                with_reducible rfl
              rotate_left
              · simp only [Act.put, List.setIfInBounds_toArray, List.set_cons_zero, List.set_cons_succ, i64_w, i32_w]
                rfl
              refine pure_ (i := 14) (N := some 109) (v := ?_) (a' := ?_) #[true, true, true, true, true, true, true, true, true, true, true, true, true, true, true, false, false, false, false] rfl rfl (any_of HT_.out (by kernel_rfl)) (fun _ _ _ h => h) (Or.inl ⟨by rfl, ?_⟩) ?_ ?_
              rotate_left
              · intro w'
                go_simp
                with_reducible rfl
              rotate_left
              · simp only [Act.put, List.setIfInBounds_toArray, List.set_cons_zero, List.set_cons_succ, i64_w, i32_w]
                rfl
              refine pure_ (i := 15) (N := some 110) (v := ?_) (a' := ?_) #[true, true, true, true, true, true, true, true, true, true, true, true, true, true, true, true, false, false, false] rfl rfl (any_of HT_.out (by kernel_rfl)) (fun _ _ _ h => h) (Or.inl ⟨by rfl, ?_⟩) ?_ ?_
              rotate_left
              · intro w'
                go_simp
                with_reducible rfl
              rotate_left
              · simp only [Act.put, List.setIfInBounds_toArray, List.set_cons_zero, List.set_cons_succ, i64_w, i32_w]
                rfl
              refine one_ (i := 16) (N := some 111) #[true, true, true, true, true, true, true, true, true, true, true, true, true, true, true, true, true, false, false] rfl rfl (one_of HT_.out (by kernel_rfl)) (by decide) (fun K hK => ?_)
              refine goes_ Try.func15 (by kernel_rfl) rfl #[.slice Ao62 y438.length co62, .slice Ao64 y442.length co64] (by rfl) rfl rfl (by (try simp only [List.map_toArray, List.map_cons, List.map_nil]); first | done | rfl | (simp only [List.length_drop, List.length_take]; rfl)) ?_
              with_reducible refine (ductusref01_Ints.calls k3 _ _ y438 _ _ y442 t446 _ ?side1 ?side2 ?side3 ?side4 A50.out).mono ?_
              (case side1 => repeat (first | exact (by repeat (first | (with_reducible exact HR441.out) | (with_reducible refine Kd.C_alloc ?_ _) | (with_reducible refine Kd.C_drewN ?_ _) | (with_reducible refine Kd.C_drew ?_) | exact HR441.out)) | (with_reducible refine Kd.C_alloc ?_ _) | (with_reducible refine Kd.C_drewN ?_ _) | (with_reducible refine Kd.C_drew ?_)))
              (case side2 => exact HC441.out)
              (case side3 => repeat (first | exact (by repeat (first | (with_reducible exact HR445.out) | (with_reducible refine Kd.C_alloc ?_ _) | (with_reducible refine Kd.C_drewN ?_ _) | (with_reducible refine Kd.C_drew ?_) | exact HR445.out)) | (with_reducible refine Kd.C_alloc ?_ _) | (with_reducible refine Kd.C_drewN ?_ _) | (with_reducible refine Kd.C_drew ?_)))
              (case side4 => exact HC445.out)
              rintro e w' ⟨rfl, ⟨nd, rfl⟩⟩
              refine ⟨_, rfl, ?_⟩
              refine hK.out _ _ trivial (fun hHeld => ?_)
              clear hK K
              refine norm_ (a' := ?_) ?_ ?_
              rotate_left
              · show Act.put _ (some 111) _ = _
                simp only [Act.put, List.setIfInBounds_toArray, List.set_cons_zero, List.set_cons_succ, i64_w, i32_w]
                rfl
              refine pure_ (i := 17) (N := some 112) (v := ?_) (a' := ?_) #[true, true, true, true, true, true, true, true, true, true, true, true, true, true, true, true, true, true, false] rfl rfl (any_of HT_.out (by kernel_rfl)) (fun _ _ _ h => h) (Or.inl ⟨by rfl, ?_⟩) ?_ ?_
              rotate_left
              · intro w'
                go_simp
                with_reducible rfl
              rotate_left
              · simp only [Act.put, List.setIfInBounds_toArray, List.set_cons_zero, List.set_cons_succ, i64_w, i32_w]
                rfl
              refine pure_ (i := 18) (N := some 6) (v := ?_) (a' := ?_) #[true, true, true, true, true, true, true, true, true, true, true, true, true, true, true, true, true, true, true] rfl rfl (any_of HT_.out (by kernel_rfl)) (fun _ _ _ h => h) (Or.inl ⟨by rfl, ?_⟩) ?_ ?_
              rotate_left
              · intro w'
                go_simp
                with_reducible rfl
              rotate_left
              · simp only [Act.put, List.setIfInBounds_toArray, List.set_cons_zero, List.set_cons_succ, i64_w, i32_w]
                rfl
              refine done_ (done_of HT_.out (by kernel_rfl)) ?_
              try go_wp2
              go_ret
              exact ⟨by first | rfl | (simp [errW_none, errW_some] <;> rfl) | (simp [*, errW_none, errW_some] <;> rfl), by repeat (first | (with_reducible first | exact HB.out | apply below_alloc | apply pw_below_drewN | apply below_drew1) | exact HB.out)⟩

/-- THE ONE PURE STATEMENT of ductuslaw23_NormJoins: yours. -/
def ductuslaw23_NormJoins.Pure : Prop := ∀ (l0 : List Int) (l1 : List Int) (a2 : Int), l0.length ≤ maxLen → l0.length * 8 ≤ 140737488351232 → (∀ x ∈ l0, (Lit.int .i64 x).wf = true) → l1.length ≤ maxLen → l1.length * 8 ≤ 140737488351232 → (∀ x ∈ l1, (Lit.int .i64 x).wf = true) → (Lit.int .u8 a2).wf = true → ∃ k, ductuslaw23_NormJoins.f k l0 l1 a2 = some true
theorem ductuslaw23_NormJoins.walk (P : ductuslaw23_NormJoins.Pure) (a0 : Option Addr) (len0 cap0 : Nat) (z0 : List Int) (a1 : Option Addr) (len1 cap1 : Nat) (z1 : List Int) (a2 : Int) (w : World) (w0 : (a0 = none ∧ len0 = 0 ∧ cap0 = 0 ∧ z0 = []) ∨ ∃ x, a0 = some x ∧ len0 ≤ cap0 ∧ cap0 ≤ maxLen ∧ z0.length = cap0 ∧ (∀ i, i < z0.length → w.cell? (x.add i) = some (.int .i64 (z0.getD i 0))) ∧ ∀ n ∈ z0, (Lit.int .i64 n).wf = true) (y0 : len0 * 8 ≤ 140737488351232) (w1 : (a1 = none ∧ len1 = 0 ∧ cap1 = 0 ∧ z1 = []) ∨ ∃ x, a1 = some x ∧ len1 ≤ cap1 ∧ cap1 ≤ maxLen ∧ z1.length = cap1 ∧ (∀ i, i < z1.length → w.cell? (x.add i) = some (.int .i64 (z1.getD i 0))) ∧ ∀ n ∈ z1, (Lit.int .i64 n).wf = true) (y1 : len1 * 8 ≤ 140737488351232) (w2 : (Lit.int .u8 a2).wf = true) :
    Calls Try.prog 6 #[.slice a0 len0 cap0, .slice a1 len1 cap1, .int .u8 a2] w fun e w' => e = .returned (.bool true) ∧ Below w.heap.size w w' := by
  obtain ⟨l0, rfl, hr0, hm0, hw0, hc0⟩ := ReadsInt.ofRowC w0
  obtain ⟨l1, rfl, hr1, hm1, hw1, hc1⟩ := ReadsInt.ofRowC w1
  obtain ⟨k, h⟩ := P l0 l1 a2 hm0 y0 hw0 hm1 y1 hw1 w2
  refine (ductuslaw23_NormJoins.calls k _ _ l0 _ _ l1 a2 true w (Kd.C_of_reads (d := (0 : Int)) (h1 := fun _ => rfl) hr0) hc0 (Kd.C_of_reads (d := (0 : Int)) (h1 := fun _ => rfl) hr1) hc1 h).mono ?_
  rintro e w' ⟨rfl, hd⟩
  exact ⟨rfl, hd⟩

end Go.Proofs.Ytmgagebjdldenaa.P
