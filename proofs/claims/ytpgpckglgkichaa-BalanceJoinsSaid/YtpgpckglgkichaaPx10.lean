/- Printed by a program of this claim's own over the translation: Lean functions of the Go functions, each with its proof; no condition beyond those written. -/
import Derived.Test.YtpgpckglgkichaaPx0
import Derived.Test.YtpgpckglgkichaaPx3
import Derived.Test.YtpgpckglgkichaaPx7
import Derived.Test.YtpgpckglgkichaaSBal
import Derived.Test.YtpgpckglgkichaaSClose
import Derived.Test.YtpgpckglgkichaaSOf
namespace Go.Proofs.Ytpgpckglgkichaa.P
open Go.RowKit Go.Proofs.YtpgpckglgkichaaW.PrintWords Go.Proofs.YtpgpckglgkichaaW.PrintLast Go.Proofs.YtpgpckglgkichaaW.PrintMore
attribute [local go_sem] max2_int min2_int max_two min_two max_three min_three max_four min_four   -- for this text's walks alone
set_option linter.unusedVariables false
set_option linter.unusedSimpArgs false

/-! ### ductuslaw26_BalanceJoins: function 4 -/
mutual
def ductuslaw26_BalanceJoins.j0 : Nat → List Int → List Int → Int → Bool → Option (Bool)
  | 0, _, _, _, _ => none
  | k + 1, x0, x1, x2, x23 => if x23 = true then (some true) else ((balance_Close.f x0).bind fun t248 => ((balance_Close.f x1).bind fun t251 => ((some (([] : List Int) : List Int)).bind fun y254 => (if y254.length + t248.length < 17592186044416 then ((some (y254 ++ t248 : List Int)).bind fun y257 => (if y257.length + t251.length < 17592186044416 then ((some (y257 ++ t251 : List Int)).bind fun y260 => ((balance_Right.f t248).bind fun t263 => (if t263 = true then ((balance_Right.f y260).bind fun t264 => (if t264 = true then ((balance_Depth.f y260).bind fun t265 => ((balance_Depth.f t248).bind fun t266 => ((balance_Depth.f t251).bind fun t267 => (ductuslaw26_BalanceJoins.j1 k x2 t248 t251 (t265 != (mx t266 t267)))))) else (none))) else (none)))) else (none))) else (none)))))
def ductuslaw26_BalanceJoins.j1 : Nat → Int → List Int → List Int → Bool → Option (Bool)
  | 0, _, _, _, _ => none
  | k + 1, x2, x7, x8, x50 => if x50 = true then (none) else (ductuslaw26_BalanceJoins.l0 k x2 x7 x8 0)
def ductuslaw26_BalanceJoins.l0 : Nat → Int → List Int → List Int → Int → Option (Bool)
  | 0, _, _, _, _ => none
  | k + 1, x2, x7, x8, x10 => if x10 < (x8.length : Int) then (if 0 ≤ x10 then ((ductusref02_Of.f (rd x8 x10)).bind fun t269 => (if t269 = 10 then (some true) else (ductuslaw26_BalanceJoins.l0 k x2 x7 x8 (wrap64 (x10 + 1))))) else (none)) else (if (Int.tmod x2 2) = 1 then (ductuslaw26_BalanceJoins.j3 k x7 x8 8296 8297) else (ductuslaw26_BalanceJoins.j3 k x7 x8 8234 8236))
def ductuslaw26_BalanceJoins.j3 : Nat → List Int → List Int → Int → Int → Option (Bool)
  | 0, _, _, _, _ => none
  | k + 1, x7, x8, x11, x12 => (some (([] : List Int) : List Int)).bind fun y270 => (if y270.length + x7.length < 17592186044416 then ((some (y270 ++ x7 : List Int)).bind fun y273 => (if y273.length < 17592186044416 then ((some (y273 ++ [x11] : List Int)).bind fun y276 => ((some (([] : List Int) : List Int)).bind fun y279 => (if y279.length + x8.length < 17592186044416 then ((some (y279 ++ x8 : List Int)).bind fun y282 => (if y282.length < 17592186044416 then ((some (y282 ++ [x12] : List Int)).bind fun y285 => (if y276.length + y285.length < 17592186044416 then ((some (y276 ++ y285 : List Int)).bind fun y288 => ((balance_Right.f y288).bind fun t291 => (if t291 = true then ((balance_Depth.f y288).bind fun t292 => ((balance_Depth.f x7).bind fun t293 => ((balance_Depth.f x8).bind fun t294 => (if t292 = (mx t293 (wrap64 (1 + t294))) then (if 0 ≤ (wrap64 ((y288.length : Int) - 1)) then (if (wrap64 ((y288.length : Int) - 1)) ≤ (y288.length : Int) then ((balance_Wrong.f (y288.take ((wrap64 ((y288.length : Int) - 1)) : Int).toNat)).bind fun t299 => (some (t299 == (wrap64 ((y288.length : Int) - 1))))) else (none)) else (none)) else (none))))) else (none)))) else (none))) else (none))) else (none)))) else (none))) else (none))
end
def ductuslaw26_BalanceJoins.f (k : Nat) (l0 : List Int) (l1 : List Int) (a2 : Int) : Option (Bool) := (ductuslaw26_alive.f k).bind fun t247 => (if t247 = true then (if (l0.length : Int) > 500 then (ductuslaw26_BalanceJoins.j0 k l0 l1 a2 true) else (ductuslaw26_BalanceJoins.j0 k l0 l1 a2 (decide ((l1.length : Int) > 500)))) else (none))
theorem ductuslaw26_BalanceJoins.mono_l : ∀ k, (∀ y0 y1 y2 y3, LeO (ductuslaw26_BalanceJoins.j0 k y0 y1 y2 y3) (ductuslaw26_BalanceJoins.j0 (k + 1) y0 y1 y2 y3)) ∧ (∀ y0 y1 y2 y3, LeO (ductuslaw26_BalanceJoins.j1 k y0 y1 y2 y3) (ductuslaw26_BalanceJoins.j1 (k + 1) y0 y1 y2 y3)) ∧ (∀ y0 y1 y2 y3, LeO (ductuslaw26_BalanceJoins.l0 k y0 y1 y2 y3) (ductuslaw26_BalanceJoins.l0 (k + 1) y0 y1 y2 y3)) ∧ (∀ y0 y1 y2 y3, LeO (ductuslaw26_BalanceJoins.j3 k y0 y1 y2 y3) (ductuslaw26_BalanceJoins.j3 (k + 1) y0 y1 y2 y3))
  | 0 => ⟨fun _ _ _ _ r h => by simp [ductuslaw26_BalanceJoins.j0] at h, fun _ _ _ _ r h => by simp [ductuslaw26_BalanceJoins.j1] at h, fun _ _ _ _ r h => by simp [ductuslaw26_BalanceJoins.l0] at h, fun _ _ _ _ r h => by simp [ductuslaw26_BalanceJoins.j3] at h⟩
  | k + 1 => by
    obtain ⟨ih0, ih1, ih2, ih3⟩ := ductuslaw26_BalanceJoins.mono_l k
    refine ⟨?_, ?_, ?_, ?_⟩
    · intro y0 y1 y2 y3
      unfold ductuslaw26_BalanceJoins.j0
      repeat' first
      | (with_reducible exact ih0 _ _ _ _)
      | (with_reducible exact ih1 _ _ _ _)
      | (with_reducible exact ih2 _ _ _ _)
      | (with_reducible exact ih3 _ _ _ _)
      | (with_reducible exact ductuslaw26_alive.mono _)
      | (with_reducible exact LeO.refl _)
      | (with_reducible exact LeO.none _)
      | (with_reducible refine LeO.ite ?_ ?_)
      | (with_reducible refine LeO.bind ?_ (fun _ => ?_))
      | exact ih0 _ _ _ _
      | exact ih1 _ _ _ _
      | exact ih2 _ _ _ _
      | exact ih3 _ _ _ _
      | exact ductuslaw26_alive.mono _
      | exact LeO.none _
      | refine LeO.ite ?_ ?_
      | refine LeO.bind ?_ (fun _ => ?_)
    · intro y0 y1 y2 y3
      unfold ductuslaw26_BalanceJoins.j1
      repeat' first
      | (with_reducible exact ih0 _ _ _ _)
      | (with_reducible exact ih1 _ _ _ _)
      | (with_reducible exact ih2 _ _ _ _)
      | (with_reducible exact ih3 _ _ _ _)
      | (with_reducible exact ductuslaw26_alive.mono _)
      | (with_reducible exact LeO.refl _)
      | (with_reducible exact LeO.none _)
      | (with_reducible refine LeO.ite ?_ ?_)
      | (with_reducible refine LeO.bind ?_ (fun _ => ?_))
      | exact ih0 _ _ _ _
      | exact ih1 _ _ _ _
      | exact ih2 _ _ _ _
      | exact ih3 _ _ _ _
      | exact ductuslaw26_alive.mono _
      | exact LeO.none _
      | refine LeO.ite ?_ ?_
      | refine LeO.bind ?_ (fun _ => ?_)
    · intro y0 y1 y2 y3
      unfold ductuslaw26_BalanceJoins.l0
      repeat' first
      | (with_reducible exact ih0 _ _ _ _)
      | (with_reducible exact ih1 _ _ _ _)
      | (with_reducible exact ih2 _ _ _ _)
      | (with_reducible exact ih3 _ _ _ _)
      | (with_reducible exact ductuslaw26_alive.mono _)
      | (with_reducible exact LeO.refl _)
      | (with_reducible exact LeO.none _)
      | (with_reducible refine LeO.ite ?_ ?_)
      | (with_reducible refine LeO.bind ?_ (fun _ => ?_))
      | exact ih0 _ _ _ _
      | exact ih1 _ _ _ _
      | exact ih2 _ _ _ _
      | exact ih3 _ _ _ _
      | exact ductuslaw26_alive.mono _
      | exact LeO.none _
      | refine LeO.ite ?_ ?_
      | refine LeO.bind ?_ (fun _ => ?_)
    · intro y0 y1 y2 y3
      unfold ductuslaw26_BalanceJoins.j3
      repeat' first
      | (with_reducible exact ih0 _ _ _ _)
      | (with_reducible exact ih1 _ _ _ _)
      | (with_reducible exact ih2 _ _ _ _)
      | (with_reducible exact ih3 _ _ _ _)
      | (with_reducible exact ductuslaw26_alive.mono _)
      | (with_reducible exact LeO.refl _)
      | (with_reducible exact LeO.none _)
      | (with_reducible refine LeO.ite ?_ ?_)
      | (with_reducible refine LeO.bind ?_ (fun _ => ?_))
      | exact ih0 _ _ _ _
      | exact ih1 _ _ _ _
      | exact ih2 _ _ _ _
      | exact ih3 _ _ _ _
      | exact ductuslaw26_alive.mono _
      | exact LeO.none _
      | refine LeO.ite ?_ ?_
      | refine LeO.bind ?_ (fun _ => ?_)
theorem ductuslaw26_BalanceJoins.mono : ∀ a0 a1 a2 k, LeO (ductuslaw26_BalanceJoins.f k a0 a1 a2) (ductuslaw26_BalanceJoins.f (k + 1) a0 a1 a2) := by
  intro a0 a1 a2 k
  obtain ⟨ih0, ih1, ih2, ih3⟩ := ductuslaw26_BalanceJoins.mono_l k
  unfold ductuslaw26_BalanceJoins.f
  repeat' first
      | (with_reducible exact ih0 _ _ _ _)
      | (with_reducible exact ih1 _ _ _ _)
      | (with_reducible exact ih2 _ _ _ _)
      | (with_reducible exact ih3 _ _ _ _)
      | (with_reducible exact ductuslaw26_alive.mono _)
      | (with_reducible exact LeO.refl _)
      | (with_reducible exact LeO.none _)
      | (with_reducible refine LeO.ite ?_ ?_)
      | (with_reducible refine LeO.bind ?_ (fun _ => ?_))
      | exact ih0 _ _ _ _
      | exact ih1 _ _ _ _
      | exact ih2 _ _ _ _
      | exact ih3 _ _ _ _
      | exact ductuslaw26_alive.mono _
      | exact LeO.none _
      | refine LeO.ite ?_ ?_
      | refine LeO.bind ?_ (fun _ => ?_)
set_option maxHeartbeats 8000000 in
set_option maxRecDepth 100000 in
theorem ductuslaw26_BalanceJoins.calls (k : Nat) (A0 : Option Addr) (c0 : Nat) (l0 : List Int) (A1 : Option Addr) (c1 : Nat) (l1 : List Int) (a2 : Int) (r : Bool) (w : World) (hr0 : Kd.C (Kd.int .i64) w A0 l0.length l0) (hc0 : l0.length ≤ c0) (hr1 : Kd.C (Kd.int .i64) w A1 l1.length l1) (hc1 : l1.length ≤ c1) (h : ductuslaw26_BalanceJoins.f k l0 l1 a2 = some r) :
    Calls Try.prog 4 #[.slice A0 l0.length c0, .slice A1 l1.length c1, .int .u8 a2] w fun e w' => e = .returned (.bool r) ∧ Below w.heap.size w w' := by
  have HR0 := Aside0.mk hr0
  have HC0 := Aside0.mk hc0
  clear hr0 hc0
  have HR1 := Aside0.mk hr1
  have HC1 := Aside0.mk hc1
  clear hr1 hc1
  have HB := Aside0.mk (Below.refl w.heap.size w)
  have H : ((ductuslaw26_alive.f k).bind fun t247 => (if t247 = true then (if (l0.length : Int) > 500 then (ductuslaw26_BalanceJoins.j0 k l0 l1 a2 true) else (ductuslaw26_BalanceJoins.j0 k l0 l1 a2 (decide ((l1.length : Int) > 500)))) else (none))) = some r := h
  clear h
  replace H := Option.bind_eq_some_iff.mp H
  obtain ⟨t247, A40, H⟩ := H
  replace H : (if t247 = true then (if (l0.length : Int) > 500 then (ductuslaw26_BalanceJoins.j0 k l0 l1 a2 true) else (ductuslaw26_BalanceJoins.j0 k l0 l1 a2 (decide ((l1.length : Int) > 500)))) else (none)) = some r := H
  have A4 := Aside0.mk A40
  clear A40
  by_cases c5 : t247 = true
  rotate_left
  · replace c5 := Bool.eq_false_iff.mpr c5
    subst c5
    have H1 : (none) = some r := by rw [if_neg (show ¬ (false = true) by decide)] at H; exact H
    clear H
    have H := H1
    clear H1
    exact absurd H (by simp)
  subst c5
  have H1 : (if (l0.length : Int) > 500 then (ductuslaw26_BalanceJoins.j0 k l0 l1 a2 true) else (ductuslaw26_BalanceJoins.j0 k l0 l1 a2 (decide ((l1.length : Int) > 500)))) = some r := by rw [if_pos rfl] at H; exact H
  clear H
  have H := H1
  clear H1
  have HC6 := Aside0.mk H
  clear H
  go_enter Try.func4, Try.ntmps4
  go_upto_region 3 with (first | ((with_reducible refine gate_callee (f := 8) rfl ?_); refine goesL_ (some 14) rfl rfl Try.func8 (by kernel_rfl) rfl #[] rfl (by (try simp only [List.map_toArray, List.map_cons, List.map_nil]); first | done | rfl | (simp only [List.length_drop, List.length_take]; rfl)) ?_; (with_reducible refine (ductuslaw26_alive.calls k  true _ A4.out).mono ?_); rintro e w7 ⟨rfl, hb⟩; refine ⟨_, rfl, ?_⟩; have n0_ := Aside0.mk (below_step (by repeat (first | (with_reducible first | exact HB.out | apply below_alloc | apply pw_below_drewN | apply below_drew1) | exact HB.out)) hb); clear HB; have HB := n0_; clear n0_; (try clear hb); (try clear hb2); (try clear hk); (try clear hi)))
  (try simp only [Act.put, List.setIfInBounds_toArray, List.set_cons_zero, List.set_cons_succ])
  go_cut [23] (fun v23 wc => ∃ (kq : Nat) (x23_5 : Bool), v23 = .bool x23_5 ∧ Aside0 (ductuslaw26_BalanceJoins.j0 kq l0 l1 a2 x23_5 = some r) ∧ Aside0 (kq ≤ k) ∧ Aside0 (Below w.heap.size w wc))
  case first =>
    have H := HC6.out
    clear HC6
    by_cases c8 : (l0.length : Int) > 500
    · rw [if_pos c8] at H
      have c8b0 : decide (500 < (l0.length : Int)) = true := decide_eq_true c8
      have c8b1 : decide (500 < l0.length) = true := decide_eq_true (by omega)
      clear c8
      (first | rw [c8b0] | (simp only [i64_w, i32_w]; rw [c8b0]) | skip)
      have H' := Aside0.mk H
      clear H
      go_wp2
      go_meet
      case rel => exact ⟨_, (true), (by first | rfl | (simp; done) | (simp [*]; done)), H', ⟨by first | omega | exact Nat.le_refl _⟩, ⟨by repeat (first | (with_reducible first | exact HB.out | apply below_alloc | apply pw_below_drewN | apply below_drew1) | exact HB.out)⟩⟩
    rw [if_neg c8] at H
    have c8b0 : decide (500 < (l0.length : Int)) = false := decide_eq_false c8
    have c8b1 : decide (500 < l0.length) = false := decide_eq_false (by omega)
    clear c8
    (first | rw [c8b0] | (simp only [i64_w, i32_w]; rw [c8b0]) | skip)
    have H' := Aside0.mk H
    clear H
    go_wp2
    go_meet
    case rel => exact ⟨_, (decide ((l1.length : Int) > 500)), (by first | rfl | (simp; done) | (simp [*]; done)), H', ⟨by first | omega | exact Nat.le_refl _⟩, ⟨by repeat (first | (with_reducible first | exact HB.out | apply below_alloc | apply pw_below_drewN | apply below_drew1) | exact HB.out)⟩⟩
  case rest =>
    clear HC6
    try clear c1
    try clear p2
    try clear c4
    try clear c5
    try clear c8
    try clear c8b0
    try clear c8b1
    obtain ⟨kq, x23_5, rfl, HA, HJ5, HB⟩ := hcut
    cases kq with
    | zero => exact absurd HA.out (by simp [ductuslaw26_BalanceJoins.j0])
    | succ kj5 =>
      have H := HA.out
      clear HA
      simp only [ductuslaw26_BalanceJoins.j0] at H
      by_cases c9 : x23_5 = true
      · subst c9
        have H1 : (some true) = some r := by rw [if_pos rfl] at H; exact H
        clear H
        have H := H1
        clear H1
        obtain rfl := Option.some.inj H
        go_wp2
        go_ret
        exact ⟨by first | rfl | (simp [errW_none, errW_some] <;> rfl) | (simp [*, errW_none, errW_some] <;> rfl), by repeat (first | (with_reducible first | exact HB.out | apply below_alloc | apply pw_below_drewN | apply below_drew1) | exact HB.out)⟩
      replace c9 := Bool.eq_false_iff.mpr c9
      subst c9
      have H1 : ((balance_Close.f l0).bind fun t248 => ((balance_Close.f l1).bind fun t251 => ((some (([] : List Int) : List Int)).bind fun y254 => (if y254.length + t248.length < 17592186044416 then ((some (y254 ++ t248 : List Int)).bind fun y257 => (if y257.length + t251.length < 17592186044416 then ((some (y257 ++ t251 : List Int)).bind fun y260 => ((balance_Right.f t248).bind fun t263 => (if t263 = true then ((balance_Right.f y260).bind fun t264 => (if t264 = true then ((balance_Depth.f y260).bind fun t265 => ((balance_Depth.f t248).bind fun t266 => ((balance_Depth.f t251).bind fun t267 => (ductuslaw26_BalanceJoins.j1 kj5 a2 t248 t251 (t265 != (mx t266 t267)))))) else (none))) else (none)))) else (none))) else (none))))) = some r := by rw [if_neg (show ¬ (false = true) by decide)] at H; exact H
      clear H
      have H := H1
      clear H1
      replace H := Option.bind_eq_some_iff.mp H
      obtain ⟨t248, A100, H⟩ := H
      replace H : ((balance_Close.f l1).bind fun t251 => ((some (([] : List Int) : List Int)).bind fun y254 => (if y254.length + t248.length < 17592186044416 then ((some (y254 ++ t248 : List Int)).bind fun y257 => (if y257.length + t251.length < 17592186044416 then ((some (y257 ++ t251 : List Int)).bind fun y260 => ((balance_Right.f t248).bind fun t263 => (if t263 = true then ((balance_Right.f y260).bind fun t264 => (if t264 = true then ((balance_Depth.f y260).bind fun t265 => ((balance_Depth.f t248).bind fun t266 => ((balance_Depth.f t251).bind fun t267 => (ductuslaw26_BalanceJoins.j1 kj5 a2 t248 t251 (t265 != (mx t266 t267)))))) else (none))) else (none)))) else (none))) else (none)))) = some r := H
      have A10 := Aside0.mk A100
      clear A100
      replace H := Option.bind_eq_some_iff.mp H
      obtain ⟨t251, A110, H⟩ := H
      replace H : ((some (([] : List Int) : List Int)).bind fun y254 => (if y254.length + t248.length < 17592186044416 then ((some (y254 ++ t248 : List Int)).bind fun y257 => (if y257.length + t251.length < 17592186044416 then ((some (y257 ++ t251 : List Int)).bind fun y260 => ((balance_Right.f t248).bind fun t263 => (if t263 = true then ((balance_Right.f y260).bind fun t264 => (if t264 = true then ((balance_Depth.f y260).bind fun t265 => ((balance_Depth.f t248).bind fun t266 => ((balance_Depth.f t251).bind fun t267 => (ductuslaw26_BalanceJoins.j1 kj5 a2 t248 t251 (t265 != (mx t266 t267)))))) else (none))) else (none)))) else (none))) else (none))) = some r := H
      have A11 := Aside0.mk A110
      clear A110
      obtain ⟨y254, hy254⟩ : ∃ y_ : List Int, y_ = (([] : List Int)) := ⟨_, rfl⟩
      replace H : (if y254.length + t248.length < 17592186044416 then ((some (y254 ++ t248 : List Int)).bind fun y257 => (if y257.length + t251.length < 17592186044416 then ((some (y257 ++ t251 : List Int)).bind fun y260 => ((balance_Right.f t248).bind fun t263 => (if t263 = true then ((balance_Right.f y260).bind fun t264 => (if t264 = true then ((balance_Depth.f y260).bind fun t265 => ((balance_Depth.f t248).bind fun t266 => ((balance_Depth.f t251).bind fun t267 => (ductuslaw26_BalanceJoins.j1 kj5 a2 t248 t251 (t265 != (mx t266 t267)))))) else (none))) else (none)))) else (none))) else (none)) = some r := by first | (rw [hy254]; with_reducible exact H) | (have H2_ := (Option.bind_some _ _).symm.trans H; rw [hy254]; with_reducible exact H2_) | (have H2_ := (Option.bind_some _ _).symm.trans H; with_reducible exact H2_) | with_reducible exact H | (rw [hy254]; exact H) | exact H
      have Ny254 := Aside0.mk hy254
      clear hy254
      by_cases c12 : y254.length + t248.length < 17592186044416
      rotate_left
      · rw [if_neg c12] at H
        exact absurd H (by simp)
      rw [if_pos c12] at H
      have LMc12 := Aside0.mk c12
      clear c12
      obtain ⟨y257, hy257⟩ : ∃ y_ : List Int, y_ = (y254 ++ t248) := ⟨_, rfl⟩
      replace H : (if y257.length + t251.length < 17592186044416 then ((some (y257 ++ t251 : List Int)).bind fun y260 => ((balance_Right.f t248).bind fun t263 => (if t263 = true then ((balance_Right.f y260).bind fun t264 => (if t264 = true then ((balance_Depth.f y260).bind fun t265 => ((balance_Depth.f t248).bind fun t266 => ((balance_Depth.f t251).bind fun t267 => (ductuslaw26_BalanceJoins.j1 kj5 a2 t248 t251 (t265 != (mx t266 t267)))))) else (none))) else (none)))) else (none)) = some r := by first | (rw [hy257]; with_reducible exact H) | (have H2_ := (Option.bind_some _ _).symm.trans H; rw [hy257]; with_reducible exact H2_) | (have H2_ := (Option.bind_some _ _).symm.trans H; with_reducible exact H2_) | with_reducible exact H | (rw [hy257]; exact H) | exact H
      have Ny257 := Aside0.mk hy257
      clear hy257
      by_cases c13 : y257.length + t251.length < 17592186044416
      rotate_left
      · rw [if_neg c13] at H
        exact absurd H (by simp)
      rw [if_pos c13] at H
      have LMc13 := Aside0.mk c13
      clear c13
      obtain ⟨y260, hy260⟩ : ∃ y_ : List Int, y_ = (y257 ++ t251) := ⟨_, rfl⟩
      replace H : ((balance_Right.f t248).bind fun t263 => (if t263 = true then ((balance_Right.f y260).bind fun t264 => (if t264 = true then ((balance_Depth.f y260).bind fun t265 => ((balance_Depth.f t248).bind fun t266 => ((balance_Depth.f t251).bind fun t267 => (ductuslaw26_BalanceJoins.j1 kj5 a2 t248 t251 (t265 != (mx t266 t267)))))) else (none))) else (none))) = some r := by first | (rw [hy260]; with_reducible exact H) | (have H2_ := (Option.bind_some _ _).symm.trans H; rw [hy260]; with_reducible exact H2_) | (have H2_ := (Option.bind_some _ _).symm.trans H; with_reducible exact H2_) | with_reducible exact H | (rw [hy260]; exact H) | exact H
      have Ny260 := Aside0.mk hy260
      clear hy260
      have HC14 := Aside0.mk H
      clear H
      go_upto_region 7 with (first | ((with_reducible refine gate_callee (f := 18) rfl ?_); refine goesL_ (some 25) rfl rfl Try.func18 (by kernel_rfl) rfl #[.slice A0 l0.length c0] rfl (by (try simp only [List.map_toArray, List.map_cons, List.map_nil]); first | done | rfl | (simp only [List.length_drop, List.length_take]; rfl)) ?_; (with_reducible refine (balance_Close.calls _ _ l0 t248 _ ?side1 ?side2 A10.out).mono ?_); (case side1 => repeat (first | exact (Kd.C_below HR0.out HB.out) | (with_reducible refine Kd.C_alloc ?_ _) | (with_reducible refine Kd.C_drewN ?_ _) | (with_reducible refine Kd.C_drew ?_))); (case side2 => exact HC0.out); rintro e w15 ⟨v249, rfl, ho0, hb⟩; refine ⟨_, rfl, ?_⟩; have n0_ := Aside0.mk (Kd.R_lower ho0 (below_size (by repeat (first | (with_reducible first | exact HB.out | apply below_alloc | apply pw_below_drewN | apply below_drew1) | exact HB.out)))); have n1_ := Aside0.mk (below_step (by repeat (first | (with_reducible first | exact HB.out | apply below_alloc | apply pw_below_drewN | apply below_drew1) | exact HB.out)) hb); clear HB; have HO250 := n0_; have HB := n1_; clear n0_ n1_; (try clear hb); (try clear hb2); (try clear hk); (try clear hi); (try clear ho0)) | ((with_reducible refine gate_callee (f := 18) rfl ?_); refine goesL_ (some 27) rfl rfl Try.func18 (by kernel_rfl) rfl #[.slice A1 l1.length c1] rfl (by (try simp only [List.map_toArray, List.map_cons, List.map_nil]); first | done | rfl | (simp only [List.length_drop, List.length_take]; rfl)) ?_; (with_reducible refine (balance_Close.calls _ _ l1 t251 _ ?side1 ?side2 A11.out).mono ?_); (case side1 => repeat (first | exact (Kd.C_below HR1.out HB.out) | (with_reducible refine Kd.C_alloc ?_ _) | (with_reducible refine Kd.C_drewN ?_ _) | (with_reducible refine Kd.C_drew ?_))); (case side2 => exact HC1.out); rintro e w16 ⟨v252, rfl, ho0, hb⟩; refine ⟨_, rfl, ?_⟩; have n0_ := Aside0.mk (Kd.R_elder' (by (with_reducible repeat (first | apply Kd.R_alloc | apply Kd.R_drewN | apply Kd.R_drew)); exact HO250.out) (Kd.R_base ho0) hb); have n1_ := Aside0.mk (Kd.R_lower (Kd.R_new' ho0 (Kd.R_lt (by (with_reducible repeat (first | apply Kd.R_alloc | apply Kd.R_drewN | apply Kd.R_drew)); exact HO250.out))) (below_size (by repeat (first | (with_reducible first | exact HB.out | apply below_alloc | apply pw_below_drewN | apply below_drew1) | exact HB.out)))); have n2_ := Aside0.mk (below_step (by repeat (first | (with_reducible first | exact HB.out | apply below_alloc | apply pw_below_drewN | apply below_drew1) | exact HB.out)) hb); clear HO250; clear HB; have HO250 := n0_; have HO253 := n1_; have HB := n2_; clear n0_ n1_ n2_; (try clear hb); (try clear hb2); (try clear hk); (try clear hi); (try clear ho0)) | ((with_reducible refine gate_dst (N := 28) rfl ?_); (try (refine gate_guard (by rfl) ?_; dsimp only)); refine Kd.R_lit (Kd.int .i64) _ 3 ?hg (N := 28) ?hd (xs := ([] : List Int)) (inner := []) (ok := fun _ => True) (okp := fun _ => True) ?hr ?hp (fun _ hk => hk) trivial (Below.refl _ _) (Nat.le_refl _) (by simp) ?_; (case hd => rfl); (case hg => rfl); (case hr => first | (go_simp; done) | (go_simp; rfl)); (case hp => exact (Reps.none _ _)); intro v255 w17 ho18 hb hg_ hnew_; clear hg_ hnew_; (first | rw [← Ny254.out] at ho18 | (simp only [Int.reduceToNat] at ho18; rw [← Ny254.out] at ho18)); have n0_ := Aside0.mk (Kd.R_elder' (by (with_reducible repeat (first | apply Kd.R_alloc | apply Kd.R_drewN | apply Kd.R_drew)); exact HO250.out) (Kd.R_base ho18) hb); have n1_ := Aside0.mk (Kd.R_elder' (by (with_reducible repeat (first | apply Kd.R_alloc | apply Kd.R_drewN | apply Kd.R_drew)); exact HO253.out) (Kd.R_base ho18) hb); have n2_ := Aside0.mk (Kd.R_lower (Kd.R_new' (Kd.R_new' ho18 (Kd.R_lt (by (with_reducible repeat (first | apply Kd.R_alloc | apply Kd.R_drewN | apply Kd.R_drew)); exact HO250.out))) (Kd.R_lt (by (with_reducible repeat (first | apply Kd.R_alloc | apply Kd.R_drewN | apply Kd.R_drew)); exact HO253.out))) (below_size (by repeat (first | (with_reducible first | exact HB.out | apply below_alloc | apply pw_below_drewN | apply below_drew1) | exact HB.out)))); have n3_ := Aside0.mk (below_step (by repeat (first | (with_reducible first | exact HB.out | apply below_alloc | apply pw_below_drewN | apply below_drew1) | exact HB.out)) hb); clear HO250; clear HO253; clear HB; have HO250 := n0_; have HO253 := n1_; have HO256 := n2_; have HB := n3_; clear n0_ n1_ n2_ n3_; clear hb ho18; obtain ⟨Ao20, co20, eo20⟩ := Kd.R_slice HO250.out; subst eo20) | ((with_reducible refine gate_builtin (b := .append) (xs := #[.tmp 28, .tmp 29]) rfl ?_); (try (refine gate_guard (by rfl) ?_; dsimp only)); at_builtin; refine Kd.R_append_rows (Kd.int .i64) (w0 := w) w.heap.size rfl (.tmp 28) (.tmp 29) 22 3 (.int .i64 0) 8 rfl Try.underlying22 info3 rfl (by decide) (by omega) v255 y254 t248 _ _ _ (fun k_ => some k_ ≠ (.slice Ao20 t248.length co20 : Value).ownBlock ∧ some k_ ≠ (v252 : Value).ownBlock) (fun _ => False) rfl rfl ?aO ?aR (fun _ _ h => h) (fun _ h => h.elim) ?aF ?aB ?aS ?aL ?_; (case aR => repeat (first | exact (Kd.R_reads' HO250.out).2.2 | (with_reducible refine Kd.C_alloc ?_ _) | (with_reducible refine Kd.C_drewN ?_ _) | (with_reducible refine Kd.C_drew ?_))); (case aB => exact (by repeat (first | (with_reducible first | exact HB.out | apply below_alloc | apply pw_below_drewN | apply below_drew1) | exact HB.out))); (case aF => exact (fun k_ hk => ⟨Kd.fresh' (Kd.R_lt (by (with_reducible repeat (first | apply Kd.R_alloc | apply Kd.R_drewN | apply Kd.R_drew)); exact HO250.out)) k_ hk, Kd.fresh' (Kd.R_lt (by (with_reducible repeat (first | apply Kd.R_alloc | apply Kd.R_drewN | apply Kd.R_drew)); exact HO253.out)) k_ hk⟩)); (case aO => exact (by (with_reducible repeat (first | apply Kd.R_alloc | apply Kd.R_drewN | apply Kd.R_drew)); exact Kd.R_mono HO256.out (fun _ hk => ⟨hk.1.2, hk.2⟩))); (case aS => exact (below_size (by repeat (first | (with_reducible first | exact HB.out | apply below_alloc | apply pw_below_drewN | apply below_drew1) | exact HB.out)))); (case aL => have := LMc12.out; omega); intro v258 w19 ho hb hg hat; rw [← Ny257.out] at ho; have n0_ := Aside0.mk (Kd.R_after (ok := (fun k_ => some k_ ≠ (v252 : Value).ownBlock)) (by (with_reducible repeat (first | apply Kd.R_alloc | apply Kd.R_drewN | apply Kd.R_drew)); exact Kd.R_mono HO250.out (fun _ hk => ⟨hk.1.2, hk.2⟩)) hg hat); have n1_ := Aside0.mk (Kd.R_after (ok := (fun k_ => some k_ ≠ (.slice Ao20 t248.length co20 : Value).ownBlock)) (by (with_reducible repeat (first | apply Kd.R_alloc | apply Kd.R_drewN | apply Kd.R_drew)); exact Kd.R_mono HO253.out (fun _ hk => ⟨hk.1.2, hk.2⟩)) hg hat); have n2_ := Aside0.mk (hb); have n3_ := Aside0.mk (ho); clear HO250; clear HO253; clear HB; clear HO256; have HO250 := n0_; have HO253 := n1_; have HB := n2_; have HO259 := n3_; clear n0_ n1_ n2_ n3_; clear ho hb hg hat; obtain ⟨Ao22, co22, eo22⟩ := Kd.R_slice HO253.out; subst eo22) | ((with_reducible refine gate_builtin (b := .append) (xs := #[.tmp 30, .tmp 31]) rfl ?_); (try (refine gate_guard (by rfl) ?_; dsimp only)); at_builtin; refine Kd.R_append_rows (Kd.int .i64) (w0 := w) w.heap.size rfl (.tmp 30) (.tmp 31) 22 3 (.int .i64 0) 8 rfl Try.underlying22 info3 rfl (by decide) (by omega) v258 y257 t251 _ _ _ (fun k_ => some k_ ≠ (.slice Ao20 t248.length co20 : Value).ownBlock ∧ some k_ ≠ (.slice Ao22 t251.length co22 : Value).ownBlock) (fun _ => False) rfl rfl ?aO ?aR (fun _ _ h => h) (fun _ h => h.elim) ?aF ?aB ?aS ?aL ?_; (case aR => repeat (first | exact (Kd.R_reads' HO253.out).2.2 | (with_reducible refine Kd.C_alloc ?_ _) | (with_reducible refine Kd.C_drewN ?_ _) | (with_reducible refine Kd.C_drew ?_))); (case aB => exact (by repeat (first | (with_reducible first | exact HB.out | apply below_alloc | apply pw_below_drewN | apply below_drew1) | exact HB.out))); (case aF => exact (fun k_ hk => ⟨Kd.fresh' (Kd.R_lt (by (with_reducible repeat (first | apply Kd.R_alloc | apply Kd.R_drewN | apply Kd.R_drew)); exact HO250.out)) k_ hk, Kd.fresh' (Kd.R_lt (by (with_reducible repeat (first | apply Kd.R_alloc | apply Kd.R_drewN | apply Kd.R_drew)); exact HO253.out)) k_ hk⟩)); (case aO => exact (by (with_reducible repeat (first | apply Kd.R_alloc | apply Kd.R_drewN | apply Kd.R_drew)); exact HO259.out)); (case aS => exact (below_size (by repeat (first | (with_reducible first | exact HB.out | apply below_alloc | apply pw_below_drewN | apply below_drew1) | exact HB.out)))); (case aL => have := LMc13.out; omega); intro v261 w21 ho hb hg hat; rw [← Ny260.out] at ho; have n0_ := Aside0.mk (Kd.R_after (ok := (fun k_ => some k_ ≠ (.slice Ao22 t251.length co22 : Value).ownBlock)) (by (with_reducible repeat (first | apply Kd.R_alloc | apply Kd.R_drewN | apply Kd.R_drew)); exact HO250.out) hg hat); have n1_ := Aside0.mk (Kd.R_after (ok := (fun k_ => some k_ ≠ (.slice Ao20 t248.length co20 : Value).ownBlock)) (by (with_reducible repeat (first | apply Kd.R_alloc | apply Kd.R_drewN | apply Kd.R_drew)); exact HO253.out) hg hat); have n2_ := Aside0.mk (hb); have n3_ := Aside0.mk (ho); clear HO250; clear HO253; clear HB; clear HO259; have HO250 := n0_; have HO253 := n1_; have HB := n2_; have HO262 := n3_; clear n0_ n1_ n2_ n3_; clear ho hb hg hat))
      (try simp only [Act.put, List.setIfInBounds_toArray, List.set_cons_zero, List.set_cons_succ])
      go_cut [50] (fun v50 wc => ∃ (kq : Nat) (x50_13 : Bool), v50 = .bool x50_13 ∧ Aside0 (ductuslaw26_BalanceJoins.j1 kq a2 t248 t251 x50_13 = some r) ∧ Aside0 (kq ≤ kj5) ∧ Aside0 (Kd.R (Kd.int .i64) 3 wc w.heap.size (fun k_ => some k_ ≠ ((.slice Ao22 t251.length co22) : Value).ownBlock) (.slice Ao20 t248.length co20) t248) ∧ Aside0 (Kd.R (Kd.int .i64) 3 wc w.heap.size (fun k_ => some k_ ≠ ((.slice Ao20 t248.length co20) : Value).ownBlock) (.slice Ao22 t251.length co22) t251) ∧ Aside0 (Below w.heap.size w wc))
      case first =>
        have H := HC14.out
        clear HC14
        replace H := Option.bind_eq_some_iff.mp H
        obtain ⟨t263, A230, H⟩ := H
        replace H : (if t263 = true then ((balance_Right.f y260).bind fun t264 => (if t264 = true then ((balance_Depth.f y260).bind fun t265 => ((balance_Depth.f t248).bind fun t266 => ((balance_Depth.f t251).bind fun t267 => (ductuslaw26_BalanceJoins.j1 kj5 a2 t248 t251 (t265 != (mx t266 t267)))))) else (none))) else (none)) = some r := H
        have A23 := Aside0.mk A230
        clear A230
        by_cases c24 : t263 = true
        rotate_left
        · replace c24 := Bool.eq_false_iff.mpr c24
          subst c24
          have H1 : (none) = some r := by rw [if_neg (show ¬ (false = true) by decide)] at H; exact H
          clear H
          have H := H1
          clear H1
          exact absurd H (by simp)
        subst c24
        have H1 : ((balance_Right.f y260).bind fun t264 => (if t264 = true then ((balance_Depth.f y260).bind fun t265 => ((balance_Depth.f t248).bind fun t266 => ((balance_Depth.f t251).bind fun t267 => (ductuslaw26_BalanceJoins.j1 kj5 a2 t248 t251 (t265 != (mx t266 t267)))))) else (none))) = some r := by rw [if_pos rfl] at H; exact H
        clear H
        have H := H1
        clear H1
        replace H := Option.bind_eq_some_iff.mp H
        obtain ⟨t264, A250, H⟩ := H
        replace H : (if t264 = true then ((balance_Depth.f y260).bind fun t265 => ((balance_Depth.f t248).bind fun t266 => ((balance_Depth.f t251).bind fun t267 => (ductuslaw26_BalanceJoins.j1 kj5 a2 t248 t251 (t265 != (mx t266 t267)))))) else (none)) = some r := H
        have A25 := Aside0.mk A250
        clear A250
        by_cases c26 : t264 = true
        rotate_left
        · replace c26 := Bool.eq_false_iff.mpr c26
          subst c26
          have H1 : (none) = some r := by rw [if_neg (show ¬ (false = true) by decide)] at H; exact H
          clear H
          have H := H1
          clear H1
          exact absurd H (by simp)
        subst c26
        have H1 : ((balance_Depth.f y260).bind fun t265 => ((balance_Depth.f t248).bind fun t266 => ((balance_Depth.f t251).bind fun t267 => (ductuslaw26_BalanceJoins.j1 kj5 a2 t248 t251 (t265 != (mx t266 t267)))))) = some r := by rw [if_pos rfl] at H; exact H
        clear H
        have H := H1
        clear H1
        replace H := Option.bind_eq_some_iff.mp H
        obtain ⟨t265, A270, H⟩ := H
        replace H : ((balance_Depth.f t248).bind fun t266 => ((balance_Depth.f t251).bind fun t267 => (ductuslaw26_BalanceJoins.j1 kj5 a2 t248 t251 (t265 != (mx t266 t267))))) = some r := H
        have A27 := Aside0.mk A270
        clear A270
        replace H := Option.bind_eq_some_iff.mp H
        obtain ⟨t266, A280, H⟩ := H
        replace H : ((balance_Depth.f t251).bind fun t267 => (ductuslaw26_BalanceJoins.j1 kj5 a2 t248 t251 (t265 != (mx t266 t267)))) = some r := H
        have A28 := Aside0.mk A280
        clear A280
        replace H := Option.bind_eq_some_iff.mp H
        obtain ⟨t267, A290, H⟩ := H
        replace H : (ductuslaw26_BalanceJoins.j1 kj5 a2 t248 t251 (t265 != (mx t266 t267))) = some r := H
        have A29 := Aside0.mk A290
        clear A290
        obtain ⟨ji30, hji30⟩ : ∃ j_ : Int, (mx t266 t267) = j_ := ⟨_, rfl⟩
        replace H : (ductuslaw26_BalanceJoins.j1 kj5 a2 t248 t251 (t265 != (ji30))) = some r := by first | (rw [hji30] at H; exact H) | (simp only [hji30] at H ⊢; exact H)
        (try rw [hji30] at A23)
        (try rw [hji30] at A25)
        (try rw [hji30] at A27)
        (try rw [hji30] at A28)
        (try rw [hji30] at A29)
        have hji30_ : (if t266 < t267 then t267 else t266) = ji30 := hji30
        have H' := Aside0.mk H
        clear H
        go_wp2_with (first | ((with_reducible refine gate_callee (f := 9) rfl ?_); refine goesL_ (some 34) rfl rfl Try.func9 (by kernel_rfl) rfl #[.slice Ao20 t248.length co20] rfl (by (try simp only [List.map_toArray, List.map_cons, List.map_nil]); first | done | rfl | (simp only [List.length_drop, List.length_take]; rfl)) ?_; (with_reducible refine (balance_Right.calls _ _ t248 true _ ?side1 ?side2 A23.out).mono ?_); (case side1 => repeat (first | exact (Kd.R_reads' HO250.out).2.2 | (with_reducible refine Kd.C_alloc ?_ _) | (with_reducible refine Kd.C_drewN ?_ _) | (with_reducible refine Kd.C_drew ?_))); (case side2 => exact (Kd.R_reads' HO250.out).2.1); rintro e w31 ⟨rfl, hb⟩; refine ⟨_, rfl, ?_⟩; have n0_ := Aside0.mk (Kd.R_below (by (with_reducible repeat (first | apply Kd.R_alloc | apply Kd.R_drewN | apply Kd.R_drew)); exact HO250.out) hb); have n1_ := Aside0.mk (Kd.R_below (by (with_reducible repeat (first | apply Kd.R_alloc | apply Kd.R_drewN | apply Kd.R_drew)); exact HO253.out) hb); have n2_ := Aside0.mk (Kd.R_below (by (with_reducible repeat (first | apply Kd.R_alloc | apply Kd.R_drewN | apply Kd.R_drew)); exact HO262.out) hb); have n3_ := Aside0.mk (below_step (by repeat (first | (with_reducible first | exact HB.out | apply below_alloc | apply pw_below_drewN | apply below_drew1) | exact HB.out)) hb); clear HO250; clear HO253; clear HO262; clear HB; have HO250 := n0_; have HO253 := n1_; have HO262 := n2_; have HB := n3_; clear n0_ n1_ n2_ n3_; (try clear hb); (try clear hb2); (try clear hk); (try clear hi); obtain ⟨Ao32, co32, eo32⟩ := Kd.R_slice HO262.out; subst eo32) | (go_at_call 9; (with_reducible refine (balance_Right.calls _ _ y260 true _ ?side1 ?side2 A25.out).mono ?_); (case side1 => repeat (first | exact (Kd.R_reads' HO262.out).2.2 | (with_reducible refine Kd.C_alloc ?_ _) | (with_reducible refine Kd.C_drewN ?_ _) | (with_reducible refine Kd.C_drew ?_))); (case side2 => exact (Kd.R_reads' HO262.out).2.1); rintro e w33 ⟨rfl, hb⟩; have n0_ := Aside0.mk (Kd.R_below (by (with_reducible repeat (first | apply Kd.R_alloc | apply Kd.R_drewN | apply Kd.R_drew)); exact HO250.out) hb); have n1_ := Aside0.mk (Kd.R_below (by (with_reducible repeat (first | apply Kd.R_alloc | apply Kd.R_drewN | apply Kd.R_drew)); exact HO253.out) hb); have n2_ := Aside0.mk (Kd.R_below (by (with_reducible repeat (first | apply Kd.R_alloc | apply Kd.R_drewN | apply Kd.R_drew)); exact HO262.out) hb); have n3_ := Aside0.mk (below_step (by repeat (first | (with_reducible first | exact HB.out | apply below_alloc | apply pw_below_drewN | apply below_drew1) | exact HB.out)) hb); clear HO250; clear HO253; clear HO262; clear HB; have HO250 := n0_; have HO253 := n1_; have HO262 := n2_; have HB := n3_; clear n0_ n1_ n2_ n3_; (try clear hb); (try clear hb2); (try clear hk); (try clear hi)) | (go_at_call 16; (with_reducible refine (balance_Depth.calls _ _ y260 t265 _ ?side1 ?side2 A27.out).mono ?_); (case side1 => repeat (first | exact (Kd.R_reads' HO262.out).2.2 | (with_reducible refine Kd.C_alloc ?_ _) | (with_reducible refine Kd.C_drewN ?_ _) | (with_reducible refine Kd.C_drew ?_))); (case side2 => exact (Kd.R_reads' HO262.out).2.1); rintro e w34 ⟨rfl, hb⟩; have n0_ := Aside0.mk (Kd.R_below (by (with_reducible repeat (first | apply Kd.R_alloc | apply Kd.R_drewN | apply Kd.R_drew)); exact HO250.out) hb); have n1_ := Aside0.mk (Kd.R_below (by (with_reducible repeat (first | apply Kd.R_alloc | apply Kd.R_drewN | apply Kd.R_drew)); exact HO253.out) hb); have n2_ := Aside0.mk (Kd.R_below (by (with_reducible repeat (first | apply Kd.R_alloc | apply Kd.R_drewN | apply Kd.R_drew)); exact HO262.out) hb); have n3_ := Aside0.mk (below_step (by repeat (first | (with_reducible first | exact HB.out | apply below_alloc | apply pw_below_drewN | apply below_drew1) | exact HB.out)) hb); clear HO250; clear HO253; clear HO262; clear HB; have HO250 := n0_; have HO253 := n1_; have HO262 := n2_; have HB := n3_; clear n0_ n1_ n2_ n3_; (try clear hb); (try clear hb2); (try clear hk); (try clear hi)) | (go_at_call 16; (with_reducible refine (balance_Depth.calls _ _ t248 t266 _ ?side1 ?side2 A28.out).mono ?_); (case side1 => repeat (first | exact (Kd.R_reads' HO250.out).2.2 | (with_reducible refine Kd.C_alloc ?_ _) | (with_reducible refine Kd.C_drewN ?_ _) | (with_reducible refine Kd.C_drew ?_))); (case side2 => exact (Kd.R_reads' HO250.out).2.1); rintro e w35 ⟨rfl, hb⟩; have n0_ := Aside0.mk (Kd.R_below (by (with_reducible repeat (first | apply Kd.R_alloc | apply Kd.R_drewN | apply Kd.R_drew)); exact HO250.out) hb); have n1_ := Aside0.mk (Kd.R_below (by (with_reducible repeat (first | apply Kd.R_alloc | apply Kd.R_drewN | apply Kd.R_drew)); exact HO253.out) hb); have n2_ := Aside0.mk (Kd.R_below (by (with_reducible repeat (first | apply Kd.R_alloc | apply Kd.R_drewN | apply Kd.R_drew)); exact HO262.out) hb); have n3_ := Aside0.mk (below_step (by repeat (first | (with_reducible first | exact HB.out | apply below_alloc | apply pw_below_drewN | apply below_drew1) | exact HB.out)) hb); clear HO250; clear HO253; clear HO262; clear HB; have HO250 := n0_; have HO253 := n1_; have HO262 := n2_; have HB := n3_; clear n0_ n1_ n2_ n3_; (try clear hb); (try clear hb2); (try clear hk); (try clear hi)) | (go_at_call 16; (with_reducible refine (balance_Depth.calls _ _ t251 t267 _ ?side1 ?side2 A29.out).mono ?_); (case side1 => repeat (first | exact (Kd.R_reads' HO253.out).2.2 | (with_reducible refine Kd.C_alloc ?_ _) | (with_reducible refine Kd.C_drewN ?_ _) | (with_reducible refine Kd.C_drew ?_))); (case side2 => exact (Kd.R_reads' HO253.out).2.1); rintro e w36 ⟨rfl, hb⟩; have n0_ := Aside0.mk (Kd.R_below (by (with_reducible repeat (first | apply Kd.R_alloc | apply Kd.R_drewN | apply Kd.R_drew)); exact HO250.out) hb); have n1_ := Aside0.mk (Kd.R_below (by (with_reducible repeat (first | apply Kd.R_alloc | apply Kd.R_drewN | apply Kd.R_drew)); exact HO253.out) hb); have n2_ := Aside0.mk (Kd.R_below (by (with_reducible repeat (first | apply Kd.R_alloc | apply Kd.R_drewN | apply Kd.R_drew)); exact HO262.out) hb); have n3_ := Aside0.mk (below_step (by repeat (first | (with_reducible first | exact HB.out | apply below_alloc | apply pw_below_drewN | apply below_drew1) | exact HB.out)) hb); clear HO250; clear HO253; clear HO262; clear HB; have HO250 := n0_; have HO253 := n1_; have HO262 := n2_; have HB := n3_; clear n0_ n1_ n2_ n3_; (try clear hb); (try clear hb2); (try clear hk); (try clear hi)))
        go_meet
        case rel => exact ⟨_, ((t265 != (ji30))), (by first | rfl | (simp; done) | (simp only [← hji30] <;> (first | rfl | simp)) | (simp [*]; done)), H', ⟨by have := HJ5.out; first | omega | exact Nat.le_refl _⟩, ⟨by (with_reducible repeat (first | apply Kd.R_alloc | apply Kd.R_drewN | apply Kd.R_drew)); exact Kd.R_mono HO250.out (fun _ hk => hk.1)⟩, ⟨by (with_reducible repeat (first | apply Kd.R_alloc | apply Kd.R_drewN | apply Kd.R_drew)); exact Kd.R_mono HO253.out (fun _ hk => hk.1)⟩, ⟨by repeat (first | (with_reducible first | exact HB.out | apply below_alloc | apply pw_below_drewN | apply below_drew1) | exact HB.out)⟩⟩
      case rest =>
        clear HC14
        try clear c1
        try clear c2
        try clear p2
        try clear c4
        try clear c5
        try clear c8
        try clear c8b0
        try clear c8b1
        try clear c9
        try clear c12
        try clear c13
        try clear c18
        try clear c24
        try clear c26
        try clear p2
        obtain ⟨kq, x50_13, rfl, HA, HJ13, HO_7, HO_8, HB⟩ := hcut
        cases kq with
        | zero => exact absurd HA.out (by simp [ductuslaw26_BalanceJoins.j1])
        | succ kj13 =>
          have H := HA.out
          clear HA
          simp only [ductuslaw26_BalanceJoins.j1] at H
          by_cases c37 : x50_13 = true
          · subst c37
            have H1 : (none) = some r := by rw [if_pos rfl] at H; exact H
            clear H
            have H := H1
            clear H1
            exact absurd H (by simp)
          replace c37 := Bool.eq_false_iff.mpr c37
          subst c37
          have H1 : (ductuslaw26_BalanceJoins.l0 kj13 a2 t248 t251 0) = some r := by rw [if_neg (show ¬ (false = true) by decide)] at H; exact H
          clear H
          have H := H1
          clear H1
          have H' := Aside0.mk H
          clear H
          go_wp2
          go_loopg [10] kj13 (fun kq v10 w' => ∃ (x10_3 : Int), v10 = .int .i64 x10_3 ∧ Aside0 (ductuslaw26_BalanceJoins.l0 kq a2 t248 t251 x10_3 = some r) ∧ Aside0 (kq ≤ kj13) ∧ Aside0 (Kd.R (Kd.int .i64) 3 w' w.heap.size (fun k_ => some k_ ≠ ((.slice Ao22 t251.length co22) : Value).ownBlock) (.slice Ao20 t248.length co20) t248) ∧ Aside0 (Kd.R (Kd.int .i64) 3 w' w.heap.size (fun k_ => some k_ ≠ ((.slice Ao20 t248.length co20) : Value).ownBlock) (.slice Ao22 t251.length co22) t251) ∧ Aside0 (Below w.heap.size w w'))
          case atStart => exact ⟨(0), (by first | rfl | (simp; done) | (simp [*]; done)), H', ⟨Nat.le_refl _⟩, ⟨by (with_reducible repeat (first | apply Kd.R_alloc | apply Kd.R_drewN | apply Kd.R_drew)); exact HO_7.out⟩, ⟨by (with_reducible repeat (first | apply Kd.R_alloc | apply Kd.R_drewN | apply Kd.R_drew)); exact HO_8.out⟩, ⟨by repeat (first | (with_reducible first | exact HB.out | apply below_alloc | apply pw_below_drewN | apply below_drew1) | exact HB.out)⟩⟩
          case round =>
            clear H'
            try clear c1
            try clear c2
            try clear p2
            try clear c3
            try clear c4
            try clear c5
            try clear c8
            try clear c8b0
            try clear c8b1
            try clear c9
            try clear c12
            try clear c13
            try clear c18
            try clear c24
            try clear c26
            try clear c37
            try clear p2
            obtain ⟨x10_3, rfl, HA, HK3, HO_7, HO_8, HB⟩ := hrel
            cases gk with
            | zero => exact absurd HA.out (by simp [ductuslaw26_BalanceJoins.l0])
            | succ k3 =>
              have H := HA.out
              clear HA
              simp only [ductuslaw26_BalanceJoins.l0] at H
              by_cases c38 : x10_3 < (t251.length : Int)
              · rw [if_pos c38] at H
                have c38b0 : decide (x10_3 < (t251.length : Int)) = true := decide_eq_true c38
                clear c38
                by_cases c39 : 0 ≤ x10_3
                rotate_left
                · rw [if_neg c39] at H
                  exact absurd H (by simp)
                rw [if_pos c39] at H
                have c39b0 : decide (0 ≤ x10_3) = true := decide_eq_true c39
                clear c39
                replace H := Option.bind_eq_some_iff.mp H
                obtain ⟨t269, A400, H⟩ := H
                replace H : (if t269 = 10 then (some true) else (ductuslaw26_BalanceJoins.l0 k3 a2 t248 t251 (wrap64 (x10_3 + 1)))) = some r := H
                have A40 := Aside0.mk A400
                clear A400
                by_cases c41 : t269 = 10
                · rw [if_pos c41] at H
                  have c41b0 : (t269 == 10) = true := beq_iff_eq.mpr c41
                  have c41b1 : (t269 != 10) = false := bne_eq_false_iff_eq.mpr c41
                  clear c41
                  obtain rfl := Option.some.inj H
                  have p268 : 0 ≤ (x10_3 : Int) := of_decide_eq_true (by first | (with_reducible assumption) | assumption)
                  have q268 : x10_3 < (t251.length : Int) := of_decide_eq_true (by first | (with_reducible assumption) | assumption)
                  obtain ⟨ad268, e268, hx268_0⟩ := Kd.at_int (Kd.R_reads' HO_8.out).2.2 x10_3 p268 q268
                  cases e268
                  replace p268 := eq_true p268
                  replace q268 := eq_true q268
                  go_wp2_with (first | ((with_reducible refine gate_callee (f := 20) rfl ?_); refine goesL_ (some 61) rfl rfl Try.func20 (by kernel_rfl) rfl #[.int .i64 (rd t251 x10_3)] rfl (by (try simp only [List.map_toArray, List.map_cons, List.map_nil]); first | done | rfl | (simp only [List.length_drop, List.length_take]; rfl)) ?_; (with_reducible refine (ductusref02_Of.calls (rd t251 x10_3) t269 _ A40.out).mono ?_); rintro e w' ⟨rfl, ⟨nd, rfl⟩⟩; refine ⟨_, rfl, ?_⟩))
                  go_ret
                  exact ⟨by first | rfl | (simp [errW_none, errW_some] <;> rfl) | (simp [*, errW_none, errW_some] <;> rfl), by repeat (first | (with_reducible first | exact HB.out | apply below_alloc | apply pw_below_drewN | apply below_drew1) | exact HB.out)⟩
                rw [if_neg c41] at H
                have c41b0 : (t269 == 10) = false := beq_eq_false_iff_ne.mpr c41
                have c41b1 : (t269 != 10) = true := bne_iff_ne.mpr c41
                have H' := Aside0.mk H
                clear H
                have p268 : 0 ≤ (x10_3 : Int) := of_decide_eq_true (by first | (with_reducible assumption) | assumption)
                have q268 : x10_3 < (t251.length : Int) := of_decide_eq_true (by first | (with_reducible assumption) | assumption)
                obtain ⟨ad268, e268, hx268_0⟩ := Kd.at_int (Kd.R_reads' HO_8.out).2.2 x10_3 p268 q268
                cases e268
                replace p268 := eq_true p268
                replace q268 := eq_true q268
                go_wp2_with (first | ((with_reducible refine gate_callee (f := 20) rfl ?_); refine goesL_ (some 61) rfl rfl Try.func20 (by kernel_rfl) rfl #[.int .i64 (rd t251 x10_3)] rfl (by (try simp only [List.map_toArray, List.map_cons, List.map_nil]); first | done | rfl | (simp only [List.length_drop, List.length_take]; rfl)) ?_; (with_reducible refine (ductusref02_Of.calls (rd t251 x10_3) t269 _ A40.out).mono ?_); rintro e w' ⟨rfl, ⟨nd, rfl⟩⟩; refine ⟨_, rfl, ?_⟩))
                go_roundg k3
                case measure => have := HJ5.out; have := HJ13.out; have := HK3.out; omega
                case rel => exact ⟨(wrap64 (x10_3 + 1)), (by first | rfl | (simp; done) | (simp [*]; done)), H', ⟨by have := HJ5.out; have := HJ13.out; have := HK3.out; omega⟩, ⟨by (with_reducible repeat (first | apply Kd.R_alloc | apply Kd.R_drewN | apply Kd.R_drew)); exact HO_7.out⟩, ⟨by (with_reducible repeat (first | apply Kd.R_alloc | apply Kd.R_drewN | apply Kd.R_drew)); exact HO_8.out⟩, ⟨by repeat (first | (with_reducible first | exact HB.out | apply below_alloc | apply pw_below_drewN | apply below_drew1) | exact HB.out)⟩⟩
              rw [if_neg c38] at H
              have c38b0 : decide (x10_3 < (t251.length : Int)) = false := decide_eq_false c38
              clear c38
              have HC42 := Aside0.mk H
              clear H
              go_upto_if 65 with (fail)
              go_cut [11, 12] (fun v11 v12 wc => ∃ (kq : Nat) (x11_41 : Int) (x12_41 : Int), v11 = .int .i64 x11_41 ∧ v12 = .int .i64 x12_41 ∧ Aside0 (ductuslaw26_BalanceJoins.j3 kq t248 t251 x11_41 x12_41 = some r) ∧ Aside0 (kq ≤ k3) ∧ Aside0 (Kd.R (Kd.int .i64) 3 wc w.heap.size (fun k_ => some k_ ≠ ((.slice Ao22 t251.length co22) : Value).ownBlock) (.slice Ao20 t248.length co20) t248) ∧ Aside0 (Kd.R (Kd.int .i64) 3 wc w.heap.size (fun k_ => some k_ ≠ ((.slice Ao20 t248.length co20) : Value).ownBlock) (.slice Ao22 t251.length co22) t251) ∧ Aside0 (Below w.heap.size w wc))
              case first =>
                have H := HC42.out
                clear HC42
                by_cases c43 : (Int.tmod a2 2) = 1
                rotate_left
                · rw [if_neg c43] at H
                  have c43b0 : ((Int.tmod a2 2) == 1) = false := beq_eq_false_iff_ne.mpr c43
                  have c43b1 : ((Int.tmod a2 2) != 1) = true := bne_iff_ne.mpr c43
                  (first | rw [c43b0] | (simp only [i64_w, i32_w]; rw [c43b0]) | skip)
                  have H' := Aside0.mk H
                  clear H
                  go_wp2
                  go_meet
                  case rel => exact ⟨_, (8234), (8236), (by first | rfl | (simp; done) | (simp [*]; done)), (by first | rfl | (simp; done) | (simp [*]; done)), H', ⟨by have := HJ5.out; have := HJ13.out; have := HK3.out; first | omega | exact Nat.le_refl _⟩, ⟨by (with_reducible repeat (first | apply Kd.R_alloc | apply Kd.R_drewN | apply Kd.R_drew)); exact HO_7.out⟩, ⟨by (with_reducible repeat (first | apply Kd.R_alloc | apply Kd.R_drewN | apply Kd.R_drew)); exact HO_8.out⟩, ⟨by repeat (first | (with_reducible first | exact HB.out | apply below_alloc | apply pw_below_drewN | apply below_drew1) | exact HB.out)⟩⟩
                rw [if_pos c43] at H
                have c43b0 : ((Int.tmod a2 2) == 1) = true := beq_iff_eq.mpr c43
                have c43b1 : ((Int.tmod a2 2) != 1) = false := bne_eq_false_iff_eq.mpr c43
                clear c43
                (first | rw [c43b0] | (simp only [i64_w, i32_w]; rw [c43b0]) | skip)
                have H' := Aside0.mk H
                clear H
                go_wp2
                go_meet
                case rel => exact ⟨_, (8296), (8297), (by first | rfl | (simp; done) | (simp [*]; done)), (by first | rfl | (simp; done) | (simp [*]; done)), H', ⟨by have := HJ5.out; have := HJ13.out; have := HK3.out; first | omega | exact Nat.le_refl _⟩, ⟨by (with_reducible repeat (first | apply Kd.R_alloc | apply Kd.R_drewN | apply Kd.R_drew)); exact HO_7.out⟩, ⟨by (with_reducible repeat (first | apply Kd.R_alloc | apply Kd.R_drewN | apply Kd.R_drew)); exact HO_8.out⟩, ⟨by repeat (first | (with_reducible first | exact HB.out | apply below_alloc | apply pw_below_drewN | apply below_drew1) | exact HB.out)⟩⟩
              case rest =>
                clear HC42
                try clear c1
                try clear c2
                try clear p2
                try clear q2
                try clear hx2
                try clear c3
                try clear c4
                try clear c5
                try clear p6
                try clear c8
                try clear c8b0
                try clear c8b1
                try clear c9
                try clear c12
                try clear c13
                try clear c18
                try clear c20
                try clear c24
                try clear c26
                try clear p26
                try clear q26
                try clear hx26
                try clear c37
                try clear c38
                try clear c38b0
                try clear c39
                try clear c39b0
                try clear c41
                try clear c41b0
                try clear c41b1
                try clear c43
                try clear c43b0
                try clear c43b1
                try clear hx268_0
                try clear p2
                try clear p268
                try clear q268
                obtain ⟨kq, x11_41, x12_41, rfl, rfl, HA, HJ41, HO_7, HO_8, HB⟩ := hcut
                cases kq with
                | zero => exact absurd HA.out (by simp [ductuslaw26_BalanceJoins.j3])
                | succ kj41 =>
                  have H := HA.out
                  clear HA
                  simp only [ductuslaw26_BalanceJoins.j3] at H
                  obtain ⟨y270, hy270⟩ : ∃ y_ : List Int, y_ = (([] : List Int)) := ⟨_, rfl⟩
                  replace H : (if y270.length + t248.length < 17592186044416 then ((some (y270 ++ t248 : List Int)).bind fun y273 => (if y273.length < 17592186044416 then ((some (y273 ++ [x11_41] : List Int)).bind fun y276 => ((some (([] : List Int) : List Int)).bind fun y279 => (if y279.length + t251.length < 17592186044416 then ((some (y279 ++ t251 : List Int)).bind fun y282 => (if y282.length < 17592186044416 then ((some (y282 ++ [x12_41] : List Int)).bind fun y285 => (if y276.length + y285.length < 17592186044416 then ((some (y276 ++ y285 : List Int)).bind fun y288 => ((balance_Right.f y288).bind fun t291 => (if t291 = true then ((balance_Depth.f y288).bind fun t292 => ((balance_Depth.f t248).bind fun t293 => ((balance_Depth.f t251).bind fun t294 => (if t292 = (mx t293 (wrap64 (1 + t294))) then (if 0 ≤ (wrap64 ((y288.length : Int) - 1)) then (if (wrap64 ((y288.length : Int) - 1)) ≤ (y288.length : Int) then ((balance_Wrong.f (y288.take ((wrap64 ((y288.length : Int) - 1)) : Int).toNat)).bind fun t299 => (some (t299 == (wrap64 ((y288.length : Int) - 1))))) else (none)) else (none)) else (none))))) else (none)))) else (none))) else (none))) else (none)))) else (none))) else (none)) = some r := by first | (rw [hy270]; with_reducible exact H) | (have H2_ := (Option.bind_some _ _).symm.trans H; rw [hy270]; with_reducible exact H2_) | (have H2_ := (Option.bind_some _ _).symm.trans H; with_reducible exact H2_) | with_reducible exact H | (rw [hy270]; exact H) | exact H
                  have Ny270 := Aside0.mk hy270
                  clear hy270
                  by_cases c44 : y270.length + t248.length < 17592186044416
                  rotate_left
                  · rw [if_neg c44] at H
                    exact absurd H (by simp)
                  rw [if_pos c44] at H
                  have LMc44 := Aside0.mk c44
                  clear c44
                  obtain ⟨y273, hy273⟩ : ∃ y_ : List Int, y_ = (y270 ++ t248) := ⟨_, rfl⟩
                  replace H : (if y273.length < 17592186044416 then ((some (y273 ++ [x11_41] : List Int)).bind fun y276 => ((some (([] : List Int) : List Int)).bind fun y279 => (if y279.length + t251.length < 17592186044416 then ((some (y279 ++ t251 : List Int)).bind fun y282 => (if y282.length < 17592186044416 then ((some (y282 ++ [x12_41] : List Int)).bind fun y285 => (if y276.length + y285.length < 17592186044416 then ((some (y276 ++ y285 : List Int)).bind fun y288 => ((balance_Right.f y288).bind fun t291 => (if t291 = true then ((balance_Depth.f y288).bind fun t292 => ((balance_Depth.f t248).bind fun t293 => ((balance_Depth.f t251).bind fun t294 => (if t292 = (mx t293 (wrap64 (1 + t294))) then (if 0 ≤ (wrap64 ((y288.length : Int) - 1)) then (if (wrap64 ((y288.length : Int) - 1)) ≤ (y288.length : Int) then ((balance_Wrong.f (y288.take ((wrap64 ((y288.length : Int) - 1)) : Int).toNat)).bind fun t299 => (some (t299 == (wrap64 ((y288.length : Int) - 1))))) else (none)) else (none)) else (none))))) else (none)))) else (none))) else (none))) else (none)))) else (none)) = some r := by first | (rw [hy273]; with_reducible exact H) | (have H2_ := (Option.bind_some _ _).symm.trans H; rw [hy273]; with_reducible exact H2_) | (have H2_ := (Option.bind_some _ _).symm.trans H; with_reducible exact H2_) | with_reducible exact H | (rw [hy273]; exact H) | exact H
                  have Ny273 := Aside0.mk hy273
                  clear hy273
                  by_cases c45 : y273.length < 17592186044416
                  rotate_left
                  · rw [if_neg c45] at H
                    exact absurd H (by simp)
                  rw [if_pos c45] at H
                  have LMc45 := Aside0.mk c45
                  clear c45
                  obtain ⟨y276, hy276⟩ : ∃ y_ : List Int, y_ = (y273 ++ [x11_41]) := ⟨_, rfl⟩
                  replace H : ((some (([] : List Int) : List Int)).bind fun y279 => (if y279.length + t251.length < 17592186044416 then ((some (y279 ++ t251 : List Int)).bind fun y282 => (if y282.length < 17592186044416 then ((some (y282 ++ [x12_41] : List Int)).bind fun y285 => (if y276.length + y285.length < 17592186044416 then ((some (y276 ++ y285 : List Int)).bind fun y288 => ((balance_Right.f y288).bind fun t291 => (if t291 = true then ((balance_Depth.f y288).bind fun t292 => ((balance_Depth.f t248).bind fun t293 => ((balance_Depth.f t251).bind fun t294 => (if t292 = (mx t293 (wrap64 (1 + t294))) then (if 0 ≤ (wrap64 ((y288.length : Int) - 1)) then (if (wrap64 ((y288.length : Int) - 1)) ≤ (y288.length : Int) then ((balance_Wrong.f (y288.take ((wrap64 ((y288.length : Int) - 1)) : Int).toNat)).bind fun t299 => (some (t299 == (wrap64 ((y288.length : Int) - 1))))) else (none)) else (none)) else (none))))) else (none)))) else (none))) else (none))) else (none))) = some r := by first | (rw [hy276]; with_reducible exact H) | (have H2_ := (Option.bind_some _ _).symm.trans H; rw [hy276]; with_reducible exact H2_) | (have H2_ := (Option.bind_some _ _).symm.trans H; with_reducible exact H2_) | with_reducible exact H | (rw [hy276]; exact H) | exact H
                  have Ny276 := Aside0.mk hy276
                  clear hy276
                  obtain ⟨y279, hy279⟩ : ∃ y_ : List Int, y_ = (([] : List Int)) := ⟨_, rfl⟩
                  replace H : (if y279.length + t251.length < 17592186044416 then ((some (y279 ++ t251 : List Int)).bind fun y282 => (if y282.length < 17592186044416 then ((some (y282 ++ [x12_41] : List Int)).bind fun y285 => (if y276.length + y285.length < 17592186044416 then ((some (y276 ++ y285 : List Int)).bind fun y288 => ((balance_Right.f y288).bind fun t291 => (if t291 = true then ((balance_Depth.f y288).bind fun t292 => ((balance_Depth.f t248).bind fun t293 => ((balance_Depth.f t251).bind fun t294 => (if t292 = (mx t293 (wrap64 (1 + t294))) then (if 0 ≤ (wrap64 ((y288.length : Int) - 1)) then (if (wrap64 ((y288.length : Int) - 1)) ≤ (y288.length : Int) then ((balance_Wrong.f (y288.take ((wrap64 ((y288.length : Int) - 1)) : Int).toNat)).bind fun t299 => (some (t299 == (wrap64 ((y288.length : Int) - 1))))) else (none)) else (none)) else (none))))) else (none)))) else (none))) else (none))) else (none)) = some r := by first | (rw [hy279]; with_reducible exact H) | (have H2_ := (Option.bind_some _ _).symm.trans H; rw [hy279]; with_reducible exact H2_) | (have H2_ := (Option.bind_some _ _).symm.trans H; with_reducible exact H2_) | with_reducible exact H | (rw [hy279]; exact H) | exact H
                  have Ny279 := Aside0.mk hy279
                  clear hy279
                  by_cases c46 : y279.length + t251.length < 17592186044416
                  rotate_left
                  · rw [if_neg c46] at H
                    exact absurd H (by simp)
                  rw [if_pos c46] at H
                  have LMc46 := Aside0.mk c46
                  clear c46
                  obtain ⟨y282, hy282⟩ : ∃ y_ : List Int, y_ = (y279 ++ t251) := ⟨_, rfl⟩
                  replace H : (if y282.length < 17592186044416 then ((some (y282 ++ [x12_41] : List Int)).bind fun y285 => (if y276.length + y285.length < 17592186044416 then ((some (y276 ++ y285 : List Int)).bind fun y288 => ((balance_Right.f y288).bind fun t291 => (if t291 = true then ((balance_Depth.f y288).bind fun t292 => ((balance_Depth.f t248).bind fun t293 => ((balance_Depth.f t251).bind fun t294 => (if t292 = (mx t293 (wrap64 (1 + t294))) then (if 0 ≤ (wrap64 ((y288.length : Int) - 1)) then (if (wrap64 ((y288.length : Int) - 1)) ≤ (y288.length : Int) then ((balance_Wrong.f (y288.take ((wrap64 ((y288.length : Int) - 1)) : Int).toNat)).bind fun t299 => (some (t299 == (wrap64 ((y288.length : Int) - 1))))) else (none)) else (none)) else (none))))) else (none)))) else (none))) else (none)) = some r := by first | (rw [hy282]; with_reducible exact H) | (have H2_ := (Option.bind_some _ _).symm.trans H; rw [hy282]; with_reducible exact H2_) | (have H2_ := (Option.bind_some _ _).symm.trans H; with_reducible exact H2_) | with_reducible exact H | (rw [hy282]; exact H) | exact H
                  have Ny282 := Aside0.mk hy282
                  clear hy282
                  by_cases c47 : y282.length < 17592186044416
                  rotate_left
                  · rw [if_neg c47] at H
                    exact absurd H (by simp)
                  rw [if_pos c47] at H
                  have LMc47 := Aside0.mk c47
                  clear c47
                  obtain ⟨y285, hy285⟩ : ∃ y_ : List Int, y_ = (y282 ++ [x12_41]) := ⟨_, rfl⟩
                  replace H : (if y276.length + y285.length < 17592186044416 then ((some (y276 ++ y285 : List Int)).bind fun y288 => ((balance_Right.f y288).bind fun t291 => (if t291 = true then ((balance_Depth.f y288).bind fun t292 => ((balance_Depth.f t248).bind fun t293 => ((balance_Depth.f t251).bind fun t294 => (if t292 = (mx t293 (wrap64 (1 + t294))) then (if 0 ≤ (wrap64 ((y288.length : Int) - 1)) then (if (wrap64 ((y288.length : Int) - 1)) ≤ (y288.length : Int) then ((balance_Wrong.f (y288.take ((wrap64 ((y288.length : Int) - 1)) : Int).toNat)).bind fun t299 => (some (t299 == (wrap64 ((y288.length : Int) - 1))))) else (none)) else (none)) else (none))))) else (none)))) else (none)) = some r := by first | (rw [hy285]; with_reducible exact H) | (have H2_ := (Option.bind_some _ _).symm.trans H; rw [hy285]; with_reducible exact H2_) | (have H2_ := (Option.bind_some _ _).symm.trans H; with_reducible exact H2_) | with_reducible exact H | (rw [hy285]; exact H) | exact H
                  have Ny285 := Aside0.mk hy285
                  clear hy285
                  by_cases c48 : y276.length + y285.length < 17592186044416
                  rotate_left
                  · rw [if_neg c48] at H
                    exact absurd H (by simp)
                  rw [if_pos c48] at H
                  have LMc48 := Aside0.mk c48
                  clear c48
                  obtain ⟨y288, hy288⟩ : ∃ y_ : List Int, y_ = (y276 ++ y285) := ⟨_, rfl⟩
                  replace H : ((balance_Right.f y288).bind fun t291 => (if t291 = true then ((balance_Depth.f y288).bind fun t292 => ((balance_Depth.f t248).bind fun t293 => ((balance_Depth.f t251).bind fun t294 => (if t292 = (mx t293 (wrap64 (1 + t294))) then (if 0 ≤ (wrap64 ((y288.length : Int) - 1)) then (if (wrap64 ((y288.length : Int) - 1)) ≤ (y288.length : Int) then ((balance_Wrong.f (y288.take ((wrap64 ((y288.length : Int) - 1)) : Int).toNat)).bind fun t299 => (some (t299 == (wrap64 ((y288.length : Int) - 1))))) else (none)) else (none)) else (none))))) else (none))) = some r := by first | (rw [hy288]; with_reducible exact H) | (have H2_ := (Option.bind_some _ _).symm.trans H; rw [hy288]; with_reducible exact H2_) | (have H2_ := (Option.bind_some _ _).symm.trans H; with_reducible exact H2_) | with_reducible exact H | (rw [hy288]; exact H) | exact H
                  have Ny288 := Aside0.mk hy288
                  clear hy288
                  replace H := Option.bind_eq_some_iff.mp H
                  obtain ⟨t291, A490, H⟩ := H
                  replace H : (if t291 = true then ((balance_Depth.f y288).bind fun t292 => ((balance_Depth.f t248).bind fun t293 => ((balance_Depth.f t251).bind fun t294 => (if t292 = (mx t293 (wrap64 (1 + t294))) then (if 0 ≤ (wrap64 ((y288.length : Int) - 1)) then (if (wrap64 ((y288.length : Int) - 1)) ≤ (y288.length : Int) then ((balance_Wrong.f (y288.take ((wrap64 ((y288.length : Int) - 1)) : Int).toNat)).bind fun t299 => (some (t299 == (wrap64 ((y288.length : Int) - 1))))) else (none)) else (none)) else (none))))) else (none)) = some r := H
                  have A49 := Aside0.mk A490
                  clear A490
                  by_cases c50 : t291 = true
                  rotate_left
                  · replace c50 := Bool.eq_false_iff.mpr c50
                    subst c50
                    have H1 : (none) = some r := by rw [if_neg (show ¬ (false = true) by decide)] at H; exact H
                    clear H
                    have H := H1
                    clear H1
                    exact absurd H (by simp)
                  subst c50
                  have H1 : ((balance_Depth.f y288).bind fun t292 => ((balance_Depth.f t248).bind fun t293 => ((balance_Depth.f t251).bind fun t294 => (if t292 = (mx t293 (wrap64 (1 + t294))) then (if 0 ≤ (wrap64 ((y288.length : Int) - 1)) then (if (wrap64 ((y288.length : Int) - 1)) ≤ (y288.length : Int) then ((balance_Wrong.f (y288.take ((wrap64 ((y288.length : Int) - 1)) : Int).toNat)).bind fun t299 => (some (t299 == (wrap64 ((y288.length : Int) - 1))))) else (none)) else (none)) else (none))))) = some r := by rw [if_pos rfl] at H; exact H
                  clear H
                  have H := H1
                  clear H1
                  replace H := Option.bind_eq_some_iff.mp H
                  obtain ⟨t292, A510, H⟩ := H
                  replace H : ((balance_Depth.f t248).bind fun t293 => ((balance_Depth.f t251).bind fun t294 => (if t292 = (mx t293 (wrap64 (1 + t294))) then (if 0 ≤ (wrap64 ((y288.length : Int) - 1)) then (if (wrap64 ((y288.length : Int) - 1)) ≤ (y288.length : Int) then ((balance_Wrong.f (y288.take ((wrap64 ((y288.length : Int) - 1)) : Int).toNat)).bind fun t299 => (some (t299 == (wrap64 ((y288.length : Int) - 1))))) else (none)) else (none)) else (none)))) = some r := H
                  have A51 := Aside0.mk A510
                  clear A510
                  replace H := Option.bind_eq_some_iff.mp H
                  obtain ⟨t293, A520, H⟩ := H
                  replace H : ((balance_Depth.f t251).bind fun t294 => (if t292 = (mx t293 (wrap64 (1 + t294))) then (if 0 ≤ (wrap64 ((y288.length : Int) - 1)) then (if (wrap64 ((y288.length : Int) - 1)) ≤ (y288.length : Int) then ((balance_Wrong.f (y288.take ((wrap64 ((y288.length : Int) - 1)) : Int).toNat)).bind fun t299 => (some (t299 == (wrap64 ((y288.length : Int) - 1))))) else (none)) else (none)) else (none))) = some r := H
                  have A52 := Aside0.mk A520
                  clear A520
                  replace H := Option.bind_eq_some_iff.mp H
                  obtain ⟨t294, A530, H⟩ := H
                  replace H : (if t292 = (mx t293 (wrap64 (1 + t294))) then (if 0 ≤ (wrap64 ((y288.length : Int) - 1)) then (if (wrap64 ((y288.length : Int) - 1)) ≤ (y288.length : Int) then ((balance_Wrong.f (y288.take ((wrap64 ((y288.length : Int) - 1)) : Int).toNat)).bind fun t299 => (some (t299 == (wrap64 ((y288.length : Int) - 1))))) else (none)) else (none)) else (none)) = some r := H
                  have A53 := Aside0.mk A530
                  clear A530
                  obtain ⟨ji54, hji54⟩ : ∃ j_ : Int, (mx t293 (wrap64 (1 + t294))) = j_ := ⟨_, rfl⟩
                  replace H : (if t292 = (ji54) then (if 0 ≤ (wrap64 ((y288.length : Int) - 1)) then (if (wrap64 ((y288.length : Int) - 1)) ≤ (y288.length : Int) then ((balance_Wrong.f (y288.take ((wrap64 ((y288.length : Int) - 1)) : Int).toNat)).bind fun t299 => (some (t299 == (wrap64 ((y288.length : Int) - 1))))) else (none)) else (none)) else (none)) = some r := by first | (rw [hji54] at H; exact H) | (simp only [hji54] at H ⊢; exact H)
                  (try rw [hji54] at A49)
                  (try rw [hji54] at A51)
                  (try rw [hji54] at A52)
                  (try rw [hji54] at A53)
                  have hji54_ : (if t293 < (wrap64 (1 + t294)) then (wrap64 (1 + t294)) else t293) = ji54 := hji54
                  by_cases c55 : t292 = (ji54)
                  rotate_left
                  · rw [if_neg c55] at H
                    exact absurd H (by simp)
                  rw [if_pos c55] at H
                  have c55b0 : (t292 == (ji54)) = true := beq_iff_eq.mpr c55
                  have c55b1 : (t292 != (ji54)) = false := bne_eq_false_iff_eq.mpr c55
                  clear c55
                  obtain ⟨ji56, hji56⟩ : ∃ j_ : Int, (wrap64 ((y288.length : Int) - 1)) = j_ := ⟨_, rfl⟩
                  replace H : (if 0 ≤ (ji56) then (if (ji56) ≤ (y288.length : Int) then ((balance_Wrong.f (y288.take ((ji56) : Int).toNat)).bind fun t299 => (some (t299 == (ji56)))) else (none)) else (none)) = some r := by first | (rw [hji56] at H; exact H) | (simp only [hji56] at H ⊢; exact H)
                  (try rw [hji56] at A49)
                  (try rw [hji56] at A51)
                  (try rw [hji56] at A52)
                  (try rw [hji56] at A53)
                  have hji56w : (IntKind.i64.wrap ((y288.length : Int) - 1)) = ji56 := (i64_w _).trans hji56
                  by_cases c57 : 0 ≤ (ji56)
                  rotate_left
                  · rw [if_neg c57] at H
                    exact absurd H (by simp)
                  rw [if_pos c57] at H
                  have c57b0 := eq_true c57
                  have c57b1 : decide (0 ≤ (ji56)) = true := decide_eq_true c57
                  clear c57
                  by_cases c58 : (ji56) ≤ (y288.length : Int)
                  rotate_left
                  · rw [if_neg c58] at H
                    exact absurd H (by simp)
                  rw [if_pos c58] at H
                  have c58b0 := eq_true c58
                  have c58b1 : decide ((ji56) ≤ (y288.length : Int)) = true := decide_eq_true c58
                  clear c58
                  obtain ⟨y295, hy295⟩ : ∃ y_ : List Int, y_ = (y288.take ((ji56) : Int).toNat) := ⟨_, rfl⟩
                  replace H : ((balance_Wrong.f y295).bind fun t299 => (some (t299 == (ji56)))) = some r := by first | (rw [hy295]; with_reducible exact H) | (have H2_ := (Option.bind_some _ _).symm.trans H; rw [hy295]; with_reducible exact H2_) | (have H2_ := (Option.bind_some _ _).symm.trans H; with_reducible exact H2_) | with_reducible exact H | (rw [hy295]; exact H) | exact H
                  have Ny295 := Aside0.mk hy295
                  clear hy295
                  replace H := Option.bind_eq_some_iff.mp H
                  obtain ⟨t299, A590, H⟩ := H
                  replace H : (some (t299 == (ji56))) = some r := H
                  have A59 := Aside0.mk A590
                  clear A590
                  obtain rfl := Option.some.inj H
                  go_wp2_with (first | ((with_reducible refine gate_dst (N := 66) rfl ?_); (try (refine gate_guard (by rfl) ?_; dsimp only)); refine Kd.R_lit (Kd.int .i64) _ 3 ?hg (N := 66) ?hd (xs := ([] : List Int)) (inner := []) (ok := fun _ => True) (okp := fun _ => True) ?hr ?hp (fun _ hk => hk) trivial (Below.refl _ _) (Nat.le_refl _) (by simp) ?_; (case hd => rfl); (case hg => rfl); (case hr => first | (go_simp; done) | (go_simp; rfl)); (case hp => exact (Reps.none _ _)); intro v271 w60 ho61 hb hg_ hnew_; clear hg_ hnew_; (first | rw [← Ny270.out] at ho61 | (simp only [Int.reduceToNat] at ho61; rw [← Ny270.out] at ho61)); have n0_ := Aside0.mk (Kd.R_elder' (by (with_reducible repeat (first | apply Kd.R_alloc | apply Kd.R_drewN | apply Kd.R_drew)); exact HO_7.out) (Kd.R_base ho61) hb); have n1_ := Aside0.mk (Kd.R_elder' (by (with_reducible repeat (first | apply Kd.R_alloc | apply Kd.R_drewN | apply Kd.R_drew)); exact HO_8.out) (Kd.R_base ho61) hb); have n2_ := Aside0.mk (Kd.R_lower (Kd.R_new' (Kd.R_new' ho61 (Kd.R_lt (by (with_reducible repeat (first | apply Kd.R_alloc | apply Kd.R_drewN | apply Kd.R_drew)); exact HO_7.out))) (Kd.R_lt (by (with_reducible repeat (first | apply Kd.R_alloc | apply Kd.R_drewN | apply Kd.R_drew)); exact HO_8.out))) (below_size (by repeat (first | (with_reducible first | exact HB.out | apply below_alloc | apply pw_below_drewN | apply below_drew1) | exact HB.out)))); have n3_ := Aside0.mk (below_step (by repeat (first | (with_reducible first | exact HB.out | apply below_alloc | apply pw_below_drewN | apply below_drew1) | exact HB.out)) hb); clear HO_7; clear HO_8; clear HB; have HO_7 := n0_; have HO_8 := n1_; have HO272 := n2_; have HB := n3_; clear n0_ n1_ n2_ n3_; clear hb ho61) | ((with_reducible refine gate_builtin (b := .append) (xs := #[.tmp 66, .tmp 67]) rfl ?_); (try (refine gate_guard (by rfl) ?_; dsimp only)); at_builtin; refine Kd.R_append_rows (Kd.int .i64) (w0 := w) w.heap.size rfl (.tmp 66) (.tmp 67) 22 3 (.int .i64 0) 8 rfl Try.underlying22 info3 rfl (by decide) (by omega) v271 y270 t248 _ _ _ (fun k_ => some k_ ≠ (.slice Ao20 t248.length co20 : Value).ownBlock ∧ some k_ ≠ (.slice Ao22 t251.length co22 : Value).ownBlock) (fun _ => False) rfl rfl ?aO ?aR (fun _ _ h => h) (fun _ h => h.elim) ?aF ?aB ?aS ?aL ?_; (case aR => repeat (first | exact (Kd.R_reads' HO_7.out).2.2 | (with_reducible refine Kd.C_alloc ?_ _) | (with_reducible refine Kd.C_drewN ?_ _) | (with_reducible refine Kd.C_drew ?_))); (case aB => exact (by repeat (first | (with_reducible first | exact HB.out | apply below_alloc | apply pw_below_drewN | apply below_drew1) | exact HB.out))); (case aF => exact (fun k_ hk => ⟨Kd.fresh' (Kd.R_lt (by (with_reducible repeat (first | apply Kd.R_alloc | apply Kd.R_drewN | apply Kd.R_drew)); exact HO_7.out)) k_ hk, Kd.fresh' (Kd.R_lt (by (with_reducible repeat (first | apply Kd.R_alloc | apply Kd.R_drewN | apply Kd.R_drew)); exact HO_8.out)) k_ hk⟩)); (case aO => exact (by (with_reducible repeat (first | apply Kd.R_alloc | apply Kd.R_drewN | apply Kd.R_drew)); exact Kd.R_mono HO272.out (fun _ hk => ⟨hk.1.2, hk.2⟩))); (case aS => exact (below_size (by repeat (first | (with_reducible first | exact HB.out | apply below_alloc | apply pw_below_drewN | apply below_drew1) | exact HB.out)))); (case aL => have := LMc44.out; omega); intro v274 w62 ho hb hg hat; rw [← Ny273.out] at ho; have n0_ := Aside0.mk (Kd.R_after (ok := (fun k_ => some k_ ≠ (.slice Ao22 t251.length co22 : Value).ownBlock)) (by (with_reducible repeat (first | apply Kd.R_alloc | apply Kd.R_drewN | apply Kd.R_drew)); exact HO_7.out) hg hat); have n1_ := Aside0.mk (Kd.R_after (ok := (fun k_ => some k_ ≠ (.slice Ao20 t248.length co20 : Value).ownBlock)) (by (with_reducible repeat (first | apply Kd.R_alloc | apply Kd.R_drewN | apply Kd.R_drew)); exact HO_8.out) hg hat); have n2_ := Aside0.mk (hb); have n3_ := Aside0.mk (ho); clear HO_7; clear HO_8; clear HB; clear HO272; have HO_7 := n0_; have HO_8 := n1_; have HB := n2_; have HO275 := n3_; clear n0_ n1_ n2_ n3_; clear ho hb hg hat) | ((with_reducible refine gate_builtin (b := .append) (xs := #[.tmp 68, .tmp 70]) rfl ?_); (try (refine gate_guard (by rfl) ?_; dsimp only)); at_builtin; refine Kd.R_append (Kd.int .i64) (w0 := w) w.heap.size rfl (.tmp 68) (.tmp 70) 22 3 (.int .i64 0) 8 rfl Try.underlying22 info3 rfl (by decide) (by omega) v274 y273 x11_41 [.int .i64 x11_41] (fun k_ => some k_ ≠ (.slice Ao20 t248.length co20 : Value).ownBlock ∧ some k_ ≠ (.slice Ao22 t251.length co22 : Value).ownBlock) (fun _ => False) rfl rfl ?aP (fun _ hk => hk.elim) ?aF ?aO ?aB ?aS ?aL ?_; (case aP => exact rfl); (case aB => exact (by repeat (first | (with_reducible first | exact HB.out | apply below_alloc | apply pw_below_drewN | apply below_drew1) | exact HB.out))); (case aF => exact (fun k_ hk => ⟨Kd.fresh' (Kd.R_lt (by (with_reducible repeat (first | apply Kd.R_alloc | apply Kd.R_drewN | apply Kd.R_drew)); exact HO_7.out)) k_ hk, Kd.fresh' (Kd.R_lt (by (with_reducible repeat (first | apply Kd.R_alloc | apply Kd.R_drewN | apply Kd.R_drew)); exact HO_8.out)) k_ hk⟩)); (case aO => exact (by (with_reducible repeat (first | apply Kd.R_alloc | apply Kd.R_drewN | apply Kd.R_drew)); exact HO275.out)); (case aS => exact (below_size (by repeat (first | (with_reducible first | exact HB.out | apply below_alloc | apply pw_below_drewN | apply below_drew1) | exact HB.out)))); (case aL => have := LMc45.out; omega); intro v277 w63 ho hb hg hat; rw [← Ny276.out] at ho; have n0_ := Aside0.mk (Kd.R_after (ok := (fun k_ => some k_ ≠ (.slice Ao22 t251.length co22 : Value).ownBlock)) (by (with_reducible repeat (first | apply Kd.R_alloc | apply Kd.R_drewN | apply Kd.R_drew)); exact HO_7.out) hg hat); have n1_ := Aside0.mk (Kd.R_after (ok := (fun k_ => some k_ ≠ (.slice Ao20 t248.length co20 : Value).ownBlock)) (by (with_reducible repeat (first | apply Kd.R_alloc | apply Kd.R_drewN | apply Kd.R_drew)); exact HO_8.out) hg hat); have n2_ := Aside0.mk (hb); have n3_ := Aside0.mk (ho); clear HO_7; clear HO_8; clear HB; clear HO275; have HO_7 := n0_; have HO_8 := n1_; have HB := n2_; have HO278 := n3_; clear n0_ n1_ n2_ n3_; clear ho hb hg hat) | ((with_reducible refine gate_dst (N := 72) rfl ?_); (try (refine gate_guard (by rfl) ?_; dsimp only)); refine Kd.R_lit (Kd.int .i64) _ 3 ?hg (N := 72) ?hd (xs := ([] : List Int)) (inner := []) (ok := fun _ => True) (okp := fun _ => True) ?hr ?hp (fun _ hk => hk) trivial (Below.refl _ _) (Nat.le_refl _) (by simp) ?_; (case hd => rfl); (case hg => rfl); (case hr => first | (go_simp; done) | (go_simp; rfl)); (case hp => exact (Reps.none _ _)); intro v280 w64 ho65 hb hg_ hnew_; clear hg_ hnew_; (first | rw [← Ny279.out] at ho65 | (simp only [Int.reduceToNat] at ho65; rw [← Ny279.out] at ho65)); have n0_ := Aside0.mk (Kd.R_elder' (by (with_reducible repeat (first | apply Kd.R_alloc | apply Kd.R_drewN | apply Kd.R_drew)); exact HO_7.out) (Kd.R_base ho65) hb); have n1_ := Aside0.mk (Kd.R_elder' (by (with_reducible repeat (first | apply Kd.R_alloc | apply Kd.R_drewN | apply Kd.R_drew)); exact HO_8.out) (Kd.R_base ho65) hb); have n2_ := Aside0.mk (Kd.R_elder' (by (with_reducible repeat (first | apply Kd.R_alloc | apply Kd.R_drewN | apply Kd.R_drew)); exact HO278.out) (Kd.R_base ho65) hb); have n3_ := Aside0.mk (Kd.R_lower (Kd.R_new' (Kd.R_new' (Kd.R_new' ho65 (Kd.R_lt (by (with_reducible repeat (first | apply Kd.R_alloc | apply Kd.R_drewN | apply Kd.R_drew)); exact HO_7.out))) (Kd.R_lt (by (with_reducible repeat (first | apply Kd.R_alloc | apply Kd.R_drewN | apply Kd.R_drew)); exact HO_8.out))) (Kd.R_lt (by (with_reducible repeat (first | apply Kd.R_alloc | apply Kd.R_drewN | apply Kd.R_drew)); exact HO278.out))) (below_size (by repeat (first | (with_reducible first | exact HB.out | apply below_alloc | apply pw_below_drewN | apply below_drew1) | exact HB.out)))); have n4_ := Aside0.mk (below_step (by repeat (first | (with_reducible first | exact HB.out | apply below_alloc | apply pw_below_drewN | apply below_drew1) | exact HB.out)) hb); clear HO_7; clear HO_8; clear HO278; clear HB; have HO_7 := n0_; have HO_8 := n1_; have HO278 := n2_; have HO281 := n3_; have HB := n4_; clear n0_ n1_ n2_ n3_ n4_; clear hb ho65) | ((with_reducible refine gate_builtin (b := .append) (xs := #[.tmp 72, .tmp 73]) rfl ?_); (try (refine gate_guard (by rfl) ?_; dsimp only)); at_builtin; refine Kd.R_append_rows (Kd.int .i64) (w0 := w) w.heap.size rfl (.tmp 72) (.tmp 73) 22 3 (.int .i64 0) 8 rfl Try.underlying22 info3 rfl (by decide) (by omega) v280 y279 t251 _ _ _ (fun k_ => some k_ ≠ (.slice Ao20 t248.length co20 : Value).ownBlock ∧ some k_ ≠ (.slice Ao22 t251.length co22 : Value).ownBlock ∧ some k_ ≠ (v277 : Value).ownBlock) (fun _ => False) rfl rfl ?aO ?aR (fun _ _ h => h) (fun _ h => h.elim) ?aF ?aB ?aS ?aL ?_; (case aR => repeat (first | exact (Kd.R_reads' HO_8.out).2.2 | (with_reducible refine Kd.C_alloc ?_ _) | (with_reducible refine Kd.C_drewN ?_ _) | (with_reducible refine Kd.C_drew ?_))); (case aB => exact (by repeat (first | (with_reducible first | exact HB.out | apply below_alloc | apply pw_below_drewN | apply below_drew1) | exact HB.out))); (case aF => exact (fun k_ hk => ⟨Kd.fresh' (Kd.R_lt (by (with_reducible repeat (first | apply Kd.R_alloc | apply Kd.R_drewN | apply Kd.R_drew)); exact HO_7.out)) k_ hk, Kd.fresh' (Kd.R_lt (by (with_reducible repeat (first | apply Kd.R_alloc | apply Kd.R_drewN | apply Kd.R_drew)); exact HO_8.out)) k_ hk, Kd.fresh' (Kd.R_lt (by (with_reducible repeat (first | apply Kd.R_alloc | apply Kd.R_drewN | apply Kd.R_drew)); exact HO278.out)) k_ hk⟩)); (case aO => exact (by (with_reducible repeat (first | apply Kd.R_alloc | apply Kd.R_drewN | apply Kd.R_drew)); exact Kd.R_mono HO281.out (fun _ hk => ⟨hk.1.1.2, ⟨hk.1.2, hk.2⟩⟩))); (case aS => exact (below_size (by repeat (first | (with_reducible first | exact HB.out | apply below_alloc | apply pw_below_drewN | apply below_drew1) | exact HB.out)))); (case aL => have := LMc46.out; omega); intro v283 w66 ho hb hg hat; rw [← Ny282.out] at ho; have n0_ := Aside0.mk (Kd.R_after (ok := (fun k_ => some k_ ≠ (.slice Ao22 t251.length co22 : Value).ownBlock ∧ some k_ ≠ (v277 : Value).ownBlock)) (by (with_reducible repeat (first | apply Kd.R_alloc | apply Kd.R_drewN | apply Kd.R_drew)); exact HO_7.out) hg hat); have n1_ := Aside0.mk (Kd.R_after (ok := (fun k_ => some k_ ≠ (.slice Ao20 t248.length co20 : Value).ownBlock ∧ some k_ ≠ (v277 : Value).ownBlock)) (by (with_reducible repeat (first | apply Kd.R_alloc | apply Kd.R_drewN | apply Kd.R_drew)); exact HO_8.out) hg hat); have n2_ := Aside0.mk (Kd.R_after (ok := (fun k_ => some k_ ≠ (.slice Ao20 t248.length co20 : Value).ownBlock ∧ some k_ ≠ (.slice Ao22 t251.length co22 : Value).ownBlock)) (by (with_reducible repeat (first | apply Kd.R_alloc | apply Kd.R_drewN | apply Kd.R_drew)); exact HO278.out) hg hat); have n3_ := Aside0.mk (hb); have n4_ := Aside0.mk (ho); clear HO_7; clear HO_8; clear HO278; clear HB; clear HO281; have HO_7 := n0_; have HO_8 := n1_; have HO278 := n2_; have HB := n3_; have HO284 := n4_; clear n0_ n1_ n2_ n3_ n4_; clear ho hb hg hat) | ((with_reducible refine gate_builtin (b := .append) (xs := #[.tmp 74, .tmp 76]) rfl ?_); (try (refine gate_guard (by rfl) ?_; dsimp only)); at_builtin; refine Kd.R_append (Kd.int .i64) (w0 := w) w.heap.size rfl (.tmp 74) (.tmp 76) 22 3 (.int .i64 0) 8 rfl Try.underlying22 info3 rfl (by decide) (by omega) v283 y282 x12_41 [.int .i64 x12_41] (fun k_ => some k_ ≠ (.slice Ao20 t248.length co20 : Value).ownBlock ∧ some k_ ≠ (.slice Ao22 t251.length co22 : Value).ownBlock ∧ some k_ ≠ (v277 : Value).ownBlock) (fun _ => False) rfl rfl ?aP (fun _ hk => hk.elim) ?aF ?aO ?aB ?aS ?aL ?_; (case aP => exact rfl); (case aB => exact (by repeat (first | (with_reducible first | exact HB.out | apply below_alloc | apply pw_below_drewN | apply below_drew1) | exact HB.out))); (case aF => exact (fun k_ hk => ⟨Kd.fresh' (Kd.R_lt (by (with_reducible repeat (first | apply Kd.R_alloc | apply Kd.R_drewN | apply Kd.R_drew)); exact HO_7.out)) k_ hk, Kd.fresh' (Kd.R_lt (by (with_reducible repeat (first | apply Kd.R_alloc | apply Kd.R_drewN | apply Kd.R_drew)); exact HO_8.out)) k_ hk, Kd.fresh' (Kd.R_lt (by (with_reducible repeat (first | apply Kd.R_alloc | apply Kd.R_drewN | apply Kd.R_drew)); exact HO278.out)) k_ hk⟩)); (case aO => exact (by (with_reducible repeat (first | apply Kd.R_alloc | apply Kd.R_drewN | apply Kd.R_drew)); exact HO284.out)); (case aS => exact (below_size (by repeat (first | (with_reducible first | exact HB.out | apply below_alloc | apply pw_below_drewN | apply below_drew1) | exact HB.out)))); (case aL => have := LMc47.out; omega); intro v286 w67 ho hb hg hat; rw [← Ny285.out] at ho; have n0_ := Aside0.mk (Kd.R_after (ok := (fun k_ => some k_ ≠ (.slice Ao22 t251.length co22 : Value).ownBlock ∧ some k_ ≠ (v277 : Value).ownBlock)) (by (with_reducible repeat (first | apply Kd.R_alloc | apply Kd.R_drewN | apply Kd.R_drew)); exact HO_7.out) hg hat); have n1_ := Aside0.mk (Kd.R_after (ok := (fun k_ => some k_ ≠ (.slice Ao20 t248.length co20 : Value).ownBlock ∧ some k_ ≠ (v277 : Value).ownBlock)) (by (with_reducible repeat (first | apply Kd.R_alloc | apply Kd.R_drewN | apply Kd.R_drew)); exact HO_8.out) hg hat); have n2_ := Aside0.mk (Kd.R_after (ok := (fun k_ => some k_ ≠ (.slice Ao20 t248.length co20 : Value).ownBlock ∧ some k_ ≠ (.slice Ao22 t251.length co22 : Value).ownBlock)) (by (with_reducible repeat (first | apply Kd.R_alloc | apply Kd.R_drewN | apply Kd.R_drew)); exact HO278.out) hg hat); have n3_ := Aside0.mk (hb); have n4_ := Aside0.mk (ho); clear HO_7; clear HO_8; clear HO278; clear HB; clear HO284; have HO_7 := n0_; have HO_8 := n1_; have HO278 := n2_; have HB := n3_; have HO287 := n4_; clear n0_ n1_ n2_ n3_ n4_; clear ho hb hg hat; obtain ⟨Ao69, co69, eo69⟩ := Kd.R_slice HO287.out; subst eo69) | ((with_reducible refine gate_builtin (b := .append) (xs := #[.tmp 71, .tmp 77]) rfl ?_); (try (refine gate_guard (by rfl) ?_; dsimp only)); at_builtin; refine Kd.R_append_rows (Kd.int .i64) (w0 := w) w.heap.size rfl (.tmp 71) (.tmp 77) 22 3 (.int .i64 0) 8 rfl Try.underlying22 info3 rfl (by decide) (by omega) v277 y276 y285 _ _ _ (fun k_ => some k_ ≠ (.slice Ao20 t248.length co20 : Value).ownBlock ∧ some k_ ≠ (.slice Ao22 t251.length co22 : Value).ownBlock ∧ some k_ ≠ (.slice Ao69 y285.length co69 : Value).ownBlock) (fun _ => False) rfl rfl ?aO ?aR (fun _ _ h => h) (fun _ h => h.elim) ?aF ?aB ?aS ?aL ?_; (case aR => repeat (first | exact (Kd.R_reads' HO287.out).2.2 | (with_reducible refine Kd.C_alloc ?_ _) | (with_reducible refine Kd.C_drewN ?_ _) | (with_reducible refine Kd.C_drew ?_))); (case aB => exact (by repeat (first | (with_reducible first | exact HB.out | apply below_alloc | apply pw_below_drewN | apply below_drew1) | exact HB.out))); (case aF => exact (fun k_ hk => ⟨Kd.fresh' (Kd.R_lt (by (with_reducible repeat (first | apply Kd.R_alloc | apply Kd.R_drewN | apply Kd.R_drew)); exact HO_7.out)) k_ hk, Kd.fresh' (Kd.R_lt (by (with_reducible repeat (first | apply Kd.R_alloc | apply Kd.R_drewN | apply Kd.R_drew)); exact HO_8.out)) k_ hk, Kd.fresh' (Kd.R_lt (by (with_reducible repeat (first | apply Kd.R_alloc | apply Kd.R_drewN | apply Kd.R_drew)); exact HO287.out)) k_ hk⟩)); (case aO => exact (by (with_reducible repeat (first | apply Kd.R_alloc | apply Kd.R_drewN | apply Kd.R_drew)); exact Kd.R_mono HO278.out (fun _ hk => ⟨hk.1.1, ⟨hk.1.2, hk.2⟩⟩))); (case aS => exact (below_size (by repeat (first | (with_reducible first | exact HB.out | apply below_alloc | apply pw_below_drewN | apply below_drew1) | exact HB.out)))); (case aL => have := LMc48.out; omega); intro v289 w68 ho hb hg hat; rw [← Ny288.out] at ho; have n0_ := Aside0.mk (Kd.R_after (ok := (fun k_ => some k_ ≠ (.slice Ao22 t251.length co22 : Value).ownBlock ∧ some k_ ≠ (.slice Ao69 y285.length co69 : Value).ownBlock)) (by (with_reducible repeat (first | apply Kd.R_alloc | apply Kd.R_drewN | apply Kd.R_drew)); exact Kd.R_mono HO_7.out (fun _ hk => ⟨⟨hk.1.1, hk.2⟩, hk.1.2⟩)) hg hat); have n1_ := Aside0.mk (Kd.R_after (ok := (fun k_ => some k_ ≠ (.slice Ao20 t248.length co20 : Value).ownBlock ∧ some k_ ≠ (.slice Ao69 y285.length co69 : Value).ownBlock)) (by (with_reducible repeat (first | apply Kd.R_alloc | apply Kd.R_drewN | apply Kd.R_drew)); exact Kd.R_mono HO_8.out (fun _ hk => ⟨⟨hk.1.1, hk.2⟩, hk.1.2⟩)) hg hat); have n2_ := Aside0.mk (Kd.R_after (ok := (fun k_ => some k_ ≠ (.slice Ao20 t248.length co20 : Value).ownBlock ∧ some k_ ≠ (.slice Ao22 t251.length co22 : Value).ownBlock)) (by (with_reducible repeat (first | apply Kd.R_alloc | apply Kd.R_drewN | apply Kd.R_drew)); exact Kd.R_mono HO287.out (fun _ hk => ⟨⟨hk.1, hk.2.1⟩, hk.2.2⟩)) hg hat); have n3_ := Aside0.mk (hb); have n4_ := Aside0.mk (ho); clear HO_7; clear HO_8; clear HO287; clear HB; clear HO278; have HO_7 := n0_; have HO_8 := n1_; have HO287 := n2_; have HB := n3_; have HO290 := n4_; clear n0_ n1_ n2_ n3_ n4_; clear ho hb hg hat; obtain ⟨Ao70, co70, eo70⟩ := Kd.R_slice HO290.out; subst eo70) | ((with_reducible refine gate_callee (f := 9) rfl ?_); refine goesL_ (some 80) rfl rfl Try.func9 (by kernel_rfl) rfl #[.slice Ao70 y288.length co70] rfl (by (try simp only [List.map_toArray, List.map_cons, List.map_nil]); first | done | rfl | (simp only [List.length_drop, List.length_take]; rfl)) ?_; (with_reducible refine (balance_Right.calls _ _ y288 true _ ?side1 ?side2 A49.out).mono ?_); (case side1 => repeat (first | exact (Kd.R_reads' HO290.out).2.2 | (with_reducible refine Kd.C_alloc ?_ _) | (with_reducible refine Kd.C_drewN ?_ _) | (with_reducible refine Kd.C_drew ?_))); (case side2 => exact (Kd.R_reads' HO290.out).2.1); rintro e w71 ⟨rfl, hb⟩; refine ⟨_, rfl, ?_⟩; have n0_ := Aside0.mk (Kd.R_below (by (with_reducible repeat (first | apply Kd.R_alloc | apply Kd.R_drewN | apply Kd.R_drew)); exact HO_7.out) hb); have n1_ := Aside0.mk (Kd.R_below (by (with_reducible repeat (first | apply Kd.R_alloc | apply Kd.R_drewN | apply Kd.R_drew)); exact HO_8.out) hb); have n2_ := Aside0.mk (Kd.R_below (by (with_reducible repeat (first | apply Kd.R_alloc | apply Kd.R_drewN | apply Kd.R_drew)); exact HO287.out) hb); have n3_ := Aside0.mk (Kd.R_below (by (with_reducible repeat (first | apply Kd.R_alloc | apply Kd.R_drewN | apply Kd.R_drew)); exact HO290.out) hb); have n4_ := Aside0.mk (below_step (by repeat (first | (with_reducible first | exact HB.out | apply below_alloc | apply pw_below_drewN | apply below_drew1) | exact HB.out)) hb); clear HO_7; clear HO_8; clear HO287; clear HO290; clear HB; have HO_7 := n0_; have HO_8 := n1_; have HO287 := n2_; have HO290 := n3_; have HB := n4_; clear n0_ n1_ n2_ n3_ n4_; (try clear hb); (try clear hb2); (try clear hk); (try clear hi)) | (go_at_call 16; (with_reducible refine (balance_Depth.calls _ _ y288 t292 _ ?side1 ?side2 A51.out).mono ?_); (case side1 => repeat (first | exact (Kd.R_reads' HO290.out).2.2 | (with_reducible refine Kd.C_alloc ?_ _) | (with_reducible refine Kd.C_drewN ?_ _) | (with_reducible refine Kd.C_drew ?_))); (case side2 => exact (Kd.R_reads' HO290.out).2.1); rintro e w72 ⟨rfl, hb⟩; have n0_ := Aside0.mk (Kd.R_below (by (with_reducible repeat (first | apply Kd.R_alloc | apply Kd.R_drewN | apply Kd.R_drew)); exact HO_7.out) hb); have n1_ := Aside0.mk (Kd.R_below (by (with_reducible repeat (first | apply Kd.R_alloc | apply Kd.R_drewN | apply Kd.R_drew)); exact HO_8.out) hb); have n2_ := Aside0.mk (Kd.R_below (by (with_reducible repeat (first | apply Kd.R_alloc | apply Kd.R_drewN | apply Kd.R_drew)); exact HO287.out) hb); have n3_ := Aside0.mk (Kd.R_below (by (with_reducible repeat (first | apply Kd.R_alloc | apply Kd.R_drewN | apply Kd.R_drew)); exact HO290.out) hb); have n4_ := Aside0.mk (below_step (by repeat (first | (with_reducible first | exact HB.out | apply below_alloc | apply pw_below_drewN | apply below_drew1) | exact HB.out)) hb); clear HO_7; clear HO_8; clear HO287; clear HO290; clear HB; have HO_7 := n0_; have HO_8 := n1_; have HO287 := n2_; have HO290 := n3_; have HB := n4_; clear n0_ n1_ n2_ n3_ n4_; (try clear hb); (try clear hb2); (try clear hk); (try clear hi)) | (go_at_call 16; (with_reducible refine (balance_Depth.calls _ _ t248 t293 _ ?side1 ?side2 A52.out).mono ?_); (case side1 => repeat (first | exact (Kd.R_reads' HO_7.out).2.2 | (with_reducible refine Kd.C_alloc ?_ _) | (with_reducible refine Kd.C_drewN ?_ _) | (with_reducible refine Kd.C_drew ?_))); (case side2 => exact (Kd.R_reads' HO_7.out).2.1); rintro e w73 ⟨rfl, hb⟩; have n0_ := Aside0.mk (Kd.R_below (by (with_reducible repeat (first | apply Kd.R_alloc | apply Kd.R_drewN | apply Kd.R_drew)); exact HO_7.out) hb); have n1_ := Aside0.mk (Kd.R_below (by (with_reducible repeat (first | apply Kd.R_alloc | apply Kd.R_drewN | apply Kd.R_drew)); exact HO_8.out) hb); have n2_ := Aside0.mk (Kd.R_below (by (with_reducible repeat (first | apply Kd.R_alloc | apply Kd.R_drewN | apply Kd.R_drew)); exact HO287.out) hb); have n3_ := Aside0.mk (Kd.R_below (by (with_reducible repeat (first | apply Kd.R_alloc | apply Kd.R_drewN | apply Kd.R_drew)); exact HO290.out) hb); have n4_ := Aside0.mk (below_step (by repeat (first | (with_reducible first | exact HB.out | apply below_alloc | apply pw_below_drewN | apply below_drew1) | exact HB.out)) hb); clear HO_7; clear HO_8; clear HO287; clear HO290; clear HB; have HO_7 := n0_; have HO_8 := n1_; have HO287 := n2_; have HO290 := n3_; have HB := n4_; clear n0_ n1_ n2_ n3_ n4_; (try clear hb); (try clear hb2); (try clear hk); (try clear hi)) | (go_at_call 16; (with_reducible refine (balance_Depth.calls _ _ t251 t294 _ ?side1 ?side2 A53.out).mono ?_); (case side1 => repeat (first | exact (Kd.R_reads' HO_8.out).2.2 | (with_reducible refine Kd.C_alloc ?_ _) | (with_reducible refine Kd.C_drewN ?_ _) | (with_reducible refine Kd.C_drew ?_))); (case side2 => exact (Kd.R_reads' HO_8.out).2.1); rintro e w74 ⟨rfl, hb⟩; have n0_ := Aside0.mk (Kd.R_below (by (with_reducible repeat (first | apply Kd.R_alloc | apply Kd.R_drewN | apply Kd.R_drew)); exact HO_7.out) hb); have n1_ := Aside0.mk (Kd.R_below (by (with_reducible repeat (first | apply Kd.R_alloc | apply Kd.R_drewN | apply Kd.R_drew)); exact HO_8.out) hb); have n2_ := Aside0.mk (Kd.R_below (by (with_reducible repeat (first | apply Kd.R_alloc | apply Kd.R_drewN | apply Kd.R_drew)); exact HO287.out) hb); have n3_ := Aside0.mk (Kd.R_below (by (with_reducible repeat (first | apply Kd.R_alloc | apply Kd.R_drewN | apply Kd.R_drew)); exact HO290.out) hb); have n4_ := Aside0.mk (below_step (by repeat (first | (with_reducible first | exact HB.out | apply below_alloc | apply pw_below_drewN | apply below_drew1) | exact HB.out)) hb); clear HO_7; clear HO_8; clear HO287; clear HO290; clear HB; have HO_7 := n0_; have HO_8 := n1_; have HO287 := n2_; have HO290 := n3_; have HB := n4_; clear n0_ n1_ n2_ n3_ n4_; (try clear hb); (try clear hb2); (try clear hk); (try clear hi); have q75 : ((ji56) : Int) ≤ ((y288.length : Int) : Int) := of_decide_eq_true (by first | (with_reducible assumption) | assumption); obtain ⟨i075, hi075, _, hsz75, _⟩ := info_parts info3; have hroom75 : y288.length ≤ co70 := (Kd.R_reads' HO290.out).2.1; have hC75 : Kd.C (Kd.int .i64) _ Ao70 y288.length y288 := (Kd.R_reads' HO290.out).2.2; have hcut75 := cut_to (P := Try.prog) 22 3 .i64 Try.underlying22 hi075 Ao70 y288.length co70 (ji56) (of_decide_eq_true (by first | (with_reducible assumption) | assumption)) q75 hroom75; have hr75 := Kd.C_take (m := ((ji56) : Int).toNat) hC75 (by omega); have hy75 : y295.length = ((ji56) : Int).toNat := (by rw [Ny295.out, List.length_take]; omega); rw [← Ny295.out] at hr75; rw [← hy75] at hcut75; have HR298 := Aside0.mk hr75; have HC298 := Aside0.mk (show y295.length ≤ co70 from by omega); clear hr75 hC75 hroom75 hi075 hsz75; have KY75 := Aside0.mk hy75; clear hy75; have KL75 := Aside0.mk (show ((ji56) : Int).toNat ≤ y288.length from by omega); replace q75 := eq_true q75) | (go_at_call 11; (with_reducible refine (balance_Wrong.calls _ _ y295 t299 _ ?side1 ?side2 A59.out).mono ?_); (case side1 => repeat (first | exact (by repeat (first | (with_reducible exact HR298.out) | (with_reducible refine Kd.C_alloc ?_ _) | (with_reducible refine Kd.C_drewN ?_ _) | (with_reducible refine Kd.C_drew ?_) | exact HR298.out)) | (with_reducible refine Kd.C_alloc ?_ _) | (with_reducible refine Kd.C_drewN ?_ _) | (with_reducible refine Kd.C_drew ?_))); (case side2 => exact HC298.out); rintro e w76 ⟨rfl, hb⟩; have n0_ := Aside0.mk (Kd.R_below (by (with_reducible repeat (first | apply Kd.R_alloc | apply Kd.R_drewN | apply Kd.R_drew)); exact HO_7.out) hb); have n1_ := Aside0.mk (Kd.R_below (by (with_reducible repeat (first | apply Kd.R_alloc | apply Kd.R_drewN | apply Kd.R_drew)); exact HO_8.out) hb); have n2_ := Aside0.mk (Kd.R_below (by (with_reducible repeat (first | apply Kd.R_alloc | apply Kd.R_drewN | apply Kd.R_drew)); exact HO287.out) hb); have n3_ := Aside0.mk (Kd.R_below (by (with_reducible repeat (first | apply Kd.R_alloc | apply Kd.R_drewN | apply Kd.R_drew)); exact HO290.out) hb); have n4_ := Aside0.mk (Kd.C_below (by repeat (first | (with_reducible exact HR298.out) | (with_reducible refine Kd.C_alloc ?_ _) | (with_reducible refine Kd.C_drewN ?_ _) | (with_reducible refine Kd.C_drew ?_) | exact HR298.out)) hb); have n5_ := Aside0.mk (below_step (by repeat (first | (with_reducible first | exact HB.out | apply below_alloc | apply pw_below_drewN | apply below_drew1) | exact HB.out)) hb); clear HO_7; clear HO_8; clear HO287; clear HO290; clear HR298; clear HB; have HO_7 := n0_; have HO_8 := n1_; have HO287 := n2_; have HO290 := n3_; have HR298 := n4_; have HB := n5_; clear n0_ n1_ n2_ n3_ n4_ n5_; (try clear hb); (try clear hb2); (try clear hk); (try clear hi)))
                  go_ret
                  exact ⟨by first | rfl | (simp [errW_none, errW_some] <;> rfl) | (simp only [← hji54, ← hji56]; first | rfl | (simp [errW_none, errW_some] <;> rfl)) | (simp [*, errW_none, errW_some] <;> rfl), by repeat (first | (with_reducible first | exact HB.out | apply below_alloc | apply pw_below_drewN | apply below_drew1) | exact HB.out)⟩

/-- THE ONE PURE STATEMENT of ductuslaw26_BalanceJoins: yours. -/
def ductuslaw26_BalanceJoins.Pure : Prop := ∀ (l0 : List Int) (l1 : List Int) (a2 : Int), l0.length ≤ maxLen → l0.length * 8 ≤ 140737488351232 → (∀ x ∈ l0, (Lit.int .i64 x).wf = true) → l1.length ≤ maxLen → l1.length * 8 ≤ 140737488351232 → (∀ x ∈ l1, (Lit.int .i64 x).wf = true) → (Lit.int .u8 a2).wf = true → ∃ k, ductuslaw26_BalanceJoins.f k l0 l1 a2 = some true
theorem ductuslaw26_BalanceJoins.walk (P : ductuslaw26_BalanceJoins.Pure) (a0 : Option Addr) (len0 cap0 : Nat) (z0 : List Int) (a1 : Option Addr) (len1 cap1 : Nat) (z1 : List Int) (a2 : Int) (w : World) (w0 : (a0 = none ∧ len0 = 0 ∧ cap0 = 0 ∧ z0 = []) ∨ ∃ x, a0 = some x ∧ len0 ≤ cap0 ∧ cap0 ≤ maxLen ∧ z0.length = cap0 ∧ (∀ i, i < z0.length → w.cell? (x.add i) = some (.int .i64 (z0.getD i 0))) ∧ ∀ n ∈ z0, (Lit.int .i64 n).wf = true) (y0 : len0 * 8 ≤ 140737488351232) (w1 : (a1 = none ∧ len1 = 0 ∧ cap1 = 0 ∧ z1 = []) ∨ ∃ x, a1 = some x ∧ len1 ≤ cap1 ∧ cap1 ≤ maxLen ∧ z1.length = cap1 ∧ (∀ i, i < z1.length → w.cell? (x.add i) = some (.int .i64 (z1.getD i 0))) ∧ ∀ n ∈ z1, (Lit.int .i64 n).wf = true) (y1 : len1 * 8 ≤ 140737488351232) (w2 : (Lit.int .u8 a2).wf = true) :
    Calls Try.prog 4 #[.slice a0 len0 cap0, .slice a1 len1 cap1, .int .u8 a2] w fun e w' => e = .returned (.bool true) ∧ Below w.heap.size w w' := by
  obtain ⟨l0, rfl, hr0, hm0, hw0, hc0⟩ := ReadsInt.ofRowC w0
  obtain ⟨l1, rfl, hr1, hm1, hw1, hc1⟩ := ReadsInt.ofRowC w1
  obtain ⟨k, h⟩ := P l0 l1 a2 hm0 y0 hw0 hm1 y1 hw1 w2
  refine (ductuslaw26_BalanceJoins.calls k _ _ l0 _ _ l1 a2 true w (Kd.C_of_reads (d := (0 : Int)) (h1 := fun _ => rfl) hr0) hc0 (Kd.C_of_reads (d := (0 : Int)) (h1 := fun _ => rfl) hr1) hc1 h).mono ?_
  rintro e w' ⟨rfl, hd⟩
  exact ⟨rfl, hd⟩

end Go.Proofs.Ytpgpckglgkichaa.P
