/- Printed by a program of this claim's own over the translation: Lean functions of the Go functions, each with its proof; no condition beyond those written. -/
import Derived.Test.YtcmcajjdcbkfkaaPx0
import Derived.Test.YtcmcajjdcbkfkaaPx2
import Derived.Test.YtcmcajjdcbkfkaaPx3
import Derived.Test.YtcmcajjdcbkfkaaPx5
import Derived.Test.YtcmcajjdcbkfkaaSRight
namespace Go.Proofs.Ytcmcajjdcbkfkaa.P
open Go.RowKit Go.Proofs.YtcmcajjdcbkfkaaW.PrintWords Go.Proofs.YtcmcajjdcbkfkaaW.PrintLast Go.Proofs.YtcmcajjdcbkfkaaW.PrintMore
attribute [local go_sem] max2_int min2_int max_two min_two max_three min_three max_four min_four   -- for this text's walks alone
set_option linter.unusedVariables false
set_option linter.unusedSimpArgs false

/-! ### ductuslaw14_OrderOnce: function 4 -/
mutual
def ductuslaw14_OrderOnce.j0 : Nat → List Int → List Int → Bool → Option (Bool)
  | 0, _, _, _ => none
  | k + 1, x0, x3, x24 => if x24 = true then (none) else ((order_Back.f k x3).bind fun bt330 => (if bt330.2 = 0 then (ductuslaw14_OrderOnce.j1 k x0 x3 bt330.1 ((bt330.1.length : Int) != (x3.length : Int))) else (none)))
def ductuslaw14_OrderOnce.j1 : Nat → List Int → List Int → List Int → Bool → Option (Bool)
  | 0, _, _, _, _ => none
  | k + 1, x0, x3, x4, x38 => if x38 = true then (none) else (ductuslaw14_OrderOnce.l0 k x0 x3 x4 0)
def ductuslaw14_OrderOnce.l0 : Nat → List Int → List Int → List Int → Int → Option (Bool)
  | 0, _, _, _, _ => none
  | k + 1, x0, x3, x4, x6 => if x6 < (x3.length : Int) then (if 0 ≤ x6 then (if 0 ≤ (rd x3 x6) then (if (rd x3 x6) < (x4.length : Int) then (if (rd x4 (rd x3 x6)) = x6 then (if x6 > 0 then (if x6 < (x0.length : Int) then (if 0 ≤ (wrap64 (x6 - 1)) then (if (wrap64 (x6 - 1)) < (x0.length : Int) then (ductuslaw14_OrderOnce.j3 k x0 x3 x4 x6 ((rd x0 x6) == (rd x0 (wrap64 (x6 - 1))))) else (none)) else (none)) else (none)) else (ductuslaw14_OrderOnce.j3 k x0 x3 x4 x6 false)) else (none)) else (none)) else (none)) else (none)) else (some true)
def ductuslaw14_OrderOnce.j3 : Nat → List Int → List Int → List Int → Int → Bool → Option (Bool)
  | 0, _, _, _, _, _ => none
  | k + 1, x0, x3, x4, x6, x67 => if x67 = true then (if 0 ≤ x6 then (if x6 < (x0.length : Int) then (if ((mn 127 (mx 0 (rd x0 x6))) % 2) = 1 then (if x6 < (x4.length : Int) then (if 0 ≤ (wrap64 (x6 - 1)) then (if (wrap64 (x6 - 1)) < (x4.length : Int) then (if (wrap64 ((rd x4 x6) - (rd x4 (wrap64 (x6 - 1))))) = (-1) then (ductuslaw14_OrderOnce.l0 k x0 x3 x4 (wrap64 (x6 + 1))) else (none)) else (none)) else (none)) else (none)) else (if x6 < (x4.length : Int) then (if 0 ≤ (wrap64 (x6 - 1)) then (if (wrap64 (x6 - 1)) < (x4.length : Int) then (if (wrap64 ((rd x4 x6) - (rd x4 (wrap64 (x6 - 1))))) = 1 then (ductuslaw14_OrderOnce.l0 k x0 x3 x4 (wrap64 (x6 + 1))) else (none)) else (none)) else (none)) else (none))) else (none)) else (none)) else (ductuslaw14_OrderOnce.l0 k x0 x3 x4 (wrap64 (x6 + 1)))
end
def ductuslaw14_OrderOnce.f (k : Nat) (l0 : List Int) : Option (Bool) := (ductuslaw14_alive.f k).bind fun t325 => (if t325 = true then (if (l0.length : Int) > 200 then (some true) else ((order_Of.f k l0).bind fun t326 => (if (t326.length : Int) = (l0.length : Int) then ((order_Right.f t326).bind fun t329 => (ductuslaw14_OrderOnce.j0 k l0 t326 (!t329))) else (none)))) else (none))
theorem ductuslaw14_OrderOnce.mono_l : ∀ k, (∀ y0 y1 y2, LeO (ductuslaw14_OrderOnce.j0 k y0 y1 y2) (ductuslaw14_OrderOnce.j0 (k + 1) y0 y1 y2)) ∧ (∀ y0 y1 y2 y3, LeO (ductuslaw14_OrderOnce.j1 k y0 y1 y2 y3) (ductuslaw14_OrderOnce.j1 (k + 1) y0 y1 y2 y3)) ∧ (∀ y0 y1 y2 y3, LeO (ductuslaw14_OrderOnce.l0 k y0 y1 y2 y3) (ductuslaw14_OrderOnce.l0 (k + 1) y0 y1 y2 y3)) ∧ (∀ y0 y1 y2 y3 y4, LeO (ductuslaw14_OrderOnce.j3 k y0 y1 y2 y3 y4) (ductuslaw14_OrderOnce.j3 (k + 1) y0 y1 y2 y3 y4))
  | 0 => ⟨fun _ _ _ r h => by simp [ductuslaw14_OrderOnce.j0] at h, fun _ _ _ _ r h => by simp [ductuslaw14_OrderOnce.j1] at h, fun _ _ _ _ r h => by simp [ductuslaw14_OrderOnce.l0] at h, fun _ _ _ _ _ r h => by simp [ductuslaw14_OrderOnce.j3] at h⟩
  | k + 1 => by
    obtain ⟨ih0, ih1, ih2, ih3⟩ := ductuslaw14_OrderOnce.mono_l k
    refine ⟨?_, ?_, ?_, ?_⟩
    · intro y0 y1 y2
      unfold ductuslaw14_OrderOnce.j0
      repeat' first
      | (with_reducible exact ih0 _ _ _)
      | (with_reducible exact ih1 _ _ _ _)
      | (with_reducible exact ih2 _ _ _ _)
      | (with_reducible exact ih3 _ _ _ _ _)
      | (with_reducible exact ductuslaw14_alive.mono _)
      | (with_reducible exact order_Back.mono _ _)
      | (with_reducible exact order_Of.mono _ _)
      | (with_reducible exact LeO.refl _)
      | (with_reducible exact LeO.none _)
      | (with_reducible refine LeO.ite ?_ ?_)
      | (with_reducible refine LeO.bind ?_ (fun _ => ?_))
      | exact ih0 _ _ _
      | exact ih1 _ _ _ _
      | exact ih2 _ _ _ _
      | exact ih3 _ _ _ _ _
      | exact ductuslaw14_alive.mono _
      | exact order_Back.mono _ _
      | exact order_Of.mono _ _
      | exact LeO.none _
      | refine LeO.ite ?_ ?_
      | refine LeO.bind ?_ (fun _ => ?_)
    · intro y0 y1 y2 y3
      unfold ductuslaw14_OrderOnce.j1
      repeat' first
      | (with_reducible exact ih0 _ _ _)
      | (with_reducible exact ih1 _ _ _ _)
      | (with_reducible exact ih2 _ _ _ _)
      | (with_reducible exact ih3 _ _ _ _ _)
      | (with_reducible exact ductuslaw14_alive.mono _)
      | (with_reducible exact order_Back.mono _ _)
      | (with_reducible exact order_Of.mono _ _)
      | (with_reducible exact LeO.refl _)
      | (with_reducible exact LeO.none _)
      | (with_reducible refine LeO.ite ?_ ?_)
      | (with_reducible refine LeO.bind ?_ (fun _ => ?_))
      | exact ih0 _ _ _
      | exact ih1 _ _ _ _
      | exact ih2 _ _ _ _
      | exact ih3 _ _ _ _ _
      | exact ductuslaw14_alive.mono _
      | exact order_Back.mono _ _
      | exact order_Of.mono _ _
      | exact LeO.none _
      | refine LeO.ite ?_ ?_
      | refine LeO.bind ?_ (fun _ => ?_)
    · intro y0 y1 y2 y3
      unfold ductuslaw14_OrderOnce.l0
      repeat' first
      | (with_reducible exact ih0 _ _ _)
      | (with_reducible exact ih1 _ _ _ _)
      | (with_reducible exact ih2 _ _ _ _)
      | (with_reducible exact ih3 _ _ _ _ _)
      | (with_reducible exact ductuslaw14_alive.mono _)
      | (with_reducible exact order_Back.mono _ _)
      | (with_reducible exact order_Of.mono _ _)
      | (with_reducible exact LeO.refl _)
      | (with_reducible exact LeO.none _)
      | (with_reducible refine LeO.ite ?_ ?_)
      | (with_reducible refine LeO.bind ?_ (fun _ => ?_))
      | exact ih0 _ _ _
      | exact ih1 _ _ _ _
      | exact ih2 _ _ _ _
      | exact ih3 _ _ _ _ _
      | exact ductuslaw14_alive.mono _
      | exact order_Back.mono _ _
      | exact order_Of.mono _ _
      | exact LeO.none _
      | refine LeO.ite ?_ ?_
      | refine LeO.bind ?_ (fun _ => ?_)
    · intro y0 y1 y2 y3 y4
      unfold ductuslaw14_OrderOnce.j3
      repeat' first
      | (with_reducible exact ih0 _ _ _)
      | (with_reducible exact ih1 _ _ _ _)
      | (with_reducible exact ih2 _ _ _ _)
      | (with_reducible exact ih3 _ _ _ _ _)
      | (with_reducible exact ductuslaw14_alive.mono _)
      | (with_reducible exact order_Back.mono _ _)
      | (with_reducible exact order_Of.mono _ _)
      | (with_reducible exact LeO.refl _)
      | (with_reducible exact LeO.none _)
      | (with_reducible refine LeO.ite ?_ ?_)
      | (with_reducible refine LeO.bind ?_ (fun _ => ?_))
      | exact ih0 _ _ _
      | exact ih1 _ _ _ _
      | exact ih2 _ _ _ _
      | exact ih3 _ _ _ _ _
      | exact ductuslaw14_alive.mono _
      | exact order_Back.mono _ _
      | exact order_Of.mono _ _
      | exact LeO.none _
      | refine LeO.ite ?_ ?_
      | refine LeO.bind ?_ (fun _ => ?_)
theorem ductuslaw14_OrderOnce.mono : ∀ a0 k, LeO (ductuslaw14_OrderOnce.f k a0) (ductuslaw14_OrderOnce.f (k + 1) a0) := by
  intro a0 k
  obtain ⟨ih0, ih1, ih2, ih3⟩ := ductuslaw14_OrderOnce.mono_l k
  unfold ductuslaw14_OrderOnce.f
  repeat' first
      | (with_reducible exact ih0 _ _ _)
      | (with_reducible exact ih1 _ _ _ _)
      | (with_reducible exact ih2 _ _ _ _)
      | (with_reducible exact ih3 _ _ _ _ _)
      | (with_reducible exact ductuslaw14_alive.mono _)
      | (with_reducible exact order_Back.mono _ _)
      | (with_reducible exact order_Of.mono _ _)
      | (with_reducible exact LeO.refl _)
      | (with_reducible exact LeO.none _)
      | (with_reducible refine LeO.ite ?_ ?_)
      | (with_reducible refine LeO.bind ?_ (fun _ => ?_))
      | exact ih0 _ _ _
      | exact ih1 _ _ _ _
      | exact ih2 _ _ _ _
      | exact ih3 _ _ _ _ _
      | exact ductuslaw14_alive.mono _
      | exact order_Back.mono _ _
      | exact order_Of.mono _ _
      | exact LeO.none _
      | refine LeO.ite ?_ ?_
      | refine LeO.bind ?_ (fun _ => ?_)
set_option maxHeartbeats 8000000 in
set_option maxRecDepth 100000 in
theorem ductuslaw14_OrderOnce.calls (k : Nat) (A0 : Option Addr) (c0 : Nat) (l0 : List Int) (r : Bool) (w : World) (hr0 : Kd.C (Kd.int .i64) w A0 l0.length l0) (hc0 : l0.length ≤ c0) (h : ductuslaw14_OrderOnce.f k l0 = some r) :
    Calls Try.prog 4 #[.slice A0 l0.length c0] w fun e w' => e = .returned (.bool r) ∧ Below w.heap.size w w' := by
  have HR0 := Aside0.mk hr0
  have HC0 := Aside0.mk hc0
  clear hr0 hc0
  have HB := Aside0.mk (Below.refl w.heap.size w)
  have H : ((ductuslaw14_alive.f k).bind fun t325 => (if t325 = true then (if (l0.length : Int) > 200 then (some true) else ((order_Of.f k l0).bind fun t326 => (if (t326.length : Int) = (l0.length : Int) then ((order_Right.f t326).bind fun t329 => (ductuslaw14_OrderOnce.j0 k l0 t326 (!t329))) else (none)))) else (none))) = some r := h
  clear h
  replace H := Option.bind_eq_some_iff.mp H
  obtain ⟨t325, A20, H⟩ := H
  replace H : (if t325 = true then (if (l0.length : Int) > 200 then (some true) else ((order_Of.f k l0).bind fun t326 => (if (t326.length : Int) = (l0.length : Int) then ((order_Right.f t326).bind fun t329 => (ductuslaw14_OrderOnce.j0 k l0 t326 (!t329))) else (none)))) else (none)) = some r := H
  have A2 := Aside0.mk A20
  clear A20
  by_cases c3 : t325 = true
  rotate_left
  · replace c3 := Bool.eq_false_iff.mpr c3
    subst c3
    have H1 : (none) = some r := by rw [if_neg (show ¬ (false = true) by decide)] at H; exact H
    clear H
    have H := H1
    clear H1
    exact absurd H (by simp)
  subst c3
  have H1 : (if (l0.length : Int) > 200 then (some true) else ((order_Of.f k l0).bind fun t326 => (if (t326.length : Int) = (l0.length : Int) then ((order_Right.f t326).bind fun t329 => (ductuslaw14_OrderOnce.j0 k l0 t326 (!t329))) else (none)))) = some r := by rw [if_pos rfl] at H; exact H
  clear H
  have H := H1
  clear H1
  by_cases c4 : (l0.length : Int) > 200
  · rw [if_pos c4] at H
    have c4b0 : decide (200 < (l0.length : Int)) = true := decide_eq_true c4
    have c4b1 : decide (200 < l0.length) = true := decide_eq_true (by omega)
    clear c4
    obtain rfl := Option.some.inj H
    go_enter Try.func4, Try.ntmps4
    go_wp2_with (first | (go_at_call 7; (with_reducible refine (ductuslaw14_alive.calls k  true _ A2.out).mono ?_); rintro e w5 ⟨rfl, hb⟩; have n0_ := Aside0.mk (below_step (by repeat (first | (with_reducible first | exact HB.out | apply below_alloc | apply pw_below_drewN | apply below_drew1) | exact HB.out)) hb); clear HB; have HB := n0_; clear n0_; (try clear hb); (try clear hb2); (try clear hk); (try clear hi)))
    repeat (go_quiet (first | (go_at_call 7; (with_reducible refine (ductuslaw14_alive.calls k  true _ A2.out).mono ?_); rintro e w5 ⟨rfl, hb⟩; have n0_ := Aside0.mk (below_step (by repeat (first | (with_reducible first | exact HB.out | apply below_alloc | apply pw_below_drewN | apply below_drew1) | exact HB.out)) hb); clear HB; have HB := n0_; clear n0_; (try clear hb); (try clear hb2); (try clear hk); (try clear hi))); try go_wp2_with (first | (go_at_call 7; (with_reducible refine (ductuslaw14_alive.calls k  true _ A2.out).mono ?_); rintro e w5 ⟨rfl, hb⟩; have n0_ := Aside0.mk (below_step (by repeat (first | (with_reducible first | exact HB.out | apply below_alloc | apply pw_below_drewN | apply below_drew1) | exact HB.out)) hb); clear HB; have HB := n0_; clear n0_; (try clear hb); (try clear hb2); (try clear hk); (try clear hi))))
    go_ret
    exact ⟨by first | rfl | (simp [errW_none, errW_some] <;> rfl) | (simp [*, errW_none, errW_some] <;> rfl), by repeat (first | (with_reducible first | exact HB.out | apply below_alloc | apply pw_below_drewN | apply below_drew1) | exact HB.out)⟩
  rw [if_neg c4] at H
  have c4b0 : decide (200 < (l0.length : Int)) = false := decide_eq_false c4
  have c4b1 : decide (200 < l0.length) = false := decide_eq_false (by omega)
  clear c4
  replace H := Option.bind_eq_some_iff.mp H
  obtain ⟨t326, A60, H⟩ := H
  replace H : (if (t326.length : Int) = (l0.length : Int) then ((order_Right.f t326).bind fun t329 => (ductuslaw14_OrderOnce.j0 k l0 t326 (!t329))) else (none)) = some r := H
  have A6 := Aside0.mk A60
  clear A60
  have HC7 := Aside0.mk H
  clear H
  go_enter Try.func4, Try.ntmps4
  go_upto_region 6 with (first | (go_at_call 7; (with_reducible refine (ductuslaw14_alive.calls k  true _ A2.out).mono ?_); rintro e w8 ⟨rfl, hb⟩; have n0_ := Aside0.mk (below_step (by repeat (first | (with_reducible first | exact HB.out | apply below_alloc | apply pw_below_drewN | apply below_drew1) | exact HB.out)) hb); clear HB; have HB := n0_; clear n0_; (try clear hb); (try clear hb2); (try clear hk); (try clear hi)) | (go_at_call 11; (with_reducible refine (order_Of.calls k _ _ l0 t326 _ ?side1 ?side2 A6.out).mono ?_); (case side1 => repeat (first | exact (Kd.C_below HR0.out HB.out) | (with_reducible refine Kd.C_alloc ?_ _) | (with_reducible refine Kd.C_drewN ?_ _) | (with_reducible refine Kd.C_drew ?_))); (case side2 => exact HC0.out); rintro e w9 ⟨v327, rfl, ho0, hb⟩; have n0_ := Aside0.mk (Kd.R_lower ho0 (below_size (by repeat (first | (with_reducible first | exact HB.out | apply below_alloc | apply pw_below_drewN | apply below_drew1) | exact HB.out)))); have n1_ := Aside0.mk (below_step (by repeat (first | (with_reducible first | exact HB.out | apply below_alloc | apply pw_below_drewN | apply below_drew1) | exact HB.out)) hb); clear HB; have HO328 := n0_; have HB := n1_; clear n0_ n1_; (try clear hb); (try clear hb2); (try clear hk); (try clear hi); (try clear ho0)))
  repeat (go_quiet (first | (go_at_call 7; (with_reducible refine (ductuslaw14_alive.calls k  true _ A2.out).mono ?_); rintro e w8 ⟨rfl, hb⟩; have n0_ := Aside0.mk (below_step (by repeat (first | (with_reducible first | exact HB.out | apply below_alloc | apply pw_below_drewN | apply below_drew1) | exact HB.out)) hb); clear HB; have HB := n0_; clear n0_; (try clear hb); (try clear hb2); (try clear hk); (try clear hi)) | (go_at_call 11; (with_reducible refine (order_Of.calls k _ _ l0 t326 _ ?side1 ?side2 A6.out).mono ?_); (case side1 => repeat (first | exact (Kd.C_below HR0.out HB.out) | (with_reducible refine Kd.C_alloc ?_ _) | (with_reducible refine Kd.C_drewN ?_ _) | (with_reducible refine Kd.C_drew ?_))); (case side2 => exact HC0.out); rintro e w9 ⟨v327, rfl, ho0, hb⟩; have n0_ := Aside0.mk (Kd.R_lower ho0 (below_size (by repeat (first | (with_reducible first | exact HB.out | apply below_alloc | apply pw_below_drewN | apply below_drew1) | exact HB.out)))); have n1_ := Aside0.mk (below_step (by repeat (first | (with_reducible first | exact HB.out | apply below_alloc | apply pw_below_drewN | apply below_drew1) | exact HB.out)) hb); clear HB; have HO328 := n0_; have HB := n1_; clear n0_ n1_; (try clear hb); (try clear hb2); (try clear hk); (try clear hi); (try clear ho0))); go_upto_region 6 with (first | (go_at_call 7; (with_reducible refine (ductuslaw14_alive.calls k  true _ A2.out).mono ?_); rintro e w8 ⟨rfl, hb⟩; have n0_ := Aside0.mk (below_step (by repeat (first | (with_reducible first | exact HB.out | apply below_alloc | apply pw_below_drewN | apply below_drew1) | exact HB.out)) hb); clear HB; have HB := n0_; clear n0_; (try clear hb); (try clear hb2); (try clear hk); (try clear hi)) | (go_at_call 11; (with_reducible refine (order_Of.calls k _ _ l0 t326 _ ?side1 ?side2 A6.out).mono ?_); (case side1 => repeat (first | exact (Kd.C_below HR0.out HB.out) | (with_reducible refine Kd.C_alloc ?_ _) | (with_reducible refine Kd.C_drewN ?_ _) | (with_reducible refine Kd.C_drew ?_))); (case side2 => exact HC0.out); rintro e w9 ⟨v327, rfl, ho0, hb⟩; have n0_ := Aside0.mk (Kd.R_lower ho0 (below_size (by repeat (first | (with_reducible first | exact HB.out | apply below_alloc | apply pw_below_drewN | apply below_drew1) | exact HB.out)))); have n1_ := Aside0.mk (below_step (by repeat (first | (with_reducible first | exact HB.out | apply below_alloc | apply pw_below_drewN | apply below_drew1) | exact HB.out)) hb); clear HB; have HO328 := n0_; have HB := n1_; clear n0_ n1_; (try clear hb); (try clear hb2); (try clear hk); (try clear hi); (try clear ho0))))
  (try simp only [Act.put, List.setIfInBounds_toArray, List.set_cons_zero, List.set_cons_succ])
  go_cut [24] (fun v24 wc => ∃ (kq : Nat) (x24_6 : Bool), v24 = .bool x24_6 ∧ Aside0 (ductuslaw14_OrderOnce.j0 kq l0 t326 x24_6 = some r) ∧ Aside0 (kq ≤ k) ∧ Aside0 (Kd.R (Kd.int .i64) 3 wc w.heap.size (fun _ => True) v327 t326) ∧ Aside0 (Below w.heap.size w wc))
  case first =>
    have H := HC7.out
    clear HC7
    by_cases c10 : (t326.length : Int) = (l0.length : Int)
    rotate_left
    · rw [if_neg c10] at H
      exact absurd H (by simp)
    rw [if_pos c10] at H
    have c10b0 : ((t326.length : Int) == (l0.length : Int)) = true := beq_iff_eq.mpr c10
    have c10b1 : ((t326.length : Int) != (l0.length : Int)) = false := bne_eq_false_iff_eq.mpr c10
    have c10b2 : (t326.length == l0.length) = true := by first | simpa using c10 | (simp at c10 ⊢; omega)
    clear c10
    (first | rw [c10b0] | (simp only [i64_w, i32_w]; rw [c10b0]) | skip)
    replace H := Option.bind_eq_some_iff.mp H
    obtain ⟨t329, A110, H⟩ := H
    replace H : (ductuslaw14_OrderOnce.j0 k l0 t326 (!t329)) = some r := H
    have A11 := Aside0.mk A110
    clear A110
    have H' := Aside0.mk H
    clear H
    obtain ⟨Ao12, co12, eo12⟩ := Kd.R_slice HO328.out
    subst eo12
    go_wp2_with (first | (go_at_call 13; (with_reducible refine (order_Right.calls _ _ t326 t329 _ ?side1 ?side2 A11.out).mono ?_); (case side1 => repeat (first | exact (Kd.R_reads' HO328.out).2.2 | (with_reducible refine Kd.C_alloc ?_ _) | (with_reducible refine Kd.C_drewN ?_ _) | (with_reducible refine Kd.C_drew ?_))); (case side2 => exact (Kd.R_reads' HO328.out).2.1); rintro e w13 ⟨rfl, hb⟩; have n0_ := Aside0.mk (Kd.R_below (by (with_reducible repeat (first | apply Kd.R_alloc | apply Kd.R_drewN | apply Kd.R_drew)); exact HO328.out) hb); have n1_ := Aside0.mk (below_step (by repeat (first | (with_reducible first | exact HB.out | apply below_alloc | apply pw_below_drewN | apply below_drew1) | exact HB.out)) hb); clear HO328; clear HB; have HO328 := n0_; have HB := n1_; clear n0_ n1_; (try clear hb); (try clear hb2); (try clear hk); (try clear hi)))
    repeat (go_quiet (first | (go_at_call 13; (with_reducible refine (order_Right.calls _ _ t326 t329 _ ?side1 ?side2 A11.out).mono ?_); (case side1 => repeat (first | exact (Kd.R_reads' HO328.out).2.2 | (with_reducible refine Kd.C_alloc ?_ _) | (with_reducible refine Kd.C_drewN ?_ _) | (with_reducible refine Kd.C_drew ?_))); (case side2 => exact (Kd.R_reads' HO328.out).2.1); rintro e w13 ⟨rfl, hb⟩; have n0_ := Aside0.mk (Kd.R_below (by (with_reducible repeat (first | apply Kd.R_alloc | apply Kd.R_drewN | apply Kd.R_drew)); exact HO328.out) hb); have n1_ := Aside0.mk (below_step (by repeat (first | (with_reducible first | exact HB.out | apply below_alloc | apply pw_below_drewN | apply below_drew1) | exact HB.out)) hb); clear HO328; clear HB; have HO328 := n0_; have HB := n1_; clear n0_ n1_; (try clear hb); (try clear hb2); (try clear hk); (try clear hi))); try go_wp2_with (first | (go_at_call 13; (with_reducible refine (order_Right.calls _ _ t326 t329 _ ?side1 ?side2 A11.out).mono ?_); (case side1 => repeat (first | exact (Kd.R_reads' HO328.out).2.2 | (with_reducible refine Kd.C_alloc ?_ _) | (with_reducible refine Kd.C_drewN ?_ _) | (with_reducible refine Kd.C_drew ?_))); (case side2 => exact (Kd.R_reads' HO328.out).2.1); rintro e w13 ⟨rfl, hb⟩; have n0_ := Aside0.mk (Kd.R_below (by (with_reducible repeat (first | apply Kd.R_alloc | apply Kd.R_drewN | apply Kd.R_drew)); exact HO328.out) hb); have n1_ := Aside0.mk (below_step (by repeat (first | (with_reducible first | exact HB.out | apply below_alloc | apply pw_below_drewN | apply below_drew1) | exact HB.out)) hb); clear HO328; clear HB; have HO328 := n0_; have HB := n1_; clear n0_ n1_; (try clear hb); (try clear hb2); (try clear hk); (try clear hi))))
    go_meet
    case rel => exact ⟨_, (!t329), (by first | rfl | (simp; done) | (simp [*]; done)), H', ⟨by first | omega | exact Nat.le_refl _⟩, ⟨by (with_reducible repeat (first | apply Kd.R_alloc | apply Kd.R_drewN | apply Kd.R_drew)); exact HO328.out⟩, ⟨by repeat (first | (with_reducible first | exact HB.out | apply below_alloc | apply pw_below_drewN | apply below_drew1) | exact HB.out)⟩⟩
  case rest =>
    clear HC7
    try clear c1
    try clear p2
    try clear c3
    try clear c4
    try clear c4b0
    try clear c4b1
    try clear c10
    try clear c10b0
    try clear c10b1
    try clear c10b2
    obtain ⟨kq, x24_6, rfl, HA, HJ6, HO_3, HB⟩ := hcut
    cases kq with
    | zero => exact absurd HA.out (by simp [ductuslaw14_OrderOnce.j0])
    | succ kj6 =>
      have H := HA.out
      clear HA
      simp only [ductuslaw14_OrderOnce.j0] at H
      by_cases c14 : x24_6 = true
      · subst c14
        have H1 : (none) = some r := by rw [if_pos rfl] at H; exact H
        clear H
        have H := H1
        clear H1
        exact absurd H (by simp)
      replace c14 := Bool.eq_false_iff.mpr c14
      subst c14
      have H1 : ((order_Back.f kj6 t326).bind fun bt330 => (if bt330.2 = 0 then (ductuslaw14_OrderOnce.j1 kj6 l0 t326 bt330.1 ((bt330.1.length : Int) != (t326.length : Int))) else (none))) = some r := by rw [if_neg (show ¬ (false = true) by decide)] at H; exact H
      clear H
      have H := H1
      clear H1
      replace H := Option.bind_eq_some_iff.mp H
      obtain ⟨⟨t330, t331⟩, A150, H⟩ := H
      replace H : (if t331 = 0 then (ductuslaw14_OrderOnce.j1 kj6 l0 t326 t330 ((t330.length : Int) != (t326.length : Int))) else (none)) = some r := H
      have A15 := Aside0.mk A150
      clear A150
      have HC16 := Aside0.mk H
      clear H
      obtain ⟨Ao17, co17, eo17⟩ := Kd.R_slice HO_3.out
      subst eo17
      go_upto_region 9 with (first | (go_at_call 8; (with_reducible refine (order_Back.calls kj6 _ _ t326 t330 t331 _ ?side1 ?side2 A15.out).mono ?_); (case side1 => repeat (first | exact (Kd.R_reads' HO_3.out).2.2 | (with_reducible refine Kd.C_alloc ?_ _) | (with_reducible refine Kd.C_drewN ?_ _) | (with_reducible refine Kd.C_drew ?_))); (case side2 => exact (Kd.R_reads' HO_3.out).2.1); rintro e w18 ⟨v332, rfl, ho0, hb⟩; have n0_ := Aside0.mk (Kd.R_elder' (by (with_reducible repeat (first | apply Kd.R_alloc | apply Kd.R_drewN | apply Kd.R_drew)); exact HO_3.out) (Kd.R_base ho0) hb); have n1_ := Aside0.mk (Kd.R_lower (Kd.R_new' ho0 (Kd.R_lt (by (with_reducible repeat (first | apply Kd.R_alloc | apply Kd.R_drewN | apply Kd.R_drew)); exact HO_3.out))) (below_size (by repeat (first | (with_reducible first | exact HB.out | apply below_alloc | apply pw_below_drewN | apply below_drew1) | exact HB.out)))); have n2_ := Aside0.mk (below_step (by repeat (first | (with_reducible first | exact HB.out | apply below_alloc | apply pw_below_drewN | apply below_drew1) | exact HB.out)) hb); clear HO_3; clear HB; have HO_3 := n0_; have HO333 := n1_; have HB := n2_; clear n0_ n1_ n2_; (try clear hb); (try clear hb2); (try clear hk); (try clear hi); (try clear ho0)))
      repeat (go_quiet (first | (go_at_call 8; (with_reducible refine (order_Back.calls kj6 _ _ t326 t330 t331 _ ?side1 ?side2 A15.out).mono ?_); (case side1 => repeat (first | exact (Kd.R_reads' HO_3.out).2.2 | (with_reducible refine Kd.C_alloc ?_ _) | (with_reducible refine Kd.C_drewN ?_ _) | (with_reducible refine Kd.C_drew ?_))); (case side2 => exact (Kd.R_reads' HO_3.out).2.1); rintro e w18 ⟨v332, rfl, ho0, hb⟩; have n0_ := Aside0.mk (Kd.R_elder' (by (with_reducible repeat (first | apply Kd.R_alloc | apply Kd.R_drewN | apply Kd.R_drew)); exact HO_3.out) (Kd.R_base ho0) hb); have n1_ := Aside0.mk (Kd.R_lower (Kd.R_new' ho0 (Kd.R_lt (by (with_reducible repeat (first | apply Kd.R_alloc | apply Kd.R_drewN | apply Kd.R_drew)); exact HO_3.out))) (below_size (by repeat (first | (with_reducible first | exact HB.out | apply below_alloc | apply pw_below_drewN | apply below_drew1) | exact HB.out)))); have n2_ := Aside0.mk (below_step (by repeat (first | (with_reducible first | exact HB.out | apply below_alloc | apply pw_below_drewN | apply below_drew1) | exact HB.out)) hb); clear HO_3; clear HB; have HO_3 := n0_; have HO333 := n1_; have HB := n2_; clear n0_ n1_ n2_; (try clear hb); (try clear hb2); (try clear hk); (try clear hi); (try clear ho0))); go_upto_region 9 with (first | (go_at_call 8; (with_reducible refine (order_Back.calls kj6 _ _ t326 t330 t331 _ ?side1 ?side2 A15.out).mono ?_); (case side1 => repeat (first | exact (Kd.R_reads' HO_3.out).2.2 | (with_reducible refine Kd.C_alloc ?_ _) | (with_reducible refine Kd.C_drewN ?_ _) | (with_reducible refine Kd.C_drew ?_))); (case side2 => exact (Kd.R_reads' HO_3.out).2.1); rintro e w18 ⟨v332, rfl, ho0, hb⟩; have n0_ := Aside0.mk (Kd.R_elder' (by (with_reducible repeat (first | apply Kd.R_alloc | apply Kd.R_drewN | apply Kd.R_drew)); exact HO_3.out) (Kd.R_base ho0) hb); have n1_ := Aside0.mk (Kd.R_lower (Kd.R_new' ho0 (Kd.R_lt (by (with_reducible repeat (first | apply Kd.R_alloc | apply Kd.R_drewN | apply Kd.R_drew)); exact HO_3.out))) (below_size (by repeat (first | (with_reducible first | exact HB.out | apply below_alloc | apply pw_below_drewN | apply below_drew1) | exact HB.out)))); have n2_ := Aside0.mk (below_step (by repeat (first | (with_reducible first | exact HB.out | apply below_alloc | apply pw_below_drewN | apply below_drew1) | exact HB.out)) hb); clear HO_3; clear HB; have HO_3 := n0_; have HO333 := n1_; have HB := n2_; clear n0_ n1_ n2_; (try clear hb); (try clear hb2); (try clear hk); (try clear hi); (try clear ho0))))
      (try simp only [Act.put, List.setIfInBounds_toArray, List.set_cons_zero, List.set_cons_succ])
      go_cut [38] (fun v38 wc => ∃ (kq : Nat) (x38_15 : Bool), v38 = .bool x38_15 ∧ Aside0 (ductuslaw14_OrderOnce.j1 kq l0 t326 t330 x38_15 = some r) ∧ Aside0 (kq ≤ kj6) ∧ Aside0 (Kd.R (Kd.int .i64) 3 wc w.heap.size (fun k_ => some k_ ≠ (v332 : Value).ownBlock) (.slice Ao17 t326.length co17) t326) ∧ Aside0 (Kd.R (Kd.int .i64) 3 wc w.heap.size (fun k_ => some k_ ≠ ((.slice Ao17 t326.length co17) : Value).ownBlock) v332 t330) ∧ Aside0 (Below w.heap.size w wc))
      case first =>
        have H := HC16.out
        clear HC16
        by_cases c19 : t331 = 0
        rotate_left
        · rw [if_neg c19] at H
          exact absurd H (by simp)
        rw [if_pos c19] at H
        have c19b0 : (t331 == 0) = true := beq_iff_eq.mpr c19
        have c19b1 : (t331 != 0) = false := bne_eq_false_iff_eq.mpr c19
        clear c19
        (first | rw [c19b0] | (simp only [i64_w, i32_w]; rw [c19b0]) | skip)
        have H' := Aside0.mk H
        clear H
        obtain ⟨Ao20, co20, eo20⟩ := Kd.R_slice HO333.out
        subst eo20
        go_wp2
        repeat (go_quiet (fail); try go_wp2)
        go_meet
        case rel => exact ⟨_, (((t330.length : Int) != (t326.length : Int))), (by first | rfl | (simp; done) | (simp [*]; done)), H', ⟨by have := HJ6.out; first | omega | exact Nat.le_refl _⟩, ⟨by (with_reducible repeat (first | apply Kd.R_alloc | apply Kd.R_drewN | apply Kd.R_drew)); exact Kd.R_mono HO_3.out (fun _ hk => hk.2)⟩, ⟨by (with_reducible repeat (first | apply Kd.R_alloc | apply Kd.R_drewN | apply Kd.R_drew)); exact Kd.R_mono HO333.out (fun _ hk => hk.2)⟩, ⟨by repeat (first | (with_reducible first | exact HB.out | apply below_alloc | apply pw_below_drewN | apply below_drew1) | exact HB.out)⟩⟩
      case rest =>
        clear HC16
        try clear c1
        try clear p2
        try clear c3
        try clear c4
        try clear c4b0
        try clear c4b1
        try clear c10
        try clear c10b0
        try clear c10b1
        try clear c10b2
        try clear c14
        try clear c19
        try clear c19b0
        try clear c19b1
        try clear p2
        obtain ⟨kq, x38_15, rfl, HA, HJ15, HO_3, HO_4, HB⟩ := hcut
        cases kq with
        | zero => exact absurd HA.out (by simp [ductuslaw14_OrderOnce.j1])
        | succ kj15 =>
          have H := HA.out
          clear HA
          simp only [ductuslaw14_OrderOnce.j1] at H
          by_cases c21 : x38_15 = true
          · subst c21
            have H1 : (none) = some r := by rw [if_pos rfl] at H; exact H
            clear H
            have H := H1
            clear H1
            exact absurd H (by simp)
          replace c21 := Bool.eq_false_iff.mpr c21
          subst c21
          have H1 : (ductuslaw14_OrderOnce.l0 kj15 l0 t326 t330 0) = some r := by rw [if_neg (show ¬ (false = true) by decide)] at H; exact H
          clear H
          have H := H1
          clear H1
          have H' := Aside0.mk H
          clear H
          go_wp2
          repeat (go_quiet (fail); try go_wp2)
          go_loopg [6] kj15 (fun kq v6 w' => ∃ (x6_3 : Int), v6 = .int .i64 x6_3 ∧ Aside0 (ductuslaw14_OrderOnce.l0 kq l0 t326 t330 x6_3 = some r) ∧ Aside0 (kq ≤ kj15) ∧ Aside0 (Kd.R (Kd.int .i64) 3 w' w.heap.size (fun k_ => some k_ ≠ (v332 : Value).ownBlock) (.slice Ao17 t326.length co17) t326) ∧ Aside0 (Kd.R (Kd.int .i64) 3 w' w.heap.size (fun k_ => some k_ ≠ ((.slice Ao17 t326.length co17) : Value).ownBlock) v332 t330) ∧ Aside0 (Below w.heap.size w w'))
          case atStart => exact ⟨(0), (by first | rfl | (simp; done) | (simp [*]; done)), H', ⟨Nat.le_refl _⟩, ⟨by (with_reducible repeat (first | apply Kd.R_alloc | apply Kd.R_drewN | apply Kd.R_drew)); exact HO_3.out⟩, ⟨by (with_reducible repeat (first | apply Kd.R_alloc | apply Kd.R_drewN | apply Kd.R_drew)); exact HO_4.out⟩, ⟨by repeat (first | (with_reducible first | exact HB.out | apply below_alloc | apply pw_below_drewN | apply below_drew1) | exact HB.out)⟩⟩
          case round =>
            clear H'
            try clear c1
            try clear c2
            try clear p2
            try clear c3
            try clear c4
            try clear c4b0
            try clear c4b1
            try clear c10
            try clear c10b0
            try clear c10b1
            try clear c10b2
            try clear c14
            try clear c19
            try clear c19b0
            try clear c19b1
            try clear c21
            try clear p2
            obtain ⟨x6_3, rfl, HA, HK3, HO_3, HO_4, HB⟩ := hrel
            cases gk with
            | zero => exact absurd HA.out (by simp [ductuslaw14_OrderOnce.l0])
            | succ k3 =>
              have H := HA.out
              clear HA
              simp only [ductuslaw14_OrderOnce.l0] at H
              by_cases c22 : x6_3 < (t326.length : Int)
              rotate_left
              · rw [if_neg c22] at H
                have c22b0 : decide (x6_3 < (t326.length : Int)) = false := decide_eq_false c22
                clear c22
                obtain rfl := Option.some.inj H
                go_wp2
                repeat (go_quiet (fail); try go_wp2)
                go_ret
                exact ⟨by first | rfl | (simp [errW_none, errW_some] <;> rfl) | (simp [*, errW_none, errW_some] <;> rfl), by repeat (first | (with_reducible first | exact HB.out | apply below_alloc | apply pw_below_drewN | apply below_drew1) | exact HB.out)⟩
              rw [if_pos c22] at H
              have c22b0 : decide (x6_3 < (t326.length : Int)) = true := decide_eq_true c22
              clear c22
              by_cases c23 : 0 ≤ x6_3
              rotate_left
              · rw [if_neg c23] at H
                exact absurd H (by simp)
              rw [if_pos c23] at H
              have c23b0 : decide (0 ≤ x6_3) = true := decide_eq_true c23
              clear c23
              by_cases c24 : 0 ≤ (rd t326 x6_3)
              rotate_left
              · rw [if_neg c24] at H
                exact absurd H (by simp)
              rw [if_pos c24] at H
              have c24b0 : decide (0 ≤ (rd t326 x6_3)) = true := decide_eq_true c24
              clear c24
              by_cases c25 : (rd t326 x6_3) < (t330.length : Int)
              rotate_left
              · rw [if_neg c25] at H
                exact absurd H (by simp)
              rw [if_pos c25] at H
              have c25b0 : decide ((rd t326 x6_3) < (t330.length : Int)) = true := decide_eq_true c25
              clear c25
              by_cases c26 : (rd t330 (rd t326 x6_3)) = x6_3
              rotate_left
              · rw [if_neg c26] at H
                exact absurd H (by simp)
              rw [if_pos c26] at H
              have c26b0 : ((rd t330 (rd t326 x6_3)) == x6_3) = true := beq_iff_eq.mpr c26
              have c26b1 : ((rd t330 (rd t326 x6_3)) != x6_3) = false := bne_eq_false_iff_eq.mpr c26
              clear c26
              have HC27 := Aside0.mk H
              clear H
              have p334 : 0 ≤ (x6_3 : Int) := of_decide_eq_true (by first | (with_reducible assumption) | assumption)
              have q334 : x6_3 < (t326.length : Int) := of_decide_eq_true (by first | (with_reducible assumption) | assumption)
              obtain ⟨ad334, e334, hx334_0⟩ := Kd.at_int (Kd.R_reads' HO_3.out).2.2 x6_3 p334 q334
              cases e334
              replace p334 := eq_true p334
              replace q334 := eq_true q334
              obtain ⟨Ao28, co28, eo28⟩ := Kd.R_slice HO_4.out
              subst eo28
              have p335 : 0 ≤ ((rd t326 x6_3) : Int) := of_decide_eq_true (by first | (with_reducible assumption) | assumption)
              have q335 : (rd t326 x6_3) < (t330.length : Int) := of_decide_eq_true (by first | (with_reducible assumption) | assumption)
              obtain ⟨ad335, e335, hx335_0⟩ := Kd.at_int (Kd.R_reads' HO_4.out).2.2 (rd t326 x6_3) p335 q335
              cases e335
              replace p335 := eq_true p335
              replace q335 := eq_true q335
              go_upto_region 16 with (fail)
              repeat (go_quiet (fail); go_upto_region 16 with (fail))
              go_cut [67] (fun v67 wc => ∃ (kq : Nat) (x67_26 : Bool), v67 = .bool x67_26 ∧ Aside0 (ductuslaw14_OrderOnce.j3 kq l0 t326 t330 x6_3 x67_26 = some r) ∧ Aside0 (kq ≤ k3) ∧ Aside0 (Kd.R (Kd.int .i64) 3 wc w.heap.size (fun k_ => some k_ ≠ ((.slice (some ad335) t330.length co28) : Value).ownBlock) (.slice (some ad334) t326.length co17) t326) ∧ Aside0 (Kd.R (Kd.int .i64) 3 wc w.heap.size (fun k_ => some k_ ≠ ((.slice (some ad334) t326.length co17) : Value).ownBlock) (.slice (some ad335) t330.length co28) t330) ∧ Aside0 (Below w.heap.size w wc))
              case first =>
                have H := HC27.out
                clear HC27
                by_cases c29 : x6_3 > 0
                rotate_left
                · rw [if_neg c29] at H
                  have c29b0 : decide (0 < x6_3) = false := decide_eq_false c29
                  clear c29
                  (first | rw [c29b0] | (simp only [i64_w, i32_w]; rw [c29b0]) | skip)
                  have H' := Aside0.mk H
                  clear H
                  go_wp2
                  repeat (go_quiet (fail); try go_wp2)
                  go_meet
                  case rel => exact ⟨_, (false), (by first | rfl | (simp; done) | (simp [*]; done)), H', ⟨by have := HJ6.out; have := HJ15.out; have := HK3.out; first | omega | exact Nat.le_refl _⟩, ⟨by (with_reducible repeat (first | apply Kd.R_alloc | apply Kd.R_drewN | apply Kd.R_drew)); exact HO_3.out⟩, ⟨by (with_reducible repeat (first | apply Kd.R_alloc | apply Kd.R_drewN | apply Kd.R_drew)); exact HO_4.out⟩, ⟨by repeat (first | (with_reducible first | exact HB.out | apply below_alloc | apply pw_below_drewN | apply below_drew1) | exact HB.out)⟩⟩
                rw [if_pos c29] at H
                have c29b0 : decide (0 < x6_3) = true := decide_eq_true c29
                clear c29
                (first | rw [c29b0] | (simp only [i64_w, i32_w]; rw [c29b0]) | skip)
                by_cases c30 : x6_3 < (l0.length : Int)
                rotate_left
                · rw [if_neg c30] at H
                  exact absurd H (by simp)
                rw [if_pos c30] at H
                have c30b0 : decide (x6_3 < (l0.length : Int)) = true := decide_eq_true c30
                clear c30
                obtain ⟨ji31, hji31⟩ : ∃ j_ : Int, (wrap64 (x6_3 - 1)) = j_ := ⟨_, rfl⟩
                replace H : (if 0 ≤ (ji31) then (if (ji31) < (l0.length : Int) then (ductuslaw14_OrderOnce.j3 k3 l0 t326 t330 x6_3 ((rd l0 x6_3) == (rd l0 (ji31)))) else (none)) else (none)) = some r := by first | (rw [hji31] at H; exact H) | (simp only [hji31] at H ⊢; exact H)
                have hji31w : (IntKind.i64.wrap (x6_3 - 1)) = ji31 := (i64_w _).trans hji31
                by_cases c32 : 0 ≤ (ji31)
                rotate_left
                · rw [if_neg c32] at H
                  exact absurd H (by simp)
                rw [if_pos c32] at H
                have c32b0 : decide (0 ≤ (ji31)) = true := decide_eq_true c32
                clear c32
                by_cases c33 : (ji31) < (l0.length : Int)
                rotate_left
                · rw [if_neg c33] at H
                  exact absurd H (by simp)
                rw [if_pos c33] at H
                have c33b0 : decide ((ji31) < (l0.length : Int)) = true := decide_eq_true c33
                clear c33
                have H' := Aside0.mk H
                clear H
                have p336 : 0 ≤ (x6_3 : Int) := of_decide_eq_true (by first | (with_reducible assumption) | assumption)
                have q336 : x6_3 < (l0.length : Int) := of_decide_eq_true (by first | (with_reducible assumption) | assumption)
                obtain ⟨ad336, e336, hx336_0⟩ := Kd.at_int HR0.out x6_3 p336 q336
                cases e336
                replace hx336_0 := (HB.out.cell (World.block_lt_of_cell? w _ hx336_0)).trans hx336_0
                replace p336 := eq_true p336
                replace q336 := eq_true q336
                have p337 : 0 ≤ ((ji31) : Int) := of_decide_eq_true (by first | (with_reducible assumption) | assumption)
                have q337 : (ji31) < (l0.length : Int) := of_decide_eq_true (by first | (with_reducible assumption) | assumption)
                obtain ⟨ad337, e337, hx337_0⟩ := Kd.at_int HR0.out (ji31) p337 q337
                obtain rfl : ad336 = ad337 := (by injection e337)
                replace hx337_0 := (HB.out.cell (World.block_lt_of_cell? w _ hx337_0)).trans hx337_0
                replace p337 := eq_true p337
                replace q337 := eq_true q337
                go_wp2
                repeat (go_quiet (fail); try go_wp2)
                go_meet
                case rel => exact ⟨_, (((rd l0 x6_3) == (rd l0 (ji31)))), (by first | rfl | (simp; done) | (simp only [← hji31] <;> (first | rfl | simp)) | (simp [*]; done)), H', ⟨by have := HJ6.out; have := HJ15.out; have := HK3.out; first | omega | exact Nat.le_refl _⟩, ⟨by (with_reducible repeat (first | apply Kd.R_alloc | apply Kd.R_drewN | apply Kd.R_drew)); exact HO_3.out⟩, ⟨by (with_reducible repeat (first | apply Kd.R_alloc | apply Kd.R_drewN | apply Kd.R_drew)); exact HO_4.out⟩, ⟨by repeat (first | (with_reducible first | exact HB.out | apply below_alloc | apply pw_below_drewN | apply below_drew1) | exact HB.out)⟩⟩
              case rest =>
                clear HC27
                try clear c1
                try clear c2
                try clear p2
                try clear c3
                try clear p3
                try clear q3
                try clear hx3
                try clear c4
                try clear c4b0
                try clear c4b1
                try clear p6
                try clear c10
                try clear c10b0
                try clear c10b1
                try clear c10b2
                try clear c14
                try clear c19
                try clear c19b0
                try clear c19b1
                try clear c21
                try clear c22
                try clear c22b0
                try clear c23
                try clear c23b0
                try clear c24
                try clear c24b0
                try clear c25
                try clear c25b0
                try clear c26
                try clear c26b0
                try clear c26b1
                try clear c29
                try clear c29b0
                try clear c30
                try clear c30b0
                try clear c32
                try clear c32b0
                try clear c33
                try clear c33b0
                try clear p33
                try clear q33
                try clear hx33
                try clear hx334_0
                try clear hx335_0
                try clear hx336_0
                try clear hx337_0
                try clear p2
                try clear p334
                try clear p335
                try clear p336
                try clear p337
                try clear q334
                try clear q335
                try clear q336
                try clear q337
                obtain ⟨kq, x67_26, rfl, HA, HJ26, HO_3, HO_4, HB⟩ := hcut
                cases kq with
                | zero => exact absurd HA.out (by simp [ductuslaw14_OrderOnce.j3])
                | succ kj26 =>
                  have H := HA.out
                  clear HA
                  simp only [ductuslaw14_OrderOnce.j3] at H
                  by_cases c34 : x67_26 = true
                  rotate_left
                  · replace c34 := Bool.eq_false_iff.mpr c34
                    subst c34
                    have H1 : (ductuslaw14_OrderOnce.l0 kj26 l0 t326 t330 (wrap64 (x6_3 + 1))) = some r := by rw [if_neg (show ¬ (false = true) by decide)] at H; exact H
                    clear H
                    have H := H1
                    clear H1
                    have H' := Aside0.mk H
                    clear H
                    go_wp2
                    repeat (go_quiet (fail); try go_wp2)
                    go_roundg kj26
                    case measure => have := HJ6.out; have := HJ15.out; have := HK3.out; have := HJ26.out; omega
                    case rel => exact ⟨(wrap64 (x6_3 + 1)), (by first | rfl | (simp; done) | (simp [*]; done)), H', ⟨by have := HJ6.out; have := HJ15.out; have := HK3.out; have := HJ26.out; omega⟩, ⟨by (with_reducible repeat (first | apply Kd.R_alloc | apply Kd.R_drewN | apply Kd.R_drew)); exact HO_3.out⟩, ⟨by (with_reducible repeat (first | apply Kd.R_alloc | apply Kd.R_drewN | apply Kd.R_drew)); exact HO_4.out⟩, ⟨by repeat (first | (with_reducible first | exact HB.out | apply below_alloc | apply pw_below_drewN | apply below_drew1) | exact HB.out)⟩⟩
                  subst c34
                  have H1 : (if 0 ≤ x6_3 then (if x6_3 < (l0.length : Int) then (if ((mn 127 (mx 0 (rd l0 x6_3))) % 2) = 1 then (if x6_3 < (t330.length : Int) then (if 0 ≤ (wrap64 (x6_3 - 1)) then (if (wrap64 (x6_3 - 1)) < (t330.length : Int) then (if (wrap64 ((rd t330 x6_3) - (rd t330 (wrap64 (x6_3 - 1))))) = (-1) then (ductuslaw14_OrderOnce.l0 kj26 l0 t326 t330 (wrap64 (x6_3 + 1))) else (none)) else (none)) else (none)) else (none)) else (if x6_3 < (t330.length : Int) then (if 0 ≤ (wrap64 (x6_3 - 1)) then (if (wrap64 (x6_3 - 1)) < (t330.length : Int) then (if (wrap64 ((rd t330 x6_3) - (rd t330 (wrap64 (x6_3 - 1))))) = 1 then (ductuslaw14_OrderOnce.l0 kj26 l0 t326 t330 (wrap64 (x6_3 + 1))) else (none)) else (none)) else (none)) else (none))) else (none)) else (none)) = some r := by rw [if_pos rfl] at H; exact H
                  clear H
                  have H := H1
                  clear H1
                  by_cases c35 : 0 ≤ x6_3
                  rotate_left
                  · rw [if_neg c35] at H
                    exact absurd H (by simp)
                  rw [if_pos c35] at H
                  have c35b0 : decide (0 ≤ x6_3) = true := decide_eq_true c35
                  clear c35
                  by_cases c36 : x6_3 < (l0.length : Int)
                  rotate_left
                  · rw [if_neg c36] at H
                    exact absurd H (by simp)
                  rw [if_pos c36] at H
                  have c36b0 : decide (x6_3 < (l0.length : Int)) = true := decide_eq_true c36
                  clear c36
                  obtain ⟨ji37, hji37⟩ : ∃ j_ : Int, (mx 0 (rd l0 x6_3)) = j_ := ⟨_, rfl⟩
                  replace H : (if ((mn 127 (ji37)) % 2) = 1 then (if x6_3 < (t330.length : Int) then (if 0 ≤ (wrap64 (x6_3 - 1)) then (if (wrap64 (x6_3 - 1)) < (t330.length : Int) then (if (wrap64 ((rd t330 x6_3) - (rd t330 (wrap64 (x6_3 - 1))))) = (-1) then (ductuslaw14_OrderOnce.l0 kj26 l0 t326 t330 (wrap64 (x6_3 + 1))) else (none)) else (none)) else (none)) else (none)) else (if x6_3 < (t330.length : Int) then (if 0 ≤ (wrap64 (x6_3 - 1)) then (if (wrap64 (x6_3 - 1)) < (t330.length : Int) then (if (wrap64 ((rd t330 x6_3) - (rd t330 (wrap64 (x6_3 - 1))))) = 1 then (ductuslaw14_OrderOnce.l0 kj26 l0 t326 t330 (wrap64 (x6_3 + 1))) else (none)) else (none)) else (none)) else (none))) = some r := by first | (rw [hji37] at H; exact H) | (simp only [hji37] at H ⊢; exact H)
                  have hji37_ : (if 0 < (rd l0 x6_3) then (rd l0 x6_3) else 0) = ji37 := hji37
                  obtain ⟨ji38, hji38⟩ : ∃ j_ : Int, (mn 127 (ji37)) = j_ := ⟨_, rfl⟩
                  replace H : (if ((ji38) % 2) = 1 then (if x6_3 < (t330.length : Int) then (if 0 ≤ (wrap64 (x6_3 - 1)) then (if (wrap64 (x6_3 - 1)) < (t330.length : Int) then (if (wrap64 ((rd t330 x6_3) - (rd t330 (wrap64 (x6_3 - 1))))) = (-1) then (ductuslaw14_OrderOnce.l0 kj26 l0 t326 t330 (wrap64 (x6_3 + 1))) else (none)) else (none)) else (none)) else (none)) else (if x6_3 < (t330.length : Int) then (if 0 ≤ (wrap64 (x6_3 - 1)) then (if (wrap64 (x6_3 - 1)) < (t330.length : Int) then (if (wrap64 ((rd t330 x6_3) - (rd t330 (wrap64 (x6_3 - 1))))) = 1 then (ductuslaw14_OrderOnce.l0 kj26 l0 t326 t330 (wrap64 (x6_3 + 1))) else (none)) else (none)) else (none)) else (none))) = some r := by first | (rw [hji38] at H; exact H) | (simp only [hji38] at H ⊢; exact H)
                  have hji38_ : (if (ji37) < 127 then (ji37) else 127) = ji38 := hji38
                  by_cases c39 : ((ji38) % 2) = 1
                  rotate_left
                  · rw [if_neg c39] at H
                    have c39b0 : (((ji38) % 2) == 1) = false := beq_eq_false_iff_ne.mpr c39
                    have c39b1 : (((ji38) % 2) != 1) = true := bne_iff_ne.mpr c39
                    by_cases c45 : x6_3 < (t330.length : Int)
                    rotate_left
                    · rw [if_neg c45] at H
                      exact absurd H (by simp)
                    rw [if_pos c45] at H
                    have c45b0 : decide (x6_3 < (t330.length : Int)) = true := decide_eq_true c45
                    clear c45
                    obtain ⟨ji46, hji46⟩ : ∃ j_ : Int, (wrap64 (x6_3 - 1)) = j_ := ⟨_, rfl⟩
                    replace H : (if 0 ≤ (ji46) then (if (ji46) < (t330.length : Int) then (if (wrap64 ((rd t330 x6_3) - (rd t330 (ji46)))) = 1 then (ductuslaw14_OrderOnce.l0 kj26 l0 t326 t330 (wrap64 (x6_3 + 1))) else (none)) else (none)) else (none)) = some r := by first | (rw [hji46] at H; exact H) | (simp only [hji46] at H ⊢; exact H)
                    have hji46w : (IntKind.i64.wrap (x6_3 - 1)) = ji46 := (i64_w _).trans hji46
                    by_cases c47 : 0 ≤ (ji46)
                    rotate_left
                    · rw [if_neg c47] at H
                      exact absurd H (by simp)
                    rw [if_pos c47] at H
                    have c47b0 : decide (0 ≤ (ji46)) = true := decide_eq_true c47
                    clear c47
                    by_cases c48 : (ji46) < (t330.length : Int)
                    rotate_left
                    · rw [if_neg c48] at H
                      exact absurd H (by simp)
                    rw [if_pos c48] at H
                    have c48b0 : decide ((ji46) < (t330.length : Int)) = true := decide_eq_true c48
                    clear c48
                    by_cases c49 : (wrap64 ((rd t330 x6_3) - (rd t330 (ji46)))) = 1
                    rotate_left
                    · rw [if_neg c49] at H
                      exact absurd H (by simp)
                    rw [if_pos c49] at H
                    have c49b0 : ((wrap64 ((rd t330 x6_3) - (rd t330 (ji46)))) == 1) = true := beq_iff_eq.mpr c49
                    have c49b1 : ((wrap64 ((rd t330 x6_3) - (rd t330 (ji46)))) != 1) = false := bne_eq_false_iff_eq.mpr c49
                    clear c49
                    have H' := Aside0.mk H
                    clear H
                    have p338 : 0 ≤ (x6_3 : Int) := of_decide_eq_true (by first | (with_reducible assumption) | assumption)
                    have q338 : x6_3 < (l0.length : Int) := of_decide_eq_true (by first | (with_reducible assumption) | assumption)
                    obtain ⟨ad338, e338, hx338_0⟩ := Kd.at_int HR0.out x6_3 p338 q338
                    cases e338
                    replace hx338_0 := (HB.out.cell (World.block_lt_of_cell? w _ hx338_0)).trans hx338_0
                    replace p338 := eq_true p338
                    replace q338 := eq_true q338
                    have p341 : 0 ≤ (x6_3 : Int) := of_decide_eq_true (by first | (with_reducible assumption) | assumption)
                    have q341 : x6_3 < (t330.length : Int) := of_decide_eq_true (by first | (with_reducible assumption) | assumption)
                    obtain ⟨ad341, e341, hx341_0⟩ := Kd.at_int (Kd.R_reads' HO_4.out).2.2 x6_3 p341 q341
                    obtain rfl : ad335 = ad341 := (by injection e341)
                    replace p341 := eq_true p341
                    replace q341 := eq_true q341
                    have p342 : 0 ≤ ((ji46) : Int) := of_decide_eq_true (by first | (with_reducible assumption) | assumption)
                    have q342 : (ji46) < (t330.length : Int) := of_decide_eq_true (by first | (with_reducible assumption) | assumption)
                    obtain ⟨ad342, e342, hx342_0⟩ := Kd.at_int (Kd.R_reads' HO_4.out).2.2 (ji46) p342 q342
                    obtain rfl : ad335 = ad342 := (by injection e342)
                    replace p342 := eq_true p342
                    replace q342 := eq_true q342
                    go_wp2
                    repeat (go_quiet (fail); try go_wp2)
                    go_roundg kj26
                    case measure => have := HJ6.out; have := HJ15.out; have := HK3.out; have := HJ26.out; omega
                    case rel => exact ⟨(wrap64 (x6_3 + 1)), (by first | rfl | (simp; done) | (simp [*]; done)), H', ⟨by have := HJ6.out; have := HJ15.out; have := HK3.out; have := HJ26.out; omega⟩, ⟨by (with_reducible repeat (first | apply Kd.R_alloc | apply Kd.R_drewN | apply Kd.R_drew)); exact HO_3.out⟩, ⟨by (with_reducible repeat (first | apply Kd.R_alloc | apply Kd.R_drewN | apply Kd.R_drew)); exact HO_4.out⟩, ⟨by repeat (first | (with_reducible first | exact HB.out | apply below_alloc | apply pw_below_drewN | apply below_drew1) | exact HB.out)⟩⟩
                  rw [if_pos c39] at H
                  have c39b0 : (((ji38) % 2) == 1) = true := beq_iff_eq.mpr c39
                  have c39b1 : (((ji38) % 2) != 1) = false := bne_eq_false_iff_eq.mpr c39
                  clear c39
                  by_cases c40 : x6_3 < (t330.length : Int)
                  rotate_left
                  · rw [if_neg c40] at H
                    exact absurd H (by simp)
                  rw [if_pos c40] at H
                  have c40b0 : decide (x6_3 < (t330.length : Int)) = true := decide_eq_true c40
                  clear c40
                  obtain ⟨ji41, hji41⟩ : ∃ j_ : Int, (wrap64 (x6_3 - 1)) = j_ := ⟨_, rfl⟩
                  replace H : (if 0 ≤ (ji41) then (if (ji41) < (t330.length : Int) then (if (wrap64 ((rd t330 x6_3) - (rd t330 (ji41)))) = (-1) then (ductuslaw14_OrderOnce.l0 kj26 l0 t326 t330 (wrap64 (x6_3 + 1))) else (none)) else (none)) else (none)) = some r := by first | (rw [hji41] at H; exact H) | (simp only [hji41] at H ⊢; exact H)
                  have hji41w : (IntKind.i64.wrap (x6_3 - 1)) = ji41 := (i64_w _).trans hji41
                  by_cases c42 : 0 ≤ (ji41)
                  rotate_left
                  · rw [if_neg c42] at H
                    exact absurd H (by simp)
                  rw [if_pos c42] at H
                  have c42b0 : decide (0 ≤ (ji41)) = true := decide_eq_true c42
                  clear c42
                  by_cases c43 : (ji41) < (t330.length : Int)
                  rotate_left
                  · rw [if_neg c43] at H
                    exact absurd H (by simp)
                  rw [if_pos c43] at H
                  have c43b0 : decide ((ji41) < (t330.length : Int)) = true := decide_eq_true c43
                  clear c43
                  by_cases c44 : (wrap64 ((rd t330 x6_3) - (rd t330 (ji41)))) = (-1)
                  rotate_left
                  · rw [if_neg c44] at H
                    exact absurd H (by simp)
                  rw [if_pos c44] at H
                  have c44b0 : ((wrap64 ((rd t330 x6_3) - (rd t330 (ji41)))) == (-1)) = true := beq_iff_eq.mpr c44
                  have c44b1 : ((wrap64 ((rd t330 x6_3) - (rd t330 (ji41)))) != (-1)) = false := bne_eq_false_iff_eq.mpr c44
                  clear c44
                  have H' := Aside0.mk H
                  clear H
                  have p338 : 0 ≤ (x6_3 : Int) := of_decide_eq_true (by first | (with_reducible assumption) | assumption)
                  have q338 : x6_3 < (l0.length : Int) := of_decide_eq_true (by first | (with_reducible assumption) | assumption)
                  obtain ⟨ad338, e338, hx338_0⟩ := Kd.at_int HR0.out x6_3 p338 q338
                  cases e338
                  replace hx338_0 := (HB.out.cell (World.block_lt_of_cell? w _ hx338_0)).trans hx338_0
                  replace p338 := eq_true p338
                  replace q338 := eq_true q338
                  have p339 : 0 ≤ (x6_3 : Int) := of_decide_eq_true (by first | (with_reducible assumption) | assumption)
                  have q339 : x6_3 < (t330.length : Int) := of_decide_eq_true (by first | (with_reducible assumption) | assumption)
                  obtain ⟨ad339, e339, hx339_0⟩ := Kd.at_int (Kd.R_reads' HO_4.out).2.2 x6_3 p339 q339
                  obtain rfl : ad335 = ad339 := (by injection e339)
                  replace p339 := eq_true p339
                  replace q339 := eq_true q339
                  have p340 : 0 ≤ ((ji41) : Int) := of_decide_eq_true (by first | (with_reducible assumption) | assumption)
                  have q340 : (ji41) < (t330.length : Int) := of_decide_eq_true (by first | (with_reducible assumption) | assumption)
                  obtain ⟨ad340, e340, hx340_0⟩ := Kd.at_int (Kd.R_reads' HO_4.out).2.2 (ji41) p340 q340
                  obtain rfl : ad335 = ad340 := (by injection e340)
                  replace p340 := eq_true p340
                  replace q340 := eq_true q340
                  go_wp2
                  repeat (go_quiet (fail); try go_wp2)
                  go_roundg kj26
                  case measure => have := HJ6.out; have := HJ15.out; have := HK3.out; have := HJ26.out; omega
                  case rel => exact ⟨(wrap64 (x6_3 + 1)), (by first | rfl | (simp; done) | (simp [*]; done)), H', ⟨by have := HJ6.out; have := HJ15.out; have := HK3.out; have := HJ26.out; omega⟩, ⟨by (with_reducible repeat (first | apply Kd.R_alloc | apply Kd.R_drewN | apply Kd.R_drew)); exact HO_3.out⟩, ⟨by (with_reducible repeat (first | apply Kd.R_alloc | apply Kd.R_drewN | apply Kd.R_drew)); exact HO_4.out⟩, ⟨by repeat (first | (with_reducible first | exact HB.out | apply below_alloc | apply pw_below_drewN | apply below_drew1) | exact HB.out)⟩⟩

/-- THE ONE PURE STATEMENT of ductuslaw14_OrderOnce: yours. -/
def ductuslaw14_OrderOnce.Pure : Prop := ∀ (l0 : List Int), l0.length ≤ maxLen → l0.length * 8 ≤ 140737488351232 → (∀ x ∈ l0, (Lit.int .i64 x).wf = true) → ∃ k, ductuslaw14_OrderOnce.f k l0 = some true
theorem ductuslaw14_OrderOnce.walk (P : ductuslaw14_OrderOnce.Pure) (a0 : Option Addr) (len0 cap0 : Nat) (z0 : List Int) (w : World) (w0 : (a0 = none ∧ len0 = 0 ∧ cap0 = 0 ∧ z0 = []) ∨ ∃ x, a0 = some x ∧ len0 ≤ cap0 ∧ cap0 ≤ maxLen ∧ z0.length = cap0 ∧ (∀ i, i < z0.length → w.cell? (x.add i) = some (.int .i64 (z0.getD i 0))) ∧ ∀ n ∈ z0, (Lit.int .i64 n).wf = true) (y0 : len0 * 8 ≤ 140737488351232) :
    Calls Try.prog 4 #[.slice a0 len0 cap0] w fun e w' => e = .returned (.bool true) ∧ Below w.heap.size w w' := by
  obtain ⟨l0, rfl, hr0, hm0, hw0, hc0⟩ := ReadsInt.ofRowC w0
  obtain ⟨k, h⟩ := P l0 hm0 y0 hw0
  refine (ductuslaw14_OrderOnce.calls k _ _ l0 true w (Kd.C_of_reads (d := (0 : Int)) (h1 := fun _ => rfl) hr0) hc0 h).mono ?_
  rintro e w' ⟨rfl, hd⟩
  exact ⟨rfl, hd⟩

end Go.Proofs.Ytcmcajjdcbkfkaa.P
