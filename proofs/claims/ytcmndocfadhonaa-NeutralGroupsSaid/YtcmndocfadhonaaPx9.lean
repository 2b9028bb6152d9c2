/- Printed by a program of this claim's own over the translation: Lean functions of the Go functions, each with its proof; no condition beyond those written. -/
import Derived.Test.YtcmndocfadhonaaPx0
import Derived.Test.YtcmndocfadhonaaPx2
import Derived.Test.YtcmndocfadhonaaPx4
namespace Go.Proofs.Ytcmndocfadhonaa.P
open Go.RowKit Go.Proofs.YtcmndocfadhonaaW.PrintWords Go.Proofs.YtcmndocfadhonaaW.PrintLast Go.Proofs.YtcmndocfadhonaaW.PrintMore
attribute [local go_sem] max2_int min2_int max_two min_two max_three min_three max_four min_four   -- for this text's walks alone
set_option linter.unusedVariables false
set_option linter.unusedSimpArgs false

/-! ### ductuslaw11_NeutralGroups: function 6 -/
mutual
def ductuslaw11_NeutralGroups.l0 : Nat → List Int → List (S38) → Int → Int → Option (Bool)
  | 0, _, _, _, _ => none
  | k + 1, x0, x3, x4, x5 => if x5 < (x3.length : Int) then (if 0 ≤ x5 then (if ((rd_T38 x3 x5).f0) < 0 then (none) else (if ((rd_T38 x3 x5).f0) ≥ ((rd_T38 x3 x5).f1) then (none) else (if ((rd_T38 x3 x5).f1) > (x0.length : Int) then (none) else (if x5 > 0 then (if 0 ≤ (wrap64 (x5 - 1)) then (if (wrap64 (x5 - 1)) < (x3.length : Int) then (ductuslaw11_NeutralGroups.j1 k x0 x3 x4 x5 (decide (((rd_T38 x3 (wrap64 (x5 - 1))).f1) ≥ ((rd_T38 x3 x5).f0)))) else (none)) else (none)) else (ductuslaw11_NeutralGroups.j1 k x0 x3 x4 x5 false))))) else (none)) else (ductuslaw11_NeutralGroups.l2 k x0 x4 0 0)
def ductuslaw11_NeutralGroups.j1 : Nat → List Int → List (S38) → Int → Int → Bool → Option (Bool)
  | 0, _, _, _, _, _ => none
  | k + 1, x0, x3, x4, x5, x68 => if x68 = true then (none) else (if 0 ≤ x5 then (if x5 < (x3.length : Int) then (ductuslaw11_NeutralGroups.l1 k x0 x3 x4 x5 ((rd_T38 x3 x5).f0)) else (none)) else (none))
def ductuslaw11_NeutralGroups.l1 : Nat → List Int → List (S38) → Int → Int → Int → Option (Bool)
  | 0, _, _, _, _, _ => none
  | k + 1, x0, x3, x4, x5, x6 => if 0 ≤ x5 then (if x5 < (x3.length : Int) then (if x6 < ((rd_T38 x3 x5).f1) then (if 0 ≤ x6 then (if x6 < (x0.length : Int) then ((ductusref02_Neutral.f (rd x0 x6)).bind fun t309 => (if t309 = true then (ductuslaw11_NeutralGroups.l1 k x0 x3 (wrap64 (x4 + 1)) x5 (wrap64 (x6 + 1))) else (none))) else (none)) else (none)) else (ductuslaw11_NeutralGroups.l0 k x0 x3 x4 (wrap64 (x5 + 1)))) else (none)) else (none)
def ductuslaw11_NeutralGroups.l2 : Nat → List Int → Int → Int → Int → Option (Bool)
  | 0, _, _, _, _ => none
  | k + 1, x0, x4, x7, x8 => if x8 < (x0.length : Int) then (if 0 ≤ x8 then ((ductusref02_Neutral.f (rd x0 x8)).bind fun t311 => (if t311 = true then (ductuslaw11_NeutralGroups.l2 k x0 x4 (wrap64 (x7 + 1)) (wrap64 (x8 + 1))) else (ductuslaw11_NeutralGroups.l2 k x0 x4 x7 (wrap64 (x8 + 1))))) else (none)) else (some (x4 == x7))
end
def ductuslaw11_NeutralGroups.f (k : Nat) (l0 : List Int) : Option (Bool) := (ductuslaw11_alive.f k).bind fun t296 => (if t296 = true then (if (l0.length : Int) > 500 then (some true) else ((neutral_Groups.f k l0).bind fun t297 => (ductuslaw11_NeutralGroups.l0 k l0 t297 0 0))) else (none))
theorem ductuslaw11_NeutralGroups.mono_l : ∀ k, (∀ y0 y1 y2 y3, LeO (ductuslaw11_NeutralGroups.l0 k y0 y1 y2 y3) (ductuslaw11_NeutralGroups.l0 (k + 1) y0 y1 y2 y3)) ∧ (∀ y0 y1 y2 y3 y4, LeO (ductuslaw11_NeutralGroups.j1 k y0 y1 y2 y3 y4) (ductuslaw11_NeutralGroups.j1 (k + 1) y0 y1 y2 y3 y4)) ∧ (∀ y0 y1 y2 y3 y4, LeO (ductuslaw11_NeutralGroups.l1 k y0 y1 y2 y3 y4) (ductuslaw11_NeutralGroups.l1 (k + 1) y0 y1 y2 y3 y4)) ∧ (∀ y0 y1 y2 y3, LeO (ductuslaw11_NeutralGroups.l2 k y0 y1 y2 y3) (ductuslaw11_NeutralGroups.l2 (k + 1) y0 y1 y2 y3))
  | 0 => ⟨fun _ _ _ _ r h => by simp [ductuslaw11_NeutralGroups.l0] at h, fun _ _ _ _ _ r h => by simp [ductuslaw11_NeutralGroups.j1] at h, fun _ _ _ _ _ r h => by simp [ductuslaw11_NeutralGroups.l1] at h, fun _ _ _ _ r h => by simp [ductuslaw11_NeutralGroups.l2] at h⟩
  | k + 1 => by
    obtain ⟨ih0, ih1, ih2, ih3⟩ := ductuslaw11_NeutralGroups.mono_l k
    refine ⟨?_, ?_, ?_, ?_⟩
    · intro y0 y1 y2 y3
      unfold ductuslaw11_NeutralGroups.l0
      repeat' first
      | (with_reducible exact ih0 _ _ _ _)
      | (with_reducible exact ih1 _ _ _ _ _)
      | (with_reducible exact ih2 _ _ _ _ _)
      | (with_reducible exact ih3 _ _ _ _)
      | (with_reducible exact ductuslaw11_alive.mono _)
      | (with_reducible exact neutral_Groups.mono _ _)
      | (with_reducible exact LeO.refl _)
      | (with_reducible exact LeO.none _)
      | (with_reducible refine LeO.ite ?_ ?_)
      | (with_reducible refine LeO.bind ?_ (fun _ => ?_))
      | exact ih0 _ _ _ _
      | exact ih1 _ _ _ _ _
      | exact ih2 _ _ _ _ _
      | exact ih3 _ _ _ _
      | exact ductuslaw11_alive.mono _
      | exact neutral_Groups.mono _ _
      | exact LeO.none _
      | refine LeO.ite ?_ ?_
      | refine LeO.bind ?_ (fun _ => ?_)
    · intro y0 y1 y2 y3 y4
      unfold ductuslaw11_NeutralGroups.j1
      repeat' first
      | (with_reducible exact ih0 _ _ _ _)
      | (with_reducible exact ih1 _ _ _ _ _)
      | (with_reducible exact ih2 _ _ _ _ _)
      | (with_reducible exact ih3 _ _ _ _)
      | (with_reducible exact ductuslaw11_alive.mono _)
      | (with_reducible exact neutral_Groups.mono _ _)
      | (with_reducible exact LeO.refl _)
      | (with_reducible exact LeO.none _)
      | (with_reducible refine LeO.ite ?_ ?_)
      | (with_reducible refine LeO.bind ?_ (fun _ => ?_))
      | exact ih0 _ _ _ _
      | exact ih1 _ _ _ _ _
      | exact ih2 _ _ _ _ _
      | exact ih3 _ _ _ _
      | exact ductuslaw11_alive.mono _
      | exact neutral_Groups.mono _ _
      | exact LeO.none _
      | refine LeO.ite ?_ ?_
      | refine LeO.bind ?_ (fun _ => ?_)
    · intro y0 y1 y2 y3 y4
      unfold ductuslaw11_NeutralGroups.l1
      repeat' first
      | (with_reducible exact ih0 _ _ _ _)
      | (with_reducible exact ih1 _ _ _ _ _)
      | (with_reducible exact ih2 _ _ _ _ _)
      | (with_reducible exact ih3 _ _ _ _)
      | (with_reducible exact ductuslaw11_alive.mono _)
      | (with_reducible exact neutral_Groups.mono _ _)
      | (with_reducible exact LeO.refl _)
      | (with_reducible exact LeO.none _)
      | (with_reducible refine LeO.ite ?_ ?_)
      | (with_reducible refine LeO.bind ?_ (fun _ => ?_))
      | exact ih0 _ _ _ _
      | exact ih1 _ _ _ _ _
      | exact ih2 _ _ _ _ _
      | exact ih3 _ _ _ _
      | exact ductuslaw11_alive.mono _
      | exact neutral_Groups.mono _ _
      | exact LeO.none _
      | refine LeO.ite ?_ ?_
      | refine LeO.bind ?_ (fun _ => ?_)
    · intro y0 y1 y2 y3
      unfold ductuslaw11_NeutralGroups.l2
      repeat' first
      | (with_reducible exact ih0 _ _ _ _)
      | (with_reducible exact ih1 _ _ _ _ _)
      | (with_reducible exact ih2 _ _ _ _ _)
      | (with_reducible exact ih3 _ _ _ _)
      | (with_reducible exact ductuslaw11_alive.mono _)
      | (with_reducible exact neutral_Groups.mono _ _)
      | (with_reducible exact LeO.refl _)
      | (with_reducible exact LeO.none _)
      | (with_reducible refine LeO.ite ?_ ?_)
      | (with_reducible refine LeO.bind ?_ (fun _ => ?_))
      | exact ih0 _ _ _ _
      | exact ih1 _ _ _ _ _
      | exact ih2 _ _ _ _ _
      | exact ih3 _ _ _ _
      | exact ductuslaw11_alive.mono _
      | exact neutral_Groups.mono _ _
      | exact LeO.none _
      | refine LeO.ite ?_ ?_
      | refine LeO.bind ?_ (fun _ => ?_)
theorem ductuslaw11_NeutralGroups.mono : ∀ a0 k, LeO (ductuslaw11_NeutralGroups.f k a0) (ductuslaw11_NeutralGroups.f (k + 1) a0) := by
  intro a0 k
  obtain ⟨ih0, ih1, ih2, ih3⟩ := ductuslaw11_NeutralGroups.mono_l k
  unfold ductuslaw11_NeutralGroups.f
  repeat' first
      | (with_reducible exact ih0 _ _ _ _)
      | (with_reducible exact ih1 _ _ _ _ _)
      | (with_reducible exact ih2 _ _ _ _ _)
      | (with_reducible exact ih3 _ _ _ _)
      | (with_reducible exact ductuslaw11_alive.mono _)
      | (with_reducible exact neutral_Groups.mono _ _)
      | (with_reducible exact LeO.refl _)
      | (with_reducible exact LeO.none _)
      | (with_reducible refine LeO.ite ?_ ?_)
      | (with_reducible refine LeO.bind ?_ (fun _ => ?_))
      | exact ih0 _ _ _ _
      | exact ih1 _ _ _ _ _
      | exact ih2 _ _ _ _ _
      | exact ih3 _ _ _ _
      | exact ductuslaw11_alive.mono _
      | exact neutral_Groups.mono _ _
      | exact LeO.none _
      | refine LeO.ite ?_ ?_
      | refine LeO.bind ?_ (fun _ => ?_)
set_option maxHeartbeats 8000000 in
set_option maxRecDepth 100000 in
theorem ductuslaw11_NeutralGroups.calls (k : Nat) (A0 : Option Addr) (c0 : Nat) (l0 : List Int) (r : Bool) (w : World) (hr0 : Kd.C (Kd.int .i64) w A0 l0.length l0) (hc0 : l0.length ≤ c0) (h : ductuslaw11_NeutralGroups.f k l0 = some r) :
    Calls Try.prog 6 #[.slice A0 l0.length c0] w fun e w' => e = .returned (.bool r) ∧ Below w.heap.size w w' := by
  have HR0 := Aside0.mk hr0
  have HC0 := Aside0.mk hc0
  clear hr0 hc0
  have HB := Aside0.mk (Below.refl w.heap.size w)
  have H : ((ductuslaw11_alive.f k).bind fun t296 => (if t296 = true then (if (l0.length : Int) > 500 then (some true) else ((neutral_Groups.f k l0).bind fun t297 => (ductuslaw11_NeutralGroups.l0 k l0 t297 0 0))) else (none))) = some r := h
  clear h
  replace H := Option.bind_eq_some_iff.mp H
  obtain ⟨t296, A20, H⟩ := H
  replace H : (if t296 = true then (if (l0.length : Int) > 500 then (some true) else ((neutral_Groups.f k l0).bind fun t297 => (ductuslaw11_NeutralGroups.l0 k l0 t297 0 0))) else (none)) = some r := H
  have A2 := Aside0.mk A20
  clear A20
  by_cases c3 : t296 = true
  rotate_left
  · replace c3 := Bool.eq_false_iff.mpr c3
    subst c3
    have H1 : (none) = some r := by rw [if_neg (show ¬ (false = true) by decide)] at H; exact H
    clear H
    have H := H1
    clear H1
    exact absurd H (by simp)
  subst c3
  have H1 : (if (l0.length : Int) > 500 then (some true) else ((neutral_Groups.f k l0).bind fun t297 => (ductuslaw11_NeutralGroups.l0 k l0 t297 0 0))) = some r := by rw [if_pos rfl] at H; exact H
  clear H
  have H := H1
  clear H1
  by_cases c4 : (l0.length : Int) > 500
  · rw [if_pos c4] at H
    have c4b0 : decide (500 < (l0.length : Int)) = true := decide_eq_true c4
    have c4b1 : decide (500 < l0.length) = true := decide_eq_true (by omega)
    clear c4
    obtain rfl := Option.some.inj H
    go_enter Try.func6, Try.ntmps6
    go_wp2_with (first | (go_at_call 7; (with_reducible refine (ductuslaw11_alive.calls k  true _ A2.out).mono ?_); rintro e w5 ⟨rfl, hb⟩; have n0_ := Aside0.mk (below_step (by repeat (first | (with_reducible first | exact HB.out | apply below_alloc | apply pw_below_drewN | apply below_drew1) | exact HB.out)) hb); clear HB; have HB := n0_; clear n0_; (try clear hb); (try clear hb2); (try clear hk); (try clear hi)))
    repeat (go_quiet (first | (go_at_call 7; (with_reducible refine (ductuslaw11_alive.calls k  true _ A2.out).mono ?_); rintro e w5 ⟨rfl, hb⟩; have n0_ := Aside0.mk (below_step (by repeat (first | (with_reducible first | exact HB.out | apply below_alloc | apply pw_below_drewN | apply below_drew1) | exact HB.out)) hb); clear HB; have HB := n0_; clear n0_; (try clear hb); (try clear hb2); (try clear hk); (try clear hi))); try go_wp2_with (first | (go_at_call 7; (with_reducible refine (ductuslaw11_alive.calls k  true _ A2.out).mono ?_); rintro e w5 ⟨rfl, hb⟩; have n0_ := Aside0.mk (below_step (by repeat (first | (with_reducible first | exact HB.out | apply below_alloc | apply pw_below_drewN | apply below_drew1) | exact HB.out)) hb); clear HB; have HB := n0_; clear n0_; (try clear hb); (try clear hb2); (try clear hk); (try clear hi))))
    go_ret
    exact ⟨by first | rfl | (simp [errW_none, errW_some] <;> rfl) | (simp [*, errW_none, errW_some] <;> rfl), by repeat (first | (with_reducible first | exact HB.out | apply below_alloc | apply pw_below_drewN | apply below_drew1) | exact HB.out)⟩
  rw [if_neg c4] at H
  have c4b0 : decide (500 < (l0.length : Int)) = false := decide_eq_false c4
  have c4b1 : decide (500 < l0.length) = false := decide_eq_false (by omega)
  clear c4
  replace H := Option.bind_eq_some_iff.mp H
  obtain ⟨t297, A60, H⟩ := H
  replace H : (ductuslaw11_NeutralGroups.l0 k l0 t297 0 0) = some r := H
  have A6 := Aside0.mk A60
  clear A60
  have H' := Aside0.mk H
  clear H
  go_enter Try.func6, Try.ntmps6
  go_wp2_with (first | (go_at_call 7; (with_reducible refine (ductuslaw11_alive.calls k  true _ A2.out).mono ?_); rintro e w7 ⟨rfl, hb⟩; have n0_ := Aside0.mk (below_step (by repeat (first | (with_reducible first | exact HB.out | apply below_alloc | apply pw_below_drewN | apply below_drew1) | exact HB.out)) hb); clear HB; have HB := n0_; clear n0_; (try clear hb); (try clear hb2); (try clear hk); (try clear hi)) | (go_at_call 12; (with_reducible refine (neutral_Groups.calls k _ _ l0 t297 _ ?side1 ?side2 A6.out).mono ?_); (case side1 => repeat (first | exact (Kd.C_below HR0.out HB.out) | (with_reducible refine Kd.C_alloc ?_ _) | (with_reducible refine Kd.C_drewN ?_ _) | (with_reducible refine Kd.C_drew ?_))); (case side2 => exact HC0.out); rintro e w8 ⟨v298, rfl, ho0, hb⟩; have n0_ := Aside0.mk (Kd.R_lower ho0 (below_size (by repeat (first | (with_reducible first | exact HB.out | apply below_alloc | apply pw_below_drewN | apply below_drew1) | exact HB.out)))); have n1_ := Aside0.mk (below_step (by repeat (first | (with_reducible first | exact HB.out | apply below_alloc | apply pw_below_drewN | apply below_drew1) | exact HB.out)) hb); clear HB; have HO299 := n0_; have HB := n1_; clear n0_ n1_; (try clear hb); (try clear hb2); (try clear hk); (try clear hi); (try clear ho0)))
  repeat (go_quiet (first | (go_at_call 7; (with_reducible refine (ductuslaw11_alive.calls k  true _ A2.out).mono ?_); rintro e w7 ⟨rfl, hb⟩; have n0_ := Aside0.mk (below_step (by repeat (first | (with_reducible first | exact HB.out | apply below_alloc | apply pw_below_drewN | apply below_drew1) | exact HB.out)) hb); clear HB; have HB := n0_; clear n0_; (try clear hb); (try clear hb2); (try clear hk); (try clear hi)) | (go_at_call 12; (with_reducible refine (neutral_Groups.calls k _ _ l0 t297 _ ?side1 ?side2 A6.out).mono ?_); (case side1 => repeat (first | exact (Kd.C_below HR0.out HB.out) | (with_reducible refine Kd.C_alloc ?_ _) | (with_reducible refine Kd.C_drewN ?_ _) | (with_reducible refine Kd.C_drew ?_))); (case side2 => exact HC0.out); rintro e w8 ⟨v298, rfl, ho0, hb⟩; have n0_ := Aside0.mk (Kd.R_lower ho0 (below_size (by repeat (first | (with_reducible first | exact HB.out | apply below_alloc | apply pw_below_drewN | apply below_drew1) | exact HB.out)))); have n1_ := Aside0.mk (below_step (by repeat (first | (with_reducible first | exact HB.out | apply below_alloc | apply pw_below_drewN | apply below_drew1) | exact HB.out)) hb); clear HB; have HO299 := n0_; have HB := n1_; clear n0_ n1_; (try clear hb); (try clear hb2); (try clear hk); (try clear hi); (try clear ho0))); try go_wp2_with (first | (go_at_call 7; (with_reducible refine (ductuslaw11_alive.calls k  true _ A2.out).mono ?_); rintro e w7 ⟨rfl, hb⟩; have n0_ := Aside0.mk (below_step (by repeat (first | (with_reducible first | exact HB.out | apply below_alloc | apply pw_below_drewN | apply below_drew1) | exact HB.out)) hb); clear HB; have HB := n0_; clear n0_; (try clear hb); (try clear hb2); (try clear hk); (try clear hi)) | (go_at_call 12; (with_reducible refine (neutral_Groups.calls k _ _ l0 t297 _ ?side1 ?side2 A6.out).mono ?_); (case side1 => repeat (first | exact (Kd.C_below HR0.out HB.out) | (with_reducible refine Kd.C_alloc ?_ _) | (with_reducible refine Kd.C_drewN ?_ _) | (with_reducible refine Kd.C_drew ?_))); (case side2 => exact HC0.out); rintro e w8 ⟨v298, rfl, ho0, hb⟩; have n0_ := Aside0.mk (Kd.R_lower ho0 (below_size (by repeat (first | (with_reducible first | exact HB.out | apply below_alloc | apply pw_below_drewN | apply below_drew1) | exact HB.out)))); have n1_ := Aside0.mk (below_step (by repeat (first | (with_reducible first | exact HB.out | apply below_alloc | apply pw_below_drewN | apply below_drew1) | exact HB.out)) hb); clear HB; have HO299 := n0_; have HB := n1_; clear n0_ n1_; (try clear hb); (try clear hb2); (try clear hk); (try clear hi); (try clear ho0))))
  go_loopg [4, 5] k (fun kq v4 v5 w' => ∃ (x4_1 : Int) (x5_1 : Int), v4 = .int .i64 x4_1 ∧ v5 = .int .i64 x5_1 ∧ Aside0 (ductuslaw11_NeutralGroups.l0 kq l0 t297 x4_1 x5_1 = some r) ∧ Aside0 (kq ≤ k) ∧ Aside0 (Kd.R k38 38 w' w.heap.size (fun _ => True) v298 t297) ∧ Aside0 (Below w.heap.size w w'))
  case atStart => exact ⟨(0), (0), (by first | rfl | (simp; done) | (simp [*]; done)), (by first | rfl | (simp; done) | (simp [*]; done)), H', ⟨Nat.le_refl _⟩, ⟨by (with_reducible repeat (first | apply Kd.R_alloc | apply Kd.R_drewN | apply Kd.R_drew)); exact HO299.out⟩, ⟨by repeat (first | (with_reducible first | exact HB.out | apply below_alloc | apply pw_below_drewN | apply below_drew1) | exact HB.out)⟩⟩
  case round =>
    clear H'
    try clear p2
    try clear c3
    try clear c4
    try clear c4b0
    try clear c4b1
    try clear c6
    obtain ⟨x4_1, x5_1, rfl, rfl, HA, HK1, HO_3, HB⟩ := hrel
    cases gk with
    | zero => exact absurd HA.out (by simp [ductuslaw11_NeutralGroups.l0])
    | succ k1 =>
      have H := HA.out
      clear HA
      simp only [ductuslaw11_NeutralGroups.l0] at H
      by_cases c9 : x5_1 < (t297.length : Int)
      rotate_left
      · rw [if_neg c9] at H
        have c9b0 : decide (x5_1 < (t297.length : Int)) = false := decide_eq_false c9
        clear c9
        have H' := Aside0.mk H
        clear H
        obtain ⟨Ao30, co30, eo30⟩ := Kd.R_slice HO_3.out
        subst eo30
        go_wp2
        repeat (go_quiet (fail); try go_wp2)
        go_loopg [7, 8] k1 (fun kq v7 v8 w' => ∃ (x7_2 : Int) (x8_2 : Int), v7 = .int .i64 x7_2 ∧ v8 = .int .i64 x8_2 ∧ Aside0 (ductuslaw11_NeutralGroups.l2 kq l0 x4_1 x7_2 x8_2 = some r) ∧ Aside0 (kq ≤ k1) ∧ Aside0 (Below w.heap.size w w'))
        case atStart => exact ⟨(0), (0), (by first | rfl | (simp; done) | (simp [*]; done)), (by first | rfl | (simp; done) | (simp [*]; done)), H', ⟨Nat.le_refl _⟩, ⟨by repeat (first | (with_reducible first | exact HB.out | apply below_alloc | apply pw_below_drewN | apply below_drew1) | exact HB.out)⟩⟩
        case round =>
          clear H'
          try clear c1
          try clear c2
          try clear p2
          try clear c3
          try clear p3
          try clear q3
          try clear hx3
          try clear c4
          try clear c4b0
          try clear c4b1
          try clear c6
          try clear p6
          try clear c9
          try clear c9b0
          try clear c12
          try clear c12b0
          try clear c13
          try clear c13b0
          try clear c14
          try clear c14b0
          try clear c15
          try clear c15b0
          try clear c16
          try clear c16b0
          try clear c18
          try clear c18b0
          try clear c19
          try clear c19b0
          try clear c20
          try clear c21
          try clear c21b0
          try clear c22
          try clear c22b0
          try clear c23
          try clear c23b0
          try clear c24
          try clear c24b0
          try clear c25
          try clear c25b0
          try clear c26
          try clear c26b0
          try clear c27
          try clear c27b0
          try clear c29
          try clear p30
          try clear q30
          try clear hx30
          try clear hx300_0
          try clear hx300_1
          try clear hx301_0
          try clear hx301_1
          try clear hx302_0
          try clear hx302_1
          try clear hx303_0
          try clear hx303_1
          try clear hx304_0
          try clear hx304_1
          try clear hx305_0
          try clear hx305_1
          try clear hx306_0
          try clear hx306_1
          try clear hx307_0
          try clear hx307_1
          try clear hx308_0
          try clear p2
          try clear p3
          try clear p300
          try clear p301
          try clear p302
          try clear p303
          try clear p304
          try clear p305
          try clear p306
          try clear p307
          try clear p308
          try clear p6
          try clear q3
          try clear q300
          try clear q301
          try clear q302
          try clear q303
          try clear q304
          try clear q305
          try clear q306
          try clear q307
          try clear q308
          obtain ⟨x7_2, x8_2, rfl, rfl, HA, HK2, HB⟩ := hrel
          cases gk with
          | zero => exact absurd HA.out (by simp [ductuslaw11_NeutralGroups.l2])
          | succ k2 =>
            have H := HA.out
            clear HA
            simp only [ductuslaw11_NeutralGroups.l2] at H
            by_cases c31 : x8_2 < (l0.length : Int)
            rotate_left
            · rw [if_neg c31] at H
              have c31b0 : decide (x8_2 < (l0.length : Int)) = false := decide_eq_false c31
              clear c31
              obtain rfl := Option.some.inj H
              go_wp2
              repeat (go_quiet (fail); try go_wp2)
              go_ret
              exact ⟨by first | rfl | (simp [errW_none, errW_some] <;> rfl) | (simp [*, errW_none, errW_some] <;> rfl), by repeat (first | (with_reducible first | exact HB.out | apply below_alloc | apply pw_below_drewN | apply below_drew1) | exact HB.out)⟩
            rw [if_pos c31] at H
            have c31b0 : decide (x8_2 < (l0.length : Int)) = true := decide_eq_true c31
            clear c31
            by_cases c32 : 0 ≤ x8_2
            rotate_left
            · rw [if_neg c32] at H
              exact absurd H (by simp)
            rw [if_pos c32] at H
            have c32b0 : decide (0 ≤ x8_2) = true := decide_eq_true c32
            clear c32
            replace H := Option.bind_eq_some_iff.mp H
            obtain ⟨t311, A330, H⟩ := H
            replace H : (if t311 = true then (ductuslaw11_NeutralGroups.l2 k2 l0 x4_1 (wrap64 (x7_2 + 1)) (wrap64 (x8_2 + 1))) else (ductuslaw11_NeutralGroups.l2 k2 l0 x4_1 x7_2 (wrap64 (x8_2 + 1)))) = some r := H
            have A33 := Aside0.mk A330
            clear A330
            by_cases c34 : t311 = true
            · subst c34
              have H1 : (ductuslaw11_NeutralGroups.l2 k2 l0 x4_1 (wrap64 (x7_2 + 1)) (wrap64 (x8_2 + 1))) = some r := by rw [if_pos rfl] at H; exact H
              clear H
              have H := H1
              clear H1
              have H' := Aside0.mk H
              clear H
              have p310 : 0 ≤ (x8_2 : Int) := of_decide_eq_true (by first | (with_reducible assumption) | assumption)
              have q310 : x8_2 < (l0.length : Int) := of_decide_eq_true (by first | (with_reducible assumption) | assumption)
              obtain ⟨ad310, e310, hx310_0⟩ := Kd.at_int HR0.out x8_2 p310 q310
              cases e310
              replace hx310_0 := (HB.out.cell (World.block_lt_of_cell? w _ hx310_0)).trans hx310_0
              replace p310 := eq_true p310
              replace q310 := eq_true q310
              go_wp2_with (first | (go_at_call 18; (with_reducible refine (ductusref02_Neutral.calls (rd l0 x8_2) true _ A33.out).mono ?_); rintro e w' ⟨rfl, ⟨nd, rfl⟩⟩; (try first | exact ⟨rfl, _, World.drewN_drewN _ _ _⟩ | exact ⟨rfl, _, Eq.trans (World.drewN_drewN _ _ _) (congrArg (World.drewN _) (Nat.add_assoc _ _ _))⟩)))
              repeat (go_quiet (first | (go_at_call 18; (with_reducible refine (ductusref02_Neutral.calls (rd l0 x8_2) true _ A33.out).mono ?_); rintro e w' ⟨rfl, ⟨nd, rfl⟩⟩; (try first | exact ⟨rfl, _, World.drewN_drewN _ _ _⟩ | exact ⟨rfl, _, Eq.trans (World.drewN_drewN _ _ _) (congrArg (World.drewN _) (Nat.add_assoc _ _ _))⟩))); try go_wp2_with (first | (go_at_call 18; (with_reducible refine (ductusref02_Neutral.calls (rd l0 x8_2) true _ A33.out).mono ?_); rintro e w' ⟨rfl, ⟨nd, rfl⟩⟩; (try first | exact ⟨rfl, _, World.drewN_drewN _ _ _⟩ | exact ⟨rfl, _, Eq.trans (World.drewN_drewN _ _ _) (congrArg (World.drewN _) (Nat.add_assoc _ _ _))⟩))))
              go_roundg k2
              case measure => have := HK1.out; have := HK2.out; omega
              case rel => exact ⟨(wrap64 (x7_2 + 1)), (wrap64 (x8_2 + 1)), (by first | rfl | (simp; done) | (simp [*]; done)), (by first | rfl | (simp; done) | (simp [*]; done)), H', ⟨by have := HK1.out; have := HK2.out; omega⟩, ⟨by repeat (first | (with_reducible first | exact HB.out | apply below_alloc | apply pw_below_drewN | apply below_drew1) | exact HB.out)⟩⟩
            replace c34 := Bool.eq_false_iff.mpr c34
            subst c34
            have H1 : (ductuslaw11_NeutralGroups.l2 k2 l0 x4_1 x7_2 (wrap64 (x8_2 + 1))) = some r := by rw [if_neg (show ¬ (false = true) by decide)] at H; exact H
            clear H
            have H := H1
            clear H1
            have H' := Aside0.mk H
            clear H
            have p310 : 0 ≤ (x8_2 : Int) := of_decide_eq_true (by first | (with_reducible assumption) | assumption)
            have q310 : x8_2 < (l0.length : Int) := of_decide_eq_true (by first | (with_reducible assumption) | assumption)
            obtain ⟨ad310, e310, hx310_0⟩ := Kd.at_int HR0.out x8_2 p310 q310
            cases e310
            replace hx310_0 := (HB.out.cell (World.block_lt_of_cell? w _ hx310_0)).trans hx310_0
            replace p310 := eq_true p310
            replace q310 := eq_true q310
            go_wp2_with (first | (go_at_call 18; (with_reducible refine (ductusref02_Neutral.calls (rd l0 x8_2) false _ A33.out).mono ?_); rintro e w' ⟨rfl, ⟨nd, rfl⟩⟩; (try first | exact ⟨rfl, _, World.drewN_drewN _ _ _⟩ | exact ⟨rfl, _, Eq.trans (World.drewN_drewN _ _ _) (congrArg (World.drewN _) (Nat.add_assoc _ _ _))⟩)))
            repeat (go_quiet (first | (go_at_call 18; (with_reducible refine (ductusref02_Neutral.calls (rd l0 x8_2) false _ A33.out).mono ?_); rintro e w' ⟨rfl, ⟨nd, rfl⟩⟩; (try first | exact ⟨rfl, _, World.drewN_drewN _ _ _⟩ | exact ⟨rfl, _, Eq.trans (World.drewN_drewN _ _ _) (congrArg (World.drewN _) (Nat.add_assoc _ _ _))⟩))); try go_wp2_with (first | (go_at_call 18; (with_reducible refine (ductusref02_Neutral.calls (rd l0 x8_2) false _ A33.out).mono ?_); rintro e w' ⟨rfl, ⟨nd, rfl⟩⟩; (try first | exact ⟨rfl, _, World.drewN_drewN _ _ _⟩ | exact ⟨rfl, _, Eq.trans (World.drewN_drewN _ _ _) (congrArg (World.drewN _) (Nat.add_assoc _ _ _))⟩))))
            go_roundg k2
            case measure => have := HK1.out; have := HK2.out; omega
            case rel => exact ⟨(x7_2), (wrap64 (x8_2 + 1)), (by first | rfl | (simp; done) | (simp [*]; done)), (by first | rfl | (simp; done) | (simp [*]; done)), H', ⟨by have := HK1.out; have := HK2.out; omega⟩, ⟨by repeat (first | (with_reducible first | exact HB.out | apply below_alloc | apply pw_below_drewN | apply below_drew1) | exact HB.out)⟩⟩
      rw [if_pos c9] at H
      have c9b0 : decide (x5_1 < (t297.length : Int)) = true := decide_eq_true c9
      clear c9
      have HC10 := Aside0.mk H
      clear H
      obtain ⟨Ao11, co11, eo11⟩ := Kd.R_slice HO_3.out
      subst eo11
      go_upto_region 10 with (fail)
      repeat (go_quiet (fail); go_upto_region 10 with (fail))
      go_cut [68] (fun v68 wc => ∃ (kq : Nat) (x68_9 : Bool), v68 = .bool x68_9 ∧ Aside0 (ductuslaw11_NeutralGroups.j1 kq l0 t297 x4_1 x5_1 x68_9 = some r) ∧ Aside0 (kq ≤ k1) ∧ Aside0 (Kd.R k38 38 wc w.heap.size (fun _ => True) (.slice Ao11 t297.length co11) t297) ∧ Aside0 (Below w.heap.size w wc))
      case first =>
        have H := HC10.out
        clear HC10
        by_cases c12 : 0 ≤ x5_1
        rotate_left
        · rw [if_neg c12] at H
          exact absurd H (by simp)
        rw [if_pos c12] at H
        have c12b0 : decide (0 ≤ x5_1) = true := decide_eq_true c12
        clear c12
        (first | rw [c12b0] | (simp only [i64_w, i32_w]; rw [c12b0]) | skip)
        by_cases c13 : ((rd_T38 t297 x5_1).f0) < 0
        · rw [if_pos c13] at H
          exact absurd H (by simp)
        rw [if_neg c13] at H
        have c13b0 : decide (((rd_T38 t297 x5_1).f0) < 0) = false := decide_eq_false c13
        clear c13
        by_cases c14 : ((rd_T38 t297 x5_1).f0) ≥ ((rd_T38 t297 x5_1).f1)
        · rw [if_pos c14] at H
          exact absurd H (by simp)
        rw [if_neg c14] at H
        have c14b0 : decide (((rd_T38 t297 x5_1).f1) ≤ ((rd_T38 t297 x5_1).f0)) = false := decide_eq_false c14
        clear c14
        by_cases c15 : ((rd_T38 t297 x5_1).f1) > (l0.length : Int)
        · rw [if_pos c15] at H
          exact absurd H (by simp)
        rw [if_neg c15] at H
        have c15b0 : decide ((l0.length : Int) < ((rd_T38 t297 x5_1).f1)) = false := decide_eq_false c15
        clear c15
        by_cases c16 : x5_1 > 0
        rotate_left
        · rw [if_neg c16] at H
          have c16b0 : decide (0 < x5_1) = false := decide_eq_false c16
          clear c16
          have H' := Aside0.mk H
          clear H
          have p300 : 0 ≤ (x5_1 : Int) := of_decide_eq_true (by first | (with_reducible assumption) | assumption)
          have q300 : x5_1 < (t297.length : Int) := of_decide_eq_true (by first | (with_reducible assumption) | assumption)
          obtain ⟨ad300, e300, hx300_0, hx300_1⟩ := at_T38 (Kd.R_reads' HO_3.out).2.2 x5_1 p300 q300
          cases e300
          replace p300 := eq_true p300
          replace q300 := eq_true q300
          have p301 : 0 ≤ (x5_1 : Int) := of_decide_eq_true (by first | (with_reducible assumption) | assumption)
          have q301 : x5_1 < (t297.length : Int) := of_decide_eq_true (by first | (with_reducible assumption) | assumption)
          obtain ⟨ad301, e301, hx301_0, hx301_1⟩ := at_T38 (Kd.R_reads' HO_3.out).2.2 x5_1 p301 q301
          obtain rfl : ad300 = ad301 := (by injection e301)
          replace p301 := eq_true p301
          replace q301 := eq_true q301
          have p302 : 0 ≤ (x5_1 : Int) := of_decide_eq_true (by first | (with_reducible assumption) | assumption)
          have q302 : x5_1 < (t297.length : Int) := of_decide_eq_true (by first | (with_reducible assumption) | assumption)
          obtain ⟨ad302, e302, hx302_0, hx302_1⟩ := at_T38 (Kd.R_reads' HO_3.out).2.2 x5_1 p302 q302
          obtain rfl : ad300 = ad302 := (by injection e302)
          replace p302 := eq_true p302
          replace q302 := eq_true q302
          have p303 : 0 ≤ (x5_1 : Int) := of_decide_eq_true (by first | (with_reducible assumption) | assumption)
          have q303 : x5_1 < (t297.length : Int) := of_decide_eq_true (by first | (with_reducible assumption) | assumption)
          obtain ⟨ad303, e303, hx303_0, hx303_1⟩ := at_T38 (Kd.R_reads' HO_3.out).2.2 x5_1 p303 q303
          obtain rfl : ad300 = ad303 := (by injection e303)
          replace p303 := eq_true p303
          replace q303 := eq_true q303
          go_wp2
          repeat (go_quiet (fail); try go_wp2)
          go_meet
          case rel => exact ⟨_, (false), (by first | rfl | (simp; done) | (simp [*]; done)), H', ⟨by have := HK1.out; first | omega | exact Nat.le_refl _⟩, ⟨by (with_reducible repeat (first | apply Kd.R_alloc | apply Kd.R_drewN | apply Kd.R_drew)); exact HO_3.out⟩, ⟨by repeat (first | (with_reducible first | exact HB.out | apply below_alloc | apply pw_below_drewN | apply below_drew1) | exact HB.out)⟩⟩
        rw [if_pos c16] at H
        have c16b0 : decide (0 < x5_1) = true := decide_eq_true c16
        clear c16
        obtain ⟨ji17, hji17⟩ : ∃ j_ : Int, (wrap64 (x5_1 - 1)) = j_ := ⟨_, rfl⟩
        replace H : (if 0 ≤ (ji17) then (if (ji17) < (t297.length : Int) then (ductuslaw11_NeutralGroups.j1 k1 l0 t297 x4_1 x5_1 (decide (((rd_T38 t297 (ji17)).f1) ≥ ((rd_T38 t297 x5_1).f0)))) else (none)) else (none)) = some r := by first | (rw [hji17] at H; exact H) | (simp only [hji17] at H ⊢; exact H)
        have hji17w : (IntKind.i64.wrap (x5_1 - 1)) = ji17 := (i64_w _).trans hji17
        by_cases c18 : 0 ≤ (ji17)
        rotate_left
        · rw [if_neg c18] at H
          exact absurd H (by simp)
        rw [if_pos c18] at H
        have c18b0 : decide (0 ≤ (ji17)) = true := decide_eq_true c18
        clear c18
        by_cases c19 : (ji17) < (t297.length : Int)
        rotate_left
        · rw [if_neg c19] at H
          exact absurd H (by simp)
        rw [if_pos c19] at H
        have c19b0 : decide ((ji17) < (t297.length : Int)) = true := decide_eq_true c19
        clear c19
        have H' := Aside0.mk H
        clear H
        have p300 : 0 ≤ (x5_1 : Int) := of_decide_eq_true (by first | (with_reducible assumption) | assumption)
        have q300 : x5_1 < (t297.length : Int) := of_decide_eq_true (by first | (with_reducible assumption) | assumption)
        obtain ⟨ad300, e300, hx300_0, hx300_1⟩ := at_T38 (Kd.R_reads' HO_3.out).2.2 x5_1 p300 q300
        cases e300
        replace p300 := eq_true p300
        replace q300 := eq_true q300
        have p301 : 0 ≤ (x5_1 : Int) := of_decide_eq_true (by first | (with_reducible assumption) | assumption)
        have q301 : x5_1 < (t297.length : Int) := of_decide_eq_true (by first | (with_reducible assumption) | assumption)
        obtain ⟨ad301, e301, hx301_0, hx301_1⟩ := at_T38 (Kd.R_reads' HO_3.out).2.2 x5_1 p301 q301
        obtain rfl : ad300 = ad301 := (by injection e301)
        replace p301 := eq_true p301
        replace q301 := eq_true q301
        have p302 : 0 ≤ (x5_1 : Int) := of_decide_eq_true (by first | (with_reducible assumption) | assumption)
        have q302 : x5_1 < (t297.length : Int) := of_decide_eq_true (by first | (with_reducible assumption) | assumption)
        obtain ⟨ad302, e302, hx302_0, hx302_1⟩ := at_T38 (Kd.R_reads' HO_3.out).2.2 x5_1 p302 q302
        obtain rfl : ad300 = ad302 := (by injection e302)
        replace p302 := eq_true p302
        replace q302 := eq_true q302
        have p303 : 0 ≤ (x5_1 : Int) := of_decide_eq_true (by first | (with_reducible assumption) | assumption)
        have q303 : x5_1 < (t297.length : Int) := of_decide_eq_true (by first | (with_reducible assumption) | assumption)
        obtain ⟨ad303, e303, hx303_0, hx303_1⟩ := at_T38 (Kd.R_reads' HO_3.out).2.2 x5_1 p303 q303
        obtain rfl : ad300 = ad303 := (by injection e303)
        replace p303 := eq_true p303
        replace q303 := eq_true q303
        have p304 : 0 ≤ ((ji17) : Int) := of_decide_eq_true (by first | (with_reducible assumption) | assumption)
        have q304 : (ji17) < (t297.length : Int) := of_decide_eq_true (by first | (with_reducible assumption) | assumption)
        obtain ⟨ad304, e304, hx304_0, hx304_1⟩ := at_T38 (Kd.R_reads' HO_3.out).2.2 (ji17) p304 q304
        obtain rfl : ad300 = ad304 := (by injection e304)
        replace p304 := eq_true p304
        replace q304 := eq_true q304
        have p305 : 0 ≤ (x5_1 : Int) := of_decide_eq_true (by first | (with_reducible assumption) | assumption)
        have q305 : x5_1 < (t297.length : Int) := of_decide_eq_true (by first | (with_reducible assumption) | assumption)
        obtain ⟨ad305, e305, hx305_0, hx305_1⟩ := at_T38 (Kd.R_reads' HO_3.out).2.2 x5_1 p305 q305
        obtain rfl : ad300 = ad305 := (by injection e305)
        replace p305 := eq_true p305
        replace q305 := eq_true q305
        go_wp2
        repeat (go_quiet (fail); try go_wp2)
        go_meet
        case rel => exact ⟨_, (decide (((rd_T38 t297 (ji17)).f1) ≥ ((rd_T38 t297 x5_1).f0))), (by first | rfl | (simp; done) | (simp only [← hji17] <;> (first | rfl | simp)) | (simp [*]; done)), H', ⟨by have := HK1.out; first | omega | exact Nat.le_refl _⟩, ⟨by (with_reducible repeat (first | apply Kd.R_alloc | apply Kd.R_drewN | apply Kd.R_drew)); exact HO_3.out⟩, ⟨by repeat (first | (with_reducible first | exact HB.out | apply below_alloc | apply pw_below_drewN | apply below_drew1) | exact HB.out)⟩⟩
      case rest =>
        clear HC10
        try clear c1
        try clear p2
        try clear c3
        try clear p3
        try clear q3
        try clear hx3
        try clear c4
        try clear c4b0
        try clear c4b1
        try clear c6
        try clear p6
        try clear c9
        try clear c9b0
        try clear c12
        try clear c12b0
        try clear c13
        try clear c13b0
        try clear c14
        try clear c14b0
        try clear c15
        try clear c15b0
        try clear c16
        try clear c16b0
        try clear c18
        try clear c18b0
        try clear c19
        try clear c19b0
        try clear hx300_0
        try clear hx300_1
        try clear hx301_0
        try clear hx301_1
        try clear hx302_0
        try clear hx302_1
        try clear hx303_0
        try clear hx303_1
        try clear hx304_0
        try clear hx304_1
        try clear hx305_0
        try clear hx305_1
        try clear p2
        try clear p300
        try clear p301
        try clear p302
        try clear p303
        try clear p304
        try clear p305
        try clear q300
        try clear q301
        try clear q302
        try clear q303
        try clear q304
        try clear q305
        obtain ⟨kq, x68_9, rfl, HA, HJ9, HO_3, HB⟩ := hcut
        cases kq with
        | zero => exact absurd HA.out (by simp [ductuslaw11_NeutralGroups.j1])
        | succ kj9 =>
          have H := HA.out
          clear HA
          simp only [ductuslaw11_NeutralGroups.j1] at H
          by_cases c20 : x68_9 = true
          · subst c20
            have H1 : (none) = some r := by rw [if_pos rfl] at H; exact H
            clear H
            have H := H1
            clear H1
            exact absurd H (by simp)
          replace c20 := Bool.eq_false_iff.mpr c20
          subst c20
          have H1 : (if 0 ≤ x5_1 then (if x5_1 < (t297.length : Int) then (ductuslaw11_NeutralGroups.l1 kj9 l0 t297 x4_1 x5_1 ((rd_T38 t297 x5_1).f0)) else (none)) else (none)) = some r := by rw [if_neg (show ¬ (false = true) by decide)] at H; exact H
          clear H
          have H := H1
          clear H1
          by_cases c21 : 0 ≤ x5_1
          rotate_left
          · rw [if_neg c21] at H
            exact absurd H (by simp)
          rw [if_pos c21] at H
          have c21b0 : decide (0 ≤ x5_1) = true := decide_eq_true c21
          clear c21
          by_cases c22 : x5_1 < (t297.length : Int)
          rotate_left
          · rw [if_neg c22] at H
            exact absurd H (by simp)
          rw [if_pos c22] at H
          have c22b0 : decide (x5_1 < (t297.length : Int)) = true := decide_eq_true c22
          clear c22
          have H' := Aside0.mk H
          clear H
          have p306 : 0 ≤ (x5_1 : Int) := of_decide_eq_true (by first | (with_reducible assumption) | assumption)
          have q306 : x5_1 < (t297.length : Int) := of_decide_eq_true (by first | (with_reducible assumption) | assumption)
          obtain ⟨ad306, e306, hx306_0, hx306_1⟩ := at_T38 (Kd.R_reads' HO_3.out).2.2 x5_1 p306 q306
          cases e306
          replace p306 := eq_true p306
          replace q306 := eq_true q306
          go_wp2
          repeat (go_quiet (fail); try go_wp2)
          go_loopg [4, 6] kj9 (fun kq v4 v6 w' => ∃ (x4_3 : Int) (x6_3 : Int), v4 = .int .i64 x4_3 ∧ v6 = .int .i64 x6_3 ∧ Aside0 (ductuslaw11_NeutralGroups.l1 kq l0 t297 x4_3 x5_1 x6_3 = some r) ∧ Aside0 (kq ≤ kj9) ∧ Aside0 (Kd.R k38 38 w' w.heap.size (fun _ => True) (.slice (some ad306) t297.length co11) t297) ∧ Aside0 (Below w.heap.size w w'))
          case atStart => exact ⟨(x4_1), ((rd_T38 t297 x5_1).f0), (by first | rfl | (simp; done) | (simp [*]; done)), (by first | rfl | (simp; done) | (simp [*]; done)), H', ⟨Nat.le_refl _⟩, ⟨by (with_reducible repeat (first | apply Kd.R_alloc | apply Kd.R_drewN | apply Kd.R_drew)); exact HO_3.out⟩, ⟨by repeat (first | (with_reducible first | exact HB.out | apply below_alloc | apply pw_below_drewN | apply below_drew1) | exact HB.out)⟩⟩
          case round =>
            clear H'
            try clear c1
            try clear c2
            try clear p2
            try clear c3
            try clear p3
            try clear q3
            try clear hx3
            try clear c4
            try clear c4b0
            try clear c4b1
            try clear c6
            try clear p6
            try clear c9
            try clear c9b0
            try clear c12
            try clear c12b0
            try clear c13
            try clear c13b0
            try clear c14
            try clear c14b0
            try clear c15
            try clear c15b0
            try clear c16
            try clear c16b0
            try clear c18
            try clear c18b0
            try clear c19
            try clear c19b0
            try clear c20
            try clear c21
            try clear c21b0
            try clear c22
            try clear c22b0
            try clear hx300_0
            try clear hx300_1
            try clear hx301_0
            try clear hx301_1
            try clear hx302_0
            try clear hx302_1
            try clear hx303_0
            try clear hx303_1
            try clear hx304_0
            try clear hx304_1
            try clear hx305_0
            try clear hx305_1
            try clear hx306_0
            try clear hx306_1
            try clear p2
            try clear p3
            try clear p300
            try clear p301
            try clear p302
            try clear p303
            try clear p304
            try clear p305
            try clear p306
            try clear p6
            try clear q3
            try clear q300
            try clear q301
            try clear q302
            try clear q303
            try clear q304
            try clear q305
            try clear q306
            obtain ⟨x4_3, x6_3, rfl, rfl, HA, HK3, HO_3, HB⟩ := hrel
            cases gk with
            | zero => exact absurd HA.out (by simp [ductuslaw11_NeutralGroups.l1])
            | succ k3 =>
              have H := HA.out
              clear HA
              simp only [ductuslaw11_NeutralGroups.l1] at H
              by_cases c23 : 0 ≤ x5_1
              rotate_left
              · rw [if_neg c23] at H
                exact absurd H (by simp)
              rw [if_pos c23] at H
              have c23b0 : decide (0 ≤ x5_1) = true := decide_eq_true c23
              clear c23
              by_cases c24 : x5_1 < (t297.length : Int)
              rotate_left
              · rw [if_neg c24] at H
                exact absurd H (by simp)
              rw [if_pos c24] at H
              have c24b0 : decide (x5_1 < (t297.length : Int)) = true := decide_eq_true c24
              clear c24
              by_cases c25 : x6_3 < ((rd_T38 t297 x5_1).f1)
              rotate_left
              · rw [if_neg c25] at H
                have c25b0 : decide (x6_3 < ((rd_T38 t297 x5_1).f1)) = false := decide_eq_false c25
                clear c25
                have H' := Aside0.mk H
                clear H
                have p307 : 0 ≤ (x5_1 : Int) := of_decide_eq_true (by first | (with_reducible assumption) | assumption)
                have q307 : x5_1 < (t297.length : Int) := of_decide_eq_true (by first | (with_reducible assumption) | assumption)
                obtain ⟨ad307, e307, hx307_0, hx307_1⟩ := at_T38 (Kd.R_reads' HO_3.out).2.2 x5_1 p307 q307
                obtain rfl : ad306 = ad307 := (by injection e307)
                replace p307 := eq_true p307
                replace q307 := eq_true q307
                go_wp2
                repeat (go_quiet (fail); try go_wp2)
                go_roundg k3
                case measure => have := HK1.out; have := HJ9.out; have := HK3.out; omega
                case rel => exact ⟨(x4_3), (wrap64 (x5_1 + 1)), (by first | rfl | (simp; done) | (simp [*]; done)), (by first | rfl | (simp; done) | (simp [*]; done)), H', ⟨by have := HK1.out; have := HJ9.out; have := HK3.out; omega⟩, ⟨by (with_reducible repeat (first | apply Kd.R_alloc | apply Kd.R_drewN | apply Kd.R_drew)); exact HO_3.out⟩, ⟨by repeat (first | (with_reducible first | exact HB.out | apply below_alloc | apply pw_below_drewN | apply below_drew1) | exact HB.out)⟩⟩
              rw [if_pos c25] at H
              have c25b0 : decide (x6_3 < ((rd_T38 t297 x5_1).f1)) = true := decide_eq_true c25
              clear c25
              by_cases c26 : 0 ≤ x6_3
              rotate_left
              · rw [if_neg c26] at H
                exact absurd H (by simp)
              rw [if_pos c26] at H
              have c26b0 : decide (0 ≤ x6_3) = true := decide_eq_true c26
              clear c26
              by_cases c27 : x6_3 < (l0.length : Int)
              rotate_left
              · rw [if_neg c27] at H
                exact absurd H (by simp)
              rw [if_pos c27] at H
              have c27b0 : decide (x6_3 < (l0.length : Int)) = true := decide_eq_true c27
              clear c27
              replace H := Option.bind_eq_some_iff.mp H
              obtain ⟨t309, A280, H⟩ := H
              replace H : (if t309 = true then (ductuslaw11_NeutralGroups.l1 k3 l0 t297 (wrap64 (x4_3 + 1)) x5_1 (wrap64 (x6_3 + 1))) else (none)) = some r := H
              have A28 := Aside0.mk A280
              clear A280
              by_cases c29 : t309 = true
              rotate_left
              · replace c29 := Bool.eq_false_iff.mpr c29
                subst c29
                have H1 : (none) = some r := by rw [if_neg (show ¬ (false = true) by decide)] at H; exact H
                clear H
                have H := H1
                clear H1
                exact absurd H (by simp)
              subst c29
              have H1 : (ductuslaw11_NeutralGroups.l1 k3 l0 t297 (wrap64 (x4_3 + 1)) x5_1 (wrap64 (x6_3 + 1))) = some r := by rw [if_pos rfl] at H; exact H
              clear H
              have H := H1
              clear H1
              have H' := Aside0.mk H
              clear H
              have p307 : 0 ≤ (x5_1 : Int) := of_decide_eq_true (by first | (with_reducible assumption) | assumption)
              have q307 : x5_1 < (t297.length : Int) := of_decide_eq_true (by first | (with_reducible assumption) | assumption)
              obtain ⟨ad307, e307, hx307_0, hx307_1⟩ := at_T38 (Kd.R_reads' HO_3.out).2.2 x5_1 p307 q307
              obtain rfl : ad306 = ad307 := (by injection e307)
              replace p307 := eq_true p307
              replace q307 := eq_true q307
              have p308 : 0 ≤ (x6_3 : Int) := of_decide_eq_true (by first | (with_reducible assumption) | assumption)
              have q308 : x6_3 < (l0.length : Int) := of_decide_eq_true (by first | (with_reducible assumption) | assumption)
              obtain ⟨ad308, e308, hx308_0⟩ := Kd.at_int HR0.out x6_3 p308 q308
              cases e308
              replace hx308_0 := (HB.out.cell (World.block_lt_of_cell? w _ hx308_0)).trans hx308_0
              replace p308 := eq_true p308
              replace q308 := eq_true q308
              go_wp2_with (first | (go_at_call 18; (with_reducible refine (ductusref02_Neutral.calls (rd l0 x6_3) true _ A28.out).mono ?_); rintro e w' ⟨rfl, ⟨nd, rfl⟩⟩; (try first | exact ⟨rfl, _, World.drewN_drewN _ _ _⟩ | exact ⟨rfl, _, Eq.trans (World.drewN_drewN _ _ _) (congrArg (World.drewN _) (Nat.add_assoc _ _ _))⟩)))
              repeat (go_quiet (first | (go_at_call 18; (with_reducible refine (ductusref02_Neutral.calls (rd l0 x6_3) true _ A28.out).mono ?_); rintro e w' ⟨rfl, ⟨nd, rfl⟩⟩; (try first | exact ⟨rfl, _, World.drewN_drewN _ _ _⟩ | exact ⟨rfl, _, Eq.trans (World.drewN_drewN _ _ _) (congrArg (World.drewN _) (Nat.add_assoc _ _ _))⟩))); try go_wp2_with (first | (go_at_call 18; (with_reducible refine (ductusref02_Neutral.calls (rd l0 x6_3) true _ A28.out).mono ?_); rintro e w' ⟨rfl, ⟨nd, rfl⟩⟩; (try first | exact ⟨rfl, _, World.drewN_drewN _ _ _⟩ | exact ⟨rfl, _, Eq.trans (World.drewN_drewN _ _ _) (congrArg (World.drewN _) (Nat.add_assoc _ _ _))⟩))))
              go_roundg k3
              case measure => have := HK1.out; have := HJ9.out; have := HK3.out; omega
              case rel => exact ⟨(wrap64 (x4_3 + 1)), (wrap64 (x6_3 + 1)), (by first | rfl | (simp; done) | (simp [*]; done)), (by first | rfl | (simp; done) | (simp [*]; done)), H', ⟨by have := HK1.out; have := HJ9.out; have := HK3.out; omega⟩, ⟨by (with_reducible repeat (first | apply Kd.R_alloc | apply Kd.R_drewN | apply Kd.R_drew)); exact HO_3.out⟩, ⟨by repeat (first | (with_reducible first | exact HB.out | apply below_alloc | apply pw_below_drewN | apply below_drew1) | exact HB.out)⟩⟩

/-- THE ONE PURE STATEMENT of ductuslaw11_NeutralGroups: yours. -/
def ductuslaw11_NeutralGroups.Pure : Prop := ∀ (l0 : List Int), l0.length ≤ maxLen → l0.length * 8 ≤ 140737488351232 → (∀ x ∈ l0, (Lit.int .i64 x).wf = true) → ∃ k, ductuslaw11_NeutralGroups.f k l0 = some true
theorem ductuslaw11_NeutralGroups.walk (P : ductuslaw11_NeutralGroups.Pure) (a0 : Option Addr) (len0 cap0 : Nat) (z0 : List Int) (w : World) (w0 : (a0 = none ∧ len0 = 0 ∧ cap0 = 0 ∧ z0 = []) ∨ ∃ x, a0 = some x ∧ len0 ≤ cap0 ∧ cap0 ≤ maxLen ∧ z0.length = cap0 ∧ (∀ i, i < z0.length → w.cell? (x.add i) = some (.int .i64 (z0.getD i 0))) ∧ ∀ n ∈ z0, (Lit.int .i64 n).wf = true) (y0 : len0 * 8 ≤ 140737488351232) :
    Calls Try.prog 6 #[.slice a0 len0 cap0] w fun e w' => e = .returned (.bool true) ∧ Below w.heap.size w w' := by
  obtain ⟨l0, rfl, hr0, hm0, hw0, hc0⟩ := ReadsInt.ofRowC w0
  obtain ⟨k, h⟩ := P l0 hm0 y0 hw0
  refine (ductuslaw11_NeutralGroups.calls k _ _ l0 true w (Kd.C_of_reads (d := (0 : Int)) (h1 := fun _ => rfl) hr0) hc0 h).mono ?_
  rintro e w' ⟨rfl, hd⟩
  exact ⟨rfl, hd⟩

end Go.Proofs.Ytcmndocfadhonaa.P
