/- Printed by a program of this claim's own over the translation: Lean functions of the Go functions, each with its proof; no condition beyond those written. -/
import Derived.Test.YtcmndocfadhonaaPx0
import Derived.Test.YtcmndocfadhonaaPx3
import Derived.Test.YtcmndocfadhonaaPx4
namespace Go.Proofs.Ytcmndocfadhonaa.P
open Go.RowKit Go.Proofs.YtcmndocfadhonaaW.PrintWords Go.Proofs.YtcmndocfadhonaaW.PrintLast Go.Proofs.YtcmndocfadhonaaW.PrintMore
attribute [local go_sem] max2_int min2_int max_two min_two max_three min_three max_four min_four   -- for this text's walks alone
set_option linter.unusedVariables false
set_option linter.unusedSimpArgs false

/-! ### ductuslaw11_NeutralLevels: function 5 -/
mutual
def ductuslaw11_NeutralLevels.l0 : Nat → List Int → Int → List Int → Int → Option (Bool)
  | 0, _, _, _, _ => none
  | k + 1, x0, x1, x5, x6 => if x6 < (x0.length : Int) then (if 0 ≤ x6 then (if x6 < (x5.length : Int) then (if (wrap64 ((rd x5 x6) - (wrap64 (x1)))) < 0 then (none) else (if (wrap64 ((rd x5 x6) - (wrap64 (x1)))) > 2 then (none) else (if (rd x0 x6) = 0 then (if (Int.tmod (rd x5 x6) 2) = 0 then (if (rd x0 x6) = 1 then (if (Int.tmod (rd x5 x6) 2) = 1 then (if (rd x0 x6) = 3 then (ductuslaw11_NeutralLevels.j1 k x0 x1 x5 x6 (wrap64 ((rd x5 x6) - (wrap64 (x1)))) ((wrap64 ((rd x5 x6) - (wrap64 (x1)))) == 0)) else (if (rd x0 x6) = 6 then (ductuslaw11_NeutralLevels.j1 k x0 x1 x5 x6 (wrap64 ((rd x5 x6) - (wrap64 (x1)))) ((wrap64 ((rd x5 x6) - (wrap64 (x1)))) == 0)) else (ductuslaw11_NeutralLevels.j1 k x0 x1 x5 x6 (wrap64 ((rd x5 x6) - (wrap64 (x1)))) false))) else (none)) else (if (rd x0 x6) = 3 then (ductuslaw11_NeutralLevels.j1 k x0 x1 x5 x6 (wrap64 ((rd x5 x6) - (wrap64 (x1)))) ((wrap64 ((rd x5 x6) - (wrap64 (x1)))) == 0)) else (if (rd x0 x6) = 6 then (ductuslaw11_NeutralLevels.j1 k x0 x1 x5 x6 (wrap64 ((rd x5 x6) - (wrap64 (x1)))) ((wrap64 ((rd x5 x6) - (wrap64 (x1)))) == 0)) else (ductuslaw11_NeutralLevels.j1 k x0 x1 x5 x6 (wrap64 ((rd x5 x6) - (wrap64 (x1)))) false)))) else (none)) else (if (rd x0 x6) = 1 then (if (Int.tmod (rd x5 x6) 2) = 1 then (if (rd x0 x6) = 3 then (if (Int.tmod (rd x5 x6) 2) = 0 then (ductuslaw11_NeutralLevels.j1 k x0 x1 x5 x6 (wrap64 ((rd x5 x6) - (wrap64 (x1)))) ((wrap64 ((rd x5 x6) - (wrap64 (x1)))) == 0)) else (none)) else (if (rd x0 x6) = 6 then (if (Int.tmod (rd x5 x6) 2) = 0 then (ductuslaw11_NeutralLevels.j1 k x0 x1 x5 x6 (wrap64 ((rd x5 x6) - (wrap64 (x1)))) ((wrap64 ((rd x5 x6) - (wrap64 (x1)))) == 0)) else (none)) else (ductuslaw11_NeutralLevels.j1 k x0 x1 x5 x6 (wrap64 ((rd x5 x6) - (wrap64 (x1)))) false))) else (none)) else (if (rd x0 x6) = 3 then (if (Int.tmod (rd x5 x6) 2) = 0 then (ductuslaw11_NeutralLevels.j1 k x0 x1 x5 x6 (wrap64 ((rd x5 x6) - (wrap64 (x1)))) ((wrap64 ((rd x5 x6) - (wrap64 (x1)))) == 0)) else (none)) else (if (rd x0 x6) = 6 then (if (Int.tmod (rd x5 x6) 2) = 0 then (ductuslaw11_NeutralLevels.j1 k x0 x1 x5 x6 (wrap64 ((rd x5 x6) - (wrap64 (x1)))) ((wrap64 ((rd x5 x6) - (wrap64 (x1)))) == 0)) else (none)) else (ductuslaw11_NeutralLevels.j1 k x0 x1 x5 x6 (wrap64 ((rd x5 x6) - (wrap64 (x1)))) false))))))) else (none)) else (none)) else (some true)
def ductuslaw11_NeutralLevels.j1 : Nat → List Int → Int → List Int → Int → Int → Bool → Option (Bool)
  | 0, _, _, _, _, _, _ => none
  | k + 1, x0, x1, x5, x6, x7, x96 => if x96 = true then (none) else (if 0 ≤ x6 then (if x6 < (x0.length : Int) then (if (rd x0 x6) = 0 then ((ductusref08_Dir.f (wrap64 (x1))).bind fun t291 => (if ((x7 == 0) != (t291 == (rd x0 x6))) = true then (none) else (ductuslaw11_NeutralLevels.l0 k x0 x1 x5 (wrap64 (x6 + 1))))) else (if (rd x0 x6) = 1 then ((ductusref08_Dir.f (wrap64 (x1))).bind fun t294 => (if ((x7 == 0) != (t294 == (rd x0 x6))) = true then (none) else (ductuslaw11_NeutralLevels.l0 k x0 x1 x5 (wrap64 (x6 + 1))))) else (ductuslaw11_NeutralLevels.l0 k x0 x1 x5 (wrap64 (x6 + 1))))) else (none)) else (none))
end
def ductuslaw11_NeutralLevels.f (k : Nat) (l0 : List Int) (a1 : Int) : Option (Bool) := (ductuslaw11_alive.f k).bind fun t263 => (if t263 = true then (if (l0.length : Int) > 500 then (some true) else ((neutral_Levels.f k l0 (wrap64 (a1))).bind fun t264 => (if (t264.length : Int) = (l0.length : Int) then (ductuslaw11_NeutralLevels.l0 k l0 a1 t264 0) else (none)))) else (none))
theorem ductuslaw11_NeutralLevels.mono_l : ∀ k, (∀ y0 y1 y2 y3, LeO (ductuslaw11_NeutralLevels.l0 k y0 y1 y2 y3) (ductuslaw11_NeutralLevels.l0 (k + 1) y0 y1 y2 y3)) ∧ (∀ y0 y1 y2 y3 y4 y5, LeO (ductuslaw11_NeutralLevels.j1 k y0 y1 y2 y3 y4 y5) (ductuslaw11_NeutralLevels.j1 (k + 1) y0 y1 y2 y3 y4 y5))
  | 0 => ⟨fun _ _ _ _ r h => by simp [ductuslaw11_NeutralLevels.l0] at h, fun _ _ _ _ _ _ r h => by simp [ductuslaw11_NeutralLevels.j1] at h⟩
  | k + 1 => by
    obtain ⟨ih0, ih1⟩ := ductuslaw11_NeutralLevels.mono_l k
    refine ⟨?_, ?_⟩
    · intro y0 y1 y2 y3
      unfold ductuslaw11_NeutralLevels.l0
      repeat' first
      | (with_reducible exact ih0 _ _ _ _)
      | (with_reducible exact ih1 _ _ _ _ _ _)
      | (with_reducible exact ductuslaw11_alive.mono _)
      | (with_reducible exact neutral_Levels.mono _ _ _)
      | (with_reducible exact LeO.refl _)
      | (with_reducible exact LeO.none _)
      | (with_reducible refine LeO.ite ?_ ?_)
      | (with_reducible refine LeO.bind ?_ (fun _ => ?_))
      | exact ih0 _ _ _ _
      | exact ih1 _ _ _ _ _ _
      | exact ductuslaw11_alive.mono _
      | exact neutral_Levels.mono _ _ _
      | exact LeO.none _
      | refine LeO.ite ?_ ?_
      | refine LeO.bind ?_ (fun _ => ?_)
    · intro y0 y1 y2 y3 y4 y5
      unfold ductuslaw11_NeutralLevels.j1
      repeat' first
      | (with_reducible exact ih0 _ _ _ _)
      | (with_reducible exact ih1 _ _ _ _ _ _)
      | (with_reducible exact ductuslaw11_alive.mono _)
      | (with_reducible exact neutral_Levels.mono _ _ _)
      | (with_reducible exact LeO.refl _)
      | (with_reducible exact LeO.none _)
      | (with_reducible refine LeO.ite ?_ ?_)
      | (with_reducible refine LeO.bind ?_ (fun _ => ?_))
      | exact ih0 _ _ _ _
      | exact ih1 _ _ _ _ _ _
      | exact ductuslaw11_alive.mono _
      | exact neutral_Levels.mono _ _ _
      | exact LeO.none _
      | refine LeO.ite ?_ ?_
      | refine LeO.bind ?_ (fun _ => ?_)
theorem ductuslaw11_NeutralLevels.mono : ∀ a0 a1 k, LeO (ductuslaw11_NeutralLevels.f k a0 a1) (ductuslaw11_NeutralLevels.f (k + 1) a0 a1) := by
  intro a0 a1 k
  obtain ⟨ih0, ih1⟩ := ductuslaw11_NeutralLevels.mono_l k
  unfold ductuslaw11_NeutralLevels.f
  repeat' first
      | (with_reducible exact ih0 _ _ _ _)
      | (with_reducible exact ih1 _ _ _ _ _ _)
      | (with_reducible exact ductuslaw11_alive.mono _)
      | (with_reducible exact neutral_Levels.mono _ _ _)
      | (with_reducible exact LeO.refl _)
      | (with_reducible exact LeO.none _)
      | (with_reducible refine LeO.ite ?_ ?_)
      | (with_reducible refine LeO.bind ?_ (fun _ => ?_))
      | exact ih0 _ _ _ _
      | exact ih1 _ _ _ _ _ _
      | exact ductuslaw11_alive.mono _
      | exact neutral_Levels.mono _ _ _
      | exact LeO.none _
      | refine LeO.ite ?_ ?_
      | refine LeO.bind ?_ (fun _ => ?_)
set_option maxHeartbeats 8000000 in
set_option maxRecDepth 100000 in
theorem ductuslaw11_NeutralLevels.calls (k : Nat) (A0 : Option Addr) (c0 : Nat) (l0 : List Int) (a1 : Int) (r : Bool) (w : World) (hr0 : Kd.C (Kd.int .i64) w A0 l0.length l0) (hc0 : l0.length ≤ c0) (h : ductuslaw11_NeutralLevels.f k l0 a1 = some r) :
    Calls Try.prog 5 #[.slice A0 l0.length c0, .int .u8 a1] w fun e w' => e = .returned (.bool r) ∧ Below w.heap.size w w' := by
  have HR0 := Aside0.mk hr0
  have HC0 := Aside0.mk hc0
  clear hr0 hc0
  have HB := Aside0.mk (Below.refl w.heap.size w)
  have H : ((ductuslaw11_alive.f k).bind fun t263 => (if t263 = true then (if (l0.length : Int) > 500 then (some true) else ((neutral_Levels.f k l0 (wrap64 (a1))).bind fun t264 => (if (t264.length : Int) = (l0.length : Int) then (ductuslaw11_NeutralLevels.l0 k l0 a1 t264 0) else (none)))) else (none))) = some r := h
  clear h
  replace H := Option.bind_eq_some_iff.mp H
  obtain ⟨t263, A30, H⟩ := H
  replace H : (if t263 = true then (if (l0.length : Int) > 500 then (some true) else ((neutral_Levels.f k l0 (wrap64 (a1))).bind fun t264 => (if (t264.length : Int) = (l0.length : Int) then (ductuslaw11_NeutralLevels.l0 k l0 a1 t264 0) else (none)))) else (none)) = some r := H
  have A3 := Aside0.mk A30
  clear A30
  by_cases c4 : t263 = true
  rotate_left
  · replace c4 := Bool.eq_false_iff.mpr c4
    subst c4
    have H1 : (none) = some r := by rw [if_neg (show ¬ (false = true) by decide)] at H; exact H
    clear H
    have H := H1
    clear H1
    exact absurd H (by simp)
  subst c4
  have H1 : (if (l0.length : Int) > 500 then (some true) else ((neutral_Levels.f k l0 (wrap64 (a1))).bind fun t264 => (if (t264.length : Int) = (l0.length : Int) then (ductuslaw11_NeutralLevels.l0 k l0 a1 t264 0) else (none)))) = some r := by rw [if_pos rfl] at H; exact H
  clear H
  have H := H1
  clear H1
  by_cases c5 : (l0.length : Int) > 500
  · rw [if_pos c5] at H
    have c5b0 : decide (500 < (l0.length : Int)) = true := decide_eq_true c5
    have c5b1 : decide (500 < l0.length) = true := decide_eq_true (by omega)
    clear c5
    obtain rfl := Option.some.inj H
    go_enter Try.func5, Try.ntmps5
    go_wp2_with (first | (go_at_call 7; (with_reducible refine (ductuslaw11_alive.calls k  true _ A3.out).mono ?_); rintro e w6 ⟨rfl, hb⟩; have n0_ := Aside0.mk (below_step (by repeat (first | (with_reducible first | exact HB.out | apply below_alloc | apply pw_below_drewN | apply below_drew1) | exact HB.out)) hb); clear HB; have HB := n0_; clear n0_; (try clear hb); (try clear hb2); (try clear hk); (try clear hi)))
    repeat (go_quiet (first | (go_at_call 7; (with_reducible refine (ductuslaw11_alive.calls k  true _ A3.out).mono ?_); rintro e w6 ⟨rfl, hb⟩; have n0_ := Aside0.mk (below_step (by repeat (first | (with_reducible first | exact HB.out | apply below_alloc | apply pw_below_drewN | apply below_drew1) | exact HB.out)) hb); clear HB; have HB := n0_; clear n0_; (try clear hb); (try clear hb2); (try clear hk); (try clear hi))); try go_wp2_with (first | (go_at_call 7; (with_reducible refine (ductuslaw11_alive.calls k  true _ A3.out).mono ?_); rintro e w6 ⟨rfl, hb⟩; have n0_ := Aside0.mk (below_step (by repeat (first | (with_reducible first | exact HB.out | apply below_alloc | apply pw_below_drewN | apply below_drew1) | exact HB.out)) hb); clear HB; have HB := n0_; clear n0_; (try clear hb); (try clear hb2); (try clear hk); (try clear hi))))
    go_ret
    exact ⟨by first | rfl | (simp [errW_none, errW_some] <;> rfl) | (simp [*, errW_none, errW_some] <;> rfl), by repeat (first | (with_reducible first | exact HB.out | apply below_alloc | apply pw_below_drewN | apply below_drew1) | exact HB.out)⟩
  rw [if_neg c5] at H
  have c5b0 : decide (500 < (l0.length : Int)) = false := decide_eq_false c5
  have c5b1 : decide (500 < l0.length) = false := decide_eq_false (by omega)
  clear c5
  replace H := Option.bind_eq_some_iff.mp H
  obtain ⟨t264, A70, H⟩ := H
  replace H : (if (t264.length : Int) = (l0.length : Int) then (ductuslaw11_NeutralLevels.l0 k l0 a1 t264 0) else (none)) = some r := H
  have A7 := Aside0.mk A70
  clear A70
  by_cases c8 : (t264.length : Int) = (l0.length : Int)
  rotate_left
  · rw [if_neg c8] at H
    exact absurd H (by simp)
  rw [if_pos c8] at H
  have c8b0 : ((t264.length : Int) == (l0.length : Int)) = true := beq_iff_eq.mpr c8
  have c8b1 : ((t264.length : Int) != (l0.length : Int)) = false := bne_eq_false_iff_eq.mpr c8
  have c8b2 : (t264.length == l0.length) = true := by first | simpa using c8 | (simp at c8 ⊢; omega)
  clear c8
  have H' := Aside0.mk H
  clear H
  go_enter Try.func5, Try.ntmps5
  go_wp2_with (first | (go_at_call 7; (with_reducible refine (ductuslaw11_alive.calls k  true _ A3.out).mono ?_); rintro e w9 ⟨rfl, hb⟩; have n0_ := Aside0.mk (below_step (by repeat (first | (with_reducible first | exact HB.out | apply below_alloc | apply pw_below_drewN | apply below_drew1) | exact HB.out)) hb); clear HB; have HB := n0_; clear n0_; (try clear hb); (try clear hb2); (try clear hk); (try clear hi)) | (go_at_call 14; (try simp only [IntWalk.i64_left]); (with_reducible refine (neutral_Levels.calls k _ _ l0 (wrap64 (a1)) t264 _ ?side1 ?side2 A7.out).mono ?_); (case side1 => repeat (first | exact (Kd.C_below HR0.out HB.out) | (with_reducible refine Kd.C_alloc ?_ _) | (with_reducible refine Kd.C_drewN ?_ _) | (with_reducible refine Kd.C_drew ?_))); (case side2 => exact HC0.out); rintro e w10 ⟨v265, rfl, ho0, hb⟩; have n0_ := Aside0.mk (Kd.R_lower ho0 (below_size (by repeat (first | (with_reducible first | exact HB.out | apply below_alloc | apply pw_below_drewN | apply below_drew1) | exact HB.out)))); have n1_ := Aside0.mk (below_step (by repeat (first | (with_reducible first | exact HB.out | apply below_alloc | apply pw_below_drewN | apply below_drew1) | exact HB.out)) hb); clear HB; have HO266 := n0_; have HB := n1_; clear n0_ n1_; (try clear hb); (try clear hb2); (try clear hk); (try clear hi); (try clear ho0); obtain ⟨Ao11, co11, eo11⟩ := Kd.R_slice HO266.out; subst eo11))
  repeat (go_quiet (first | (go_at_call 7; (with_reducible refine (ductuslaw11_alive.calls k  true _ A3.out).mono ?_); rintro e w9 ⟨rfl, hb⟩; have n0_ := Aside0.mk (below_step (by repeat (first | (with_reducible first | exact HB.out | apply below_alloc | apply pw_below_drewN | apply below_drew1) | exact HB.out)) hb); clear HB; have HB := n0_; clear n0_; (try clear hb); (try clear hb2); (try clear hk); (try clear hi)) | (go_at_call 14; (try simp only [IntWalk.i64_left]); (with_reducible refine (neutral_Levels.calls k _ _ l0 (wrap64 (a1)) t264 _ ?side1 ?side2 A7.out).mono ?_); (case side1 => repeat (first | exact (Kd.C_below HR0.out HB.out) | (with_reducible refine Kd.C_alloc ?_ _) | (with_reducible refine Kd.C_drewN ?_ _) | (with_reducible refine Kd.C_drew ?_))); (case side2 => exact HC0.out); rintro e w10 ⟨v265, rfl, ho0, hb⟩; have n0_ := Aside0.mk (Kd.R_lower ho0 (below_size (by repeat (first | (with_reducible first | exact HB.out | apply below_alloc | apply pw_below_drewN | apply below_drew1) | exact HB.out)))); have n1_ := Aside0.mk (below_step (by repeat (first | (with_reducible first | exact HB.out | apply below_alloc | apply pw_below_drewN | apply below_drew1) | exact HB.out)) hb); clear HB; have HO266 := n0_; have HB := n1_; clear n0_ n1_; (try clear hb); (try clear hb2); (try clear hk); (try clear hi); (try clear ho0); obtain ⟨Ao11, co11, eo11⟩ := Kd.R_slice HO266.out; subst eo11)); try go_wp2_with (first | (go_at_call 7; (with_reducible refine (ductuslaw11_alive.calls k  true _ A3.out).mono ?_); rintro e w9 ⟨rfl, hb⟩; have n0_ := Aside0.mk (below_step (by repeat (first | (with_reducible first | exact HB.out | apply below_alloc | apply pw_below_drewN | apply below_drew1) | exact HB.out)) hb); clear HB; have HB := n0_; clear n0_; (try clear hb); (try clear hb2); (try clear hk); (try clear hi)) | (go_at_call 14; (try simp only [IntWalk.i64_left]); (with_reducible refine (neutral_Levels.calls k _ _ l0 (wrap64 (a1)) t264 _ ?side1 ?side2 A7.out).mono ?_); (case side1 => repeat (first | exact (Kd.C_below HR0.out HB.out) | (with_reducible refine Kd.C_alloc ?_ _) | (with_reducible refine Kd.C_drewN ?_ _) | (with_reducible refine Kd.C_drew ?_))); (case side2 => exact HC0.out); rintro e w10 ⟨v265, rfl, ho0, hb⟩; have n0_ := Aside0.mk (Kd.R_lower ho0 (below_size (by repeat (first | (with_reducible first | exact HB.out | apply below_alloc | apply pw_below_drewN | apply below_drew1) | exact HB.out)))); have n1_ := Aside0.mk (below_step (by repeat (first | (with_reducible first | exact HB.out | apply below_alloc | apply pw_below_drewN | apply below_drew1) | exact HB.out)) hb); clear HB; have HO266 := n0_; have HB := n1_; clear n0_ n1_; (try clear hb); (try clear hb2); (try clear hk); (try clear hi); (try clear ho0); obtain ⟨Ao11, co11, eo11⟩ := Kd.R_slice HO266.out; subst eo11)))
  go_loopg [6] k (fun kq v6 w' => ∃ (x6_1 : Int), v6 = .int .i64 x6_1 ∧ Aside0 (ductuslaw11_NeutralLevels.l0 kq l0 a1 t264 x6_1 = some r) ∧ Aside0 (kq ≤ k) ∧ Aside0 (Kd.R (Kd.int .i64) 3 w' w.heap.size (fun _ => True) (.slice Ao11 t264.length co11) t264) ∧ Aside0 (Below w.heap.size w w'))
  case atStart => exact ⟨(0), (by first | rfl | (simp; done) | (simp [*]; done)), H', ⟨Nat.le_refl _⟩, ⟨by (with_reducible repeat (first | apply Kd.R_alloc | apply Kd.R_drewN | apply Kd.R_drew)); exact HO266.out⟩, ⟨by repeat (first | (with_reducible first | exact HB.out | apply below_alloc | apply pw_below_drewN | apply below_drew1) | exact HB.out)⟩⟩
  case round =>
    clear H'
    try clear p2
    try clear c4
    try clear c5
    try clear c5b0
    try clear c5b1
    try clear p6
    try clear c8
    try clear c8b0
    try clear c8b1
    try clear c8b2
    obtain ⟨x6_1, rfl, HA, HK1, HO_5, HB⟩ := hrel
    cases gk with
    | zero => exact absurd HA.out (by simp [ductuslaw11_NeutralLevels.l0])
    | succ k1 =>
      have H := HA.out
      clear HA
      simp only [ductuslaw11_NeutralLevels.l0] at H
      by_cases c12 : x6_1 < (l0.length : Int)
      rotate_left
      · rw [if_neg c12] at H
        have c12b0 : decide (x6_1 < (l0.length : Int)) = false := decide_eq_false c12
        clear c12
        obtain rfl := Option.some.inj H
        go_wp2
        repeat (go_quiet (fail); try go_wp2)
        go_ret
        exact ⟨by first | rfl | (simp [errW_none, errW_some] <;> rfl) | (simp [*, errW_none, errW_some] <;> rfl), by repeat (first | (with_reducible first | exact HB.out | apply below_alloc | apply pw_below_drewN | apply below_drew1) | exact HB.out)⟩
      rw [if_pos c12] at H
      have c12b0 : decide (x6_1 < (l0.length : Int)) = true := decide_eq_true c12
      clear c12
      by_cases c13 : 0 ≤ x6_1
      rotate_left
      · rw [if_neg c13] at H
        exact absurd H (by simp)
      rw [if_pos c13] at H
      have c13b0 : decide (0 ≤ x6_1) = true := decide_eq_true c13
      clear c13
      by_cases c14 : x6_1 < (t264.length : Int)
      rotate_left
      · rw [if_neg c14] at H
        exact absurd H (by simp)
      rw [if_pos c14] at H
      have c14b0 : decide (x6_1 < (t264.length : Int)) = true := decide_eq_true c14
      clear c14
      have HC15 := Aside0.mk H
      clear H
      have p267 : 0 ≤ (x6_1 : Int) := of_decide_eq_true (by first | (with_reducible assumption) | assumption)
      have q267 : x6_1 < (t264.length : Int) := of_decide_eq_true (by first | (with_reducible assumption) | assumption)
      obtain ⟨ad267, e267, hx267_0⟩ := Kd.at_int (Kd.R_reads' HO_5.out).2.2 x6_1 p267 q267
      cases e267
      replace p267 := eq_true p267
      replace q267 := eq_true q267
      go_upto_region 12 with (fail)
      repeat (go_quiet (fail); go_upto_region 12 with (fail))
      go_cut [96] (fun v96 wc => ∃ (kq : Nat) (x96_14 : Bool), v96 = .bool x96_14 ∧ Aside0 (ductuslaw11_NeutralLevels.j1 kq l0 a1 t264 x6_1 (wrap64 ((rd t264 x6_1) - (wrap64 (a1)))) x96_14 = some r) ∧ Aside0 (kq ≤ k1) ∧ Aside0 (Kd.R (Kd.int .i64) 3 wc w.heap.size (fun _ => True) (.slice (some ad267) t264.length co11) t264) ∧ Aside0 (Below w.heap.size w wc))
      case first =>
        have H := HC15.out
        clear HC15
        by_cases c16 : (wrap64 ((rd t264 x6_1) - (wrap64 (a1)))) < 0
        · rw [if_pos c16] at H
          exact absurd H (by simp)
        rw [if_neg c16] at H
        have c16b0 : decide ((wrap64 ((rd t264 x6_1) - (wrap64 (a1)))) < 0) = false := decide_eq_false c16
        clear c16
        (first | rw [c16b0] | (simp only [i64_w, i32_w]; rw [c16b0]) | skip)
        by_cases c17 : (wrap64 ((rd t264 x6_1) - (wrap64 (a1)))) > 2
        · rw [if_pos c17] at H
          exact absurd H (by simp)
        rw [if_neg c17] at H
        have c17b0 : decide (2 < (wrap64 ((rd t264 x6_1) - (wrap64 (a1))))) = false := decide_eq_false c17
        clear c17
        by_cases c18 : (rd l0 x6_1) = 0
        rotate_left
        · rw [if_neg c18] at H
          have c18b0 : ((rd l0 x6_1) == 0) = false := beq_eq_false_iff_ne.mpr c18
          have c18b1 : ((rd l0 x6_1) != 0) = true := bne_iff_ne.mpr c18
          by_cases c26 : (rd l0 x6_1) = 1
          rotate_left
          · rw [if_neg c26] at H
            have c26b0 : ((rd l0 x6_1) == 1) = false := beq_eq_false_iff_ne.mpr c26
            have c26b1 : ((rd l0 x6_1) != 1) = true := bne_iff_ne.mpr c26
            by_cases c32 : (rd l0 x6_1) = 3
            · rw [if_pos c32] at H
              have c32b0 : ((rd l0 x6_1) == 3) = true := beq_iff_eq.mpr c32
              have c32b1 : ((rd l0 x6_1) != 3) = false := bne_eq_false_iff_eq.mpr c32
              clear c32
              by_cases c33 : (Int.tmod (rd t264 x6_1) 2) = 0
              rotate_left
              · rw [if_neg c33] at H
                exact absurd H (by simp)
              rw [if_pos c33] at H
              have c33b0 : ((Int.tmod (rd t264 x6_1) 2) == 0) = true := beq_iff_eq.mpr c33
              have c33b1 : ((Int.tmod (rd t264 x6_1) 2) != 0) = false := bne_eq_false_iff_eq.mpr c33
              clear c33
              have H' := Aside0.mk H
              clear H
              have p268 : 0 ≤ (x6_1 : Int) := of_decide_eq_true (by first | (with_reducible assumption) | assumption)
              have q268 : x6_1 < (l0.length : Int) := of_decide_eq_true (by first | (with_reducible assumption) | assumption)
              obtain ⟨ad268, e268, hx268_0⟩ := Kd.at_int HR0.out x6_1 p268 q268
              cases e268
              replace hx268_0 := (HB.out.cell (World.block_lt_of_cell? w _ hx268_0)).trans hx268_0
              replace p268 := eq_true p268
              replace q268 := eq_true q268
              have p280 : 0 ≤ (x6_1 : Int) := of_decide_eq_true (by first | (with_reducible assumption) | assumption)
              have q280 : x6_1 < (l0.length : Int) := of_decide_eq_true (by first | (with_reducible assumption) | assumption)
              obtain ⟨ad280, e280, hx280_0⟩ := Kd.at_int HR0.out x6_1 p280 q280
              obtain rfl : ad268 = ad280 := (by injection e280)
              replace hx280_0 := (HB.out.cell (World.block_lt_of_cell? w _ hx280_0)).trans hx280_0
              replace p280 := eq_true p280
              replace q280 := eq_true q280
              have p286 : 0 ≤ (x6_1 : Int) := of_decide_eq_true (by first | (with_reducible assumption) | assumption)
              have q286 : x6_1 < (l0.length : Int) := of_decide_eq_true (by first | (with_reducible assumption) | assumption)
              obtain ⟨ad286, e286, hx286_0⟩ := Kd.at_int HR0.out x6_1 p286 q286
              obtain rfl : ad268 = ad286 := (by injection e286)
              replace hx286_0 := (HB.out.cell (World.block_lt_of_cell? w _ hx286_0)).trans hx286_0
              replace p286 := eq_true p286
              replace q286 := eq_true q286
              have p287 : 0 ≤ (x6_1 : Int) := of_decide_eq_true (by first | (with_reducible assumption) | assumption)
              have q287 : x6_1 < (t264.length : Int) := of_decide_eq_true (by first | (with_reducible assumption) | assumption)
              obtain ⟨ad287, e287, hx287_0⟩ := Kd.at_int (Kd.R_reads' HO_5.out).2.2 x6_1 p287 q287
              obtain rfl : ad267 = ad287 := (by injection e287)
              replace p287 := eq_true p287
              replace q287 := eq_true q287
              go_wp2
              repeat (go_quiet (fail); try go_wp2)
              go_meet
              case rel => exact ⟨_, (((wrap64 ((rd t264 x6_1) - (wrap64 (a1)))) == 0)), (by first | rfl | (simp; done) | (simp [*]; done)), H', ⟨by have := HK1.out; first | omega | exact Nat.le_refl _⟩, ⟨by (with_reducible repeat (first | apply Kd.R_alloc | apply Kd.R_drewN | apply Kd.R_drew)); exact HO_5.out⟩, ⟨by repeat (first | (with_reducible first | exact HB.out | apply below_alloc | apply pw_below_drewN | apply below_drew1) | exact HB.out)⟩⟩
            rw [if_neg c32] at H
            have c32b0 : ((rd l0 x6_1) == 3) = false := beq_eq_false_iff_ne.mpr c32
            have c32b1 : ((rd l0 x6_1) != 3) = true := bne_iff_ne.mpr c32
            by_cases c34 : (rd l0 x6_1) = 6
            rotate_left
            · rw [if_neg c34] at H
              have c34b0 : ((rd l0 x6_1) == 6) = false := beq_eq_false_iff_ne.mpr c34
              have c34b1 : ((rd l0 x6_1) != 6) = true := bne_iff_ne.mpr c34
              have H' := Aside0.mk H
              clear H
              have p268 : 0 ≤ (x6_1 : Int) := of_decide_eq_true (by first | (with_reducible assumption) | assumption)
              have q268 : x6_1 < (l0.length : Int) := of_decide_eq_true (by first | (with_reducible assumption) | assumption)
              obtain ⟨ad268, e268, hx268_0⟩ := Kd.at_int HR0.out x6_1 p268 q268
              cases e268
              replace hx268_0 := (HB.out.cell (World.block_lt_of_cell? w _ hx268_0)).trans hx268_0
              replace p268 := eq_true p268
              replace q268 := eq_true q268
              have p280 : 0 ≤ (x6_1 : Int) := of_decide_eq_true (by first | (with_reducible assumption) | assumption)
              have q280 : x6_1 < (l0.length : Int) := of_decide_eq_true (by first | (with_reducible assumption) | assumption)
              obtain ⟨ad280, e280, hx280_0⟩ := Kd.at_int HR0.out x6_1 p280 q280
              obtain rfl : ad268 = ad280 := (by injection e280)
              replace hx280_0 := (HB.out.cell (World.block_lt_of_cell? w _ hx280_0)).trans hx280_0
              replace p280 := eq_true p280
              replace q280 := eq_true q280
              have p286 : 0 ≤ (x6_1 : Int) := of_decide_eq_true (by first | (with_reducible assumption) | assumption)
              have q286 : x6_1 < (l0.length : Int) := of_decide_eq_true (by first | (with_reducible assumption) | assumption)
              obtain ⟨ad286, e286, hx286_0⟩ := Kd.at_int HR0.out x6_1 p286 q286
              obtain rfl : ad268 = ad286 := (by injection e286)
              replace hx286_0 := (HB.out.cell (World.block_lt_of_cell? w _ hx286_0)).trans hx286_0
              replace p286 := eq_true p286
              replace q286 := eq_true q286
              have p288 : 0 ≤ (x6_1 : Int) := of_decide_eq_true (by first | (with_reducible assumption) | assumption)
              have q288 : x6_1 < (l0.length : Int) := of_decide_eq_true (by first | (with_reducible assumption) | assumption)
              obtain ⟨ad288, e288, hx288_0⟩ := Kd.at_int HR0.out x6_1 p288 q288
              obtain rfl : ad268 = ad288 := (by injection e288)
              replace hx288_0 := (HB.out.cell (World.block_lt_of_cell? w _ hx288_0)).trans hx288_0
              replace p288 := eq_true p288
              replace q288 := eq_true q288
              go_wp2
              repeat (go_quiet (fail); try go_wp2)
              go_meet
              case rel => exact ⟨_, (false), (by first | rfl | (simp; done) | (simp [*]; done)), H', ⟨by have := HK1.out; first | omega | exact Nat.le_refl _⟩, ⟨by (with_reducible repeat (first | apply Kd.R_alloc | apply Kd.R_drewN | apply Kd.R_drew)); exact HO_5.out⟩, ⟨by repeat (first | (with_reducible first | exact HB.out | apply below_alloc | apply pw_below_drewN | apply below_drew1) | exact HB.out)⟩⟩
            rw [if_pos c34] at H
            have c34b0 : ((rd l0 x6_1) == 6) = true := beq_iff_eq.mpr c34
            have c34b1 : ((rd l0 x6_1) != 6) = false := bne_eq_false_iff_eq.mpr c34
            clear c34
            by_cases c35 : (Int.tmod (rd t264 x6_1) 2) = 0
            rotate_left
            · rw [if_neg c35] at H
              exact absurd H (by simp)
            rw [if_pos c35] at H
            have c35b0 : ((Int.tmod (rd t264 x6_1) 2) == 0) = true := beq_iff_eq.mpr c35
            have c35b1 : ((Int.tmod (rd t264 x6_1) 2) != 0) = false := bne_eq_false_iff_eq.mpr c35
            clear c35
            have H' := Aside0.mk H
            clear H
            have p268 : 0 ≤ (x6_1 : Int) := of_decide_eq_true (by first | (with_reducible assumption) | assumption)
            have q268 : x6_1 < (l0.length : Int) := of_decide_eq_true (by first | (with_reducible assumption) | assumption)
            obtain ⟨ad268, e268, hx268_0⟩ := Kd.at_int HR0.out x6_1 p268 q268
            cases e268
            replace hx268_0 := (HB.out.cell (World.block_lt_of_cell? w _ hx268_0)).trans hx268_0
            replace p268 := eq_true p268
            replace q268 := eq_true q268
            have p280 : 0 ≤ (x6_1 : Int) := of_decide_eq_true (by first | (with_reducible assumption) | assumption)
            have q280 : x6_1 < (l0.length : Int) := of_decide_eq_true (by first | (with_reducible assumption) | assumption)
            obtain ⟨ad280, e280, hx280_0⟩ := Kd.at_int HR0.out x6_1 p280 q280
            obtain rfl : ad268 = ad280 := (by injection e280)
            replace hx280_0 := (HB.out.cell (World.block_lt_of_cell? w _ hx280_0)).trans hx280_0
            replace p280 := eq_true p280
            replace q280 := eq_true q280
            have p286 : 0 ≤ (x6_1 : Int) := of_decide_eq_true (by first | (with_reducible assumption) | assumption)
            have q286 : x6_1 < (l0.length : Int) := of_decide_eq_true (by first | (with_reducible assumption) | assumption)
            obtain ⟨ad286, e286, hx286_0⟩ := Kd.at_int HR0.out x6_1 p286 q286
            obtain rfl : ad268 = ad286 := (by injection e286)
            replace hx286_0 := (HB.out.cell (World.block_lt_of_cell? w _ hx286_0)).trans hx286_0
            replace p286 := eq_true p286
            replace q286 := eq_true q286
            have p288 : 0 ≤ (x6_1 : Int) := of_decide_eq_true (by first | (with_reducible assumption) | assumption)
            have q288 : x6_1 < (l0.length : Int) := of_decide_eq_true (by first | (with_reducible assumption) | assumption)
            obtain ⟨ad288, e288, hx288_0⟩ := Kd.at_int HR0.out x6_1 p288 q288
            obtain rfl : ad268 = ad288 := (by injection e288)
            replace hx288_0 := (HB.out.cell (World.block_lt_of_cell? w _ hx288_0)).trans hx288_0
            replace p288 := eq_true p288
            replace q288 := eq_true q288
            have p289 : 0 ≤ (x6_1 : Int) := of_decide_eq_true (by first | (with_reducible assumption) | assumption)
            have q289 : x6_1 < (t264.length : Int) := of_decide_eq_true (by first | (with_reducible assumption) | assumption)
            obtain ⟨ad289, e289, hx289_0⟩ := Kd.at_int (Kd.R_reads' HO_5.out).2.2 x6_1 p289 q289
            obtain rfl : ad267 = ad289 := (by injection e289)
            replace p289 := eq_true p289
            replace q289 := eq_true q289
            go_wp2
            repeat (go_quiet (fail); try go_wp2)
            go_meet
            case rel => exact ⟨_, (((wrap64 ((rd t264 x6_1) - (wrap64 (a1)))) == 0)), (by first | rfl | (simp; done) | (simp [*]; done)), H', ⟨by have := HK1.out; first | omega | exact Nat.le_refl _⟩, ⟨by (with_reducible repeat (first | apply Kd.R_alloc | apply Kd.R_drewN | apply Kd.R_drew)); exact HO_5.out⟩, ⟨by repeat (first | (with_reducible first | exact HB.out | apply below_alloc | apply pw_below_drewN | apply below_drew1) | exact HB.out)⟩⟩
          rw [if_pos c26] at H
          have c26b0 : ((rd l0 x6_1) == 1) = true := beq_iff_eq.mpr c26
          have c26b1 : ((rd l0 x6_1) != 1) = false := bne_eq_false_iff_eq.mpr c26
          clear c26
          by_cases c27 : (Int.tmod (rd t264 x6_1) 2) = 1
          rotate_left
          · rw [if_neg c27] at H
            exact absurd H (by simp)
          rw [if_pos c27] at H
          have c27b0 : ((Int.tmod (rd t264 x6_1) 2) == 1) = true := beq_iff_eq.mpr c27
          have c27b1 : ((Int.tmod (rd t264 x6_1) 2) != 1) = false := bne_eq_false_iff_eq.mpr c27
          clear c27
          by_cases c28 : (rd l0 x6_1) = 3
          · rw [if_pos c28] at H
            have c28b0 : ((rd l0 x6_1) == 3) = true := beq_iff_eq.mpr c28
            have c28b1 : ((rd l0 x6_1) != 3) = false := bne_eq_false_iff_eq.mpr c28
            clear c28
            by_cases c29 : (Int.tmod (rd t264 x6_1) 2) = 0
            rotate_left
            · rw [if_neg c29] at H
              exact absurd H (by simp)
            rw [if_pos c29] at H
            have c29b0 : ((Int.tmod (rd t264 x6_1) 2) == 0) = true := beq_iff_eq.mpr c29
            have c29b1 : ((Int.tmod (rd t264 x6_1) 2) != 0) = false := bne_eq_false_iff_eq.mpr c29
            clear c29
            have H' := Aside0.mk H
            clear H
            have p268 : 0 ≤ (x6_1 : Int) := of_decide_eq_true (by first | (with_reducible assumption) | assumption)
            have q268 : x6_1 < (l0.length : Int) := of_decide_eq_true (by first | (with_reducible assumption) | assumption)
            obtain ⟨ad268, e268, hx268_0⟩ := Kd.at_int HR0.out x6_1 p268 q268
            cases e268
            replace hx268_0 := (HB.out.cell (World.block_lt_of_cell? w _ hx268_0)).trans hx268_0
            replace p268 := eq_true p268
            replace q268 := eq_true q268
            have p280 : 0 ≤ (x6_1 : Int) := of_decide_eq_true (by first | (with_reducible assumption) | assumption)
            have q280 : x6_1 < (l0.length : Int) := of_decide_eq_true (by first | (with_reducible assumption) | assumption)
            obtain ⟨ad280, e280, hx280_0⟩ := Kd.at_int HR0.out x6_1 p280 q280
            obtain rfl : ad268 = ad280 := (by injection e280)
            replace hx280_0 := (HB.out.cell (World.block_lt_of_cell? w _ hx280_0)).trans hx280_0
            replace p280 := eq_true p280
            replace q280 := eq_true q280
            have p281 : 0 ≤ (x6_1 : Int) := of_decide_eq_true (by first | (with_reducible assumption) | assumption)
            have q281 : x6_1 < (t264.length : Int) := of_decide_eq_true (by first | (with_reducible assumption) | assumption)
            obtain ⟨ad281, e281, hx281_0⟩ := Kd.at_int (Kd.R_reads' HO_5.out).2.2 x6_1 p281 q281
            obtain rfl : ad267 = ad281 := (by injection e281)
            replace p281 := eq_true p281
            replace q281 := eq_true q281
            have p282 : 0 ≤ (x6_1 : Int) := of_decide_eq_true (by first | (with_reducible assumption) | assumption)
            have q282 : x6_1 < (l0.length : Int) := of_decide_eq_true (by first | (with_reducible assumption) | assumption)
            obtain ⟨ad282, e282, hx282_0⟩ := Kd.at_int HR0.out x6_1 p282 q282
            obtain rfl : ad268 = ad282 := (by injection e282)
            replace hx282_0 := (HB.out.cell (World.block_lt_of_cell? w _ hx282_0)).trans hx282_0
            replace p282 := eq_true p282
            replace q282 := eq_true q282
            have p283 : 0 ≤ (x6_1 : Int) := of_decide_eq_true (by first | (with_reducible assumption) | assumption)
            have q283 : x6_1 < (t264.length : Int) := of_decide_eq_true (by first | (with_reducible assumption) | assumption)
            obtain ⟨ad283, e283, hx283_0⟩ := Kd.at_int (Kd.R_reads' HO_5.out).2.2 x6_1 p283 q283
            obtain rfl : ad267 = ad283 := (by injection e283)
            replace p283 := eq_true p283
            replace q283 := eq_true q283
            go_wp2
            repeat (go_quiet (fail); try go_wp2)
            go_meet
            case rel => exact ⟨_, (((wrap64 ((rd t264 x6_1) - (wrap64 (a1)))) == 0)), (by first | rfl | (simp; done) | (simp [*]; done)), H', ⟨by have := HK1.out; first | omega | exact Nat.le_refl _⟩, ⟨by (with_reducible repeat (first | apply Kd.R_alloc | apply Kd.R_drewN | apply Kd.R_drew)); exact HO_5.out⟩, ⟨by repeat (first | (with_reducible first | exact HB.out | apply below_alloc | apply pw_below_drewN | apply below_drew1) | exact HB.out)⟩⟩
          rw [if_neg c28] at H
          have c28b0 : ((rd l0 x6_1) == 3) = false := beq_eq_false_iff_ne.mpr c28
          have c28b1 : ((rd l0 x6_1) != 3) = true := bne_iff_ne.mpr c28
          by_cases c30 : (rd l0 x6_1) = 6
          rotate_left
          · rw [if_neg c30] at H
            have c30b0 : ((rd l0 x6_1) == 6) = false := beq_eq_false_iff_ne.mpr c30
            have c30b1 : ((rd l0 x6_1) != 6) = true := bne_iff_ne.mpr c30
            have H' := Aside0.mk H
            clear H
            have p268 : 0 ≤ (x6_1 : Int) := of_decide_eq_true (by first | (with_reducible assumption) | assumption)
            have q268 : x6_1 < (l0.length : Int) := of_decide_eq_true (by first | (with_reducible assumption) | assumption)
            obtain ⟨ad268, e268, hx268_0⟩ := Kd.at_int HR0.out x6_1 p268 q268
            cases e268
            replace hx268_0 := (HB.out.cell (World.block_lt_of_cell? w _ hx268_0)).trans hx268_0
            replace p268 := eq_true p268
            replace q268 := eq_true q268
            have p280 : 0 ≤ (x6_1 : Int) := of_decide_eq_true (by first | (with_reducible assumption) | assumption)
            have q280 : x6_1 < (l0.length : Int) := of_decide_eq_true (by first | (with_reducible assumption) | assumption)
            obtain ⟨ad280, e280, hx280_0⟩ := Kd.at_int HR0.out x6_1 p280 q280
            obtain rfl : ad268 = ad280 := (by injection e280)
            replace hx280_0 := (HB.out.cell (World.block_lt_of_cell? w _ hx280_0)).trans hx280_0
            replace p280 := eq_true p280
            replace q280 := eq_true q280
            have p281 : 0 ≤ (x6_1 : Int) := of_decide_eq_true (by first | (with_reducible assumption) | assumption)
            have q281 : x6_1 < (t264.length : Int) := of_decide_eq_true (by first | (with_reducible assumption) | assumption)
            obtain ⟨ad281, e281, hx281_0⟩ := Kd.at_int (Kd.R_reads' HO_5.out).2.2 x6_1 p281 q281
            obtain rfl : ad267 = ad281 := (by injection e281)
            replace p281 := eq_true p281
            replace q281 := eq_true q281
            have p282 : 0 ≤ (x6_1 : Int) := of_decide_eq_true (by first | (with_reducible assumption) | assumption)
            have q282 : x6_1 < (l0.length : Int) := of_decide_eq_true (by first | (with_reducible assumption) | assumption)
            obtain ⟨ad282, e282, hx282_0⟩ := Kd.at_int HR0.out x6_1 p282 q282
            obtain rfl : ad268 = ad282 := (by injection e282)
            replace hx282_0 := (HB.out.cell (World.block_lt_of_cell? w _ hx282_0)).trans hx282_0
            replace p282 := eq_true p282
            replace q282 := eq_true q282
            have p284 : 0 ≤ (x6_1 : Int) := of_decide_eq_true (by first | (with_reducible assumption) | assumption)
            have q284 : x6_1 < (l0.length : Int) := of_decide_eq_true (by first | (with_reducible assumption) | assumption)
            obtain ⟨ad284, e284, hx284_0⟩ := Kd.at_int HR0.out x6_1 p284 q284
            obtain rfl : ad268 = ad284 := (by injection e284)
            replace hx284_0 := (HB.out.cell (World.block_lt_of_cell? w _ hx284_0)).trans hx284_0
            replace p284 := eq_true p284
            replace q284 := eq_true q284
            go_wp2
            repeat (go_quiet (fail); try go_wp2)
            go_meet
            case rel => exact ⟨_, (false), (by first | rfl | (simp; done) | (simp [*]; done)), H', ⟨by have := HK1.out; first | omega | exact Nat.le_refl _⟩, ⟨by (with_reducible repeat (first | apply Kd.R_alloc | apply Kd.R_drewN | apply Kd.R_drew)); exact HO_5.out⟩, ⟨by repeat (first | (with_reducible first | exact HB.out | apply below_alloc | apply pw_below_drewN | apply below_drew1) | exact HB.out)⟩⟩
          rw [if_pos c30] at H
          have c30b0 : ((rd l0 x6_1) == 6) = true := beq_iff_eq.mpr c30
          have c30b1 : ((rd l0 x6_1) != 6) = false := bne_eq_false_iff_eq.mpr c30
          clear c30
          by_cases c31 : (Int.tmod (rd t264 x6_1) 2) = 0
          rotate_left
          · rw [if_neg c31] at H
            exact absurd H (by simp)
          rw [if_pos c31] at H
          have c31b0 : ((Int.tmod (rd t264 x6_1) 2) == 0) = true := beq_iff_eq.mpr c31
          have c31b1 : ((Int.tmod (rd t264 x6_1) 2) != 0) = false := bne_eq_false_iff_eq.mpr c31
          clear c31
          have H' := Aside0.mk H
          clear H
          have p268 : 0 ≤ (x6_1 : Int) := of_decide_eq_true (by first | (with_reducible assumption) | assumption)
          have q268 : x6_1 < (l0.length : Int) := of_decide_eq_true (by first | (with_reducible assumption) | assumption)
          obtain ⟨ad268, e268, hx268_0⟩ := Kd.at_int HR0.out x6_1 p268 q268
          cases e268
          replace hx268_0 := (HB.out.cell (World.block_lt_of_cell? w _ hx268_0)).trans hx268_0
          replace p268 := eq_true p268
          replace q268 := eq_true q268
          have p280 : 0 ≤ (x6_1 : Int) := of_decide_eq_true (by first | (with_reducible assumption) | assumption)
          have q280 : x6_1 < (l0.length : Int) := of_decide_eq_true (by first | (with_reducible assumption) | assumption)
          obtain ⟨ad280, e280, hx280_0⟩ := Kd.at_int HR0.out x6_1 p280 q280
          obtain rfl : ad268 = ad280 := (by injection e280)
          replace hx280_0 := (HB.out.cell (World.block_lt_of_cell? w _ hx280_0)).trans hx280_0
          replace p280 := eq_true p280
          replace q280 := eq_true q280
          have p281 : 0 ≤ (x6_1 : Int) := of_decide_eq_true (by first | (with_reducible assumption) | assumption)
          have q281 : x6_1 < (t264.length : Int) := of_decide_eq_true (by first | (with_reducible assumption) | assumption)
          obtain ⟨ad281, e281, hx281_0⟩ := Kd.at_int (Kd.R_reads' HO_5.out).2.2 x6_1 p281 q281
          obtain rfl : ad267 = ad281 := (by injection e281)
          replace p281 := eq_true p281
          replace q281 := eq_true q281
          have p282 : 0 ≤ (x6_1 : Int) := of_decide_eq_true (by first | (with_reducible assumption) | assumption)
          have q282 : x6_1 < (l0.length : Int) := of_decide_eq_true (by first | (with_reducible assumption) | assumption)
          obtain ⟨ad282, e282, hx282_0⟩ := Kd.at_int HR0.out x6_1 p282 q282
          obtain rfl : ad268 = ad282 := (by injection e282)
          replace hx282_0 := (HB.out.cell (World.block_lt_of_cell? w _ hx282_0)).trans hx282_0
          replace p282 := eq_true p282
          replace q282 := eq_true q282
          have p284 : 0 ≤ (x6_1 : Int) := of_decide_eq_true (by first | (with_reducible assumption) | assumption)
          have q284 : x6_1 < (l0.length : Int) := of_decide_eq_true (by first | (with_reducible assumption) | assumption)
          obtain ⟨ad284, e284, hx284_0⟩ := Kd.at_int HR0.out x6_1 p284 q284
          obtain rfl : ad268 = ad284 := (by injection e284)
          replace hx284_0 := (HB.out.cell (World.block_lt_of_cell? w _ hx284_0)).trans hx284_0
          replace p284 := eq_true p284
          replace q284 := eq_true q284
          have p285 : 0 ≤ (x6_1 : Int) := of_decide_eq_true (by first | (with_reducible assumption) | assumption)
          have q285 : x6_1 < (t264.length : Int) := of_decide_eq_true (by first | (with_reducible assumption) | assumption)
          obtain ⟨ad285, e285, hx285_0⟩ := Kd.at_int (Kd.R_reads' HO_5.out).2.2 x6_1 p285 q285
          obtain rfl : ad267 = ad285 := (by injection e285)
          replace p285 := eq_true p285
          replace q285 := eq_true q285
          go_wp2
          repeat (go_quiet (fail); try go_wp2)
          go_meet
          case rel => exact ⟨_, (((wrap64 ((rd t264 x6_1) - (wrap64 (a1)))) == 0)), (by first | rfl | (simp; done) | (simp [*]; done)), H', ⟨by have := HK1.out; first | omega | exact Nat.le_refl _⟩, ⟨by (with_reducible repeat (first | apply Kd.R_alloc | apply Kd.R_drewN | apply Kd.R_drew)); exact HO_5.out⟩, ⟨by repeat (first | (with_reducible first | exact HB.out | apply below_alloc | apply pw_below_drewN | apply below_drew1) | exact HB.out)⟩⟩
        rw [if_pos c18] at H
        have c18b0 : ((rd l0 x6_1) == 0) = true := beq_iff_eq.mpr c18
        have c18b1 : ((rd l0 x6_1) != 0) = false := bne_eq_false_iff_eq.mpr c18
        clear c18
        by_cases c19 : (Int.tmod (rd t264 x6_1) 2) = 0
        rotate_left
        · rw [if_neg c19] at H
          exact absurd H (by simp)
        rw [if_pos c19] at H
        have c19b0 : ((Int.tmod (rd t264 x6_1) 2) == 0) = true := beq_iff_eq.mpr c19
        have c19b1 : ((Int.tmod (rd t264 x6_1) 2) != 0) = false := bne_eq_false_iff_eq.mpr c19
        clear c19
        by_cases c20 : (rd l0 x6_1) = 1
        rotate_left
        · rw [if_neg c20] at H
          have c20b0 : ((rd l0 x6_1) == 1) = false := beq_eq_false_iff_ne.mpr c20
          have c20b1 : ((rd l0 x6_1) != 1) = true := bne_iff_ne.mpr c20
          by_cases c24 : (rd l0 x6_1) = 3
          · rw [if_pos c24] at H
            have c24b0 : ((rd l0 x6_1) == 3) = true := beq_iff_eq.mpr c24
            have c24b1 : ((rd l0 x6_1) != 3) = false := bne_eq_false_iff_eq.mpr c24
            clear c24
            have H' := Aside0.mk H
            clear H
            have p268 : 0 ≤ (x6_1 : Int) := of_decide_eq_true (by first | (with_reducible assumption) | assumption)
            have q268 : x6_1 < (l0.length : Int) := of_decide_eq_true (by first | (with_reducible assumption) | assumption)
            obtain ⟨ad268, e268, hx268_0⟩ := Kd.at_int HR0.out x6_1 p268 q268
            cases e268
            replace hx268_0 := (HB.out.cell (World.block_lt_of_cell? w _ hx268_0)).trans hx268_0
            replace p268 := eq_true p268
            replace q268 := eq_true q268
            have p269 : 0 ≤ (x6_1 : Int) := of_decide_eq_true (by first | (with_reducible assumption) | assumption)
            have q269 : x6_1 < (t264.length : Int) := of_decide_eq_true (by first | (with_reducible assumption) | assumption)
            obtain ⟨ad269, e269, hx269_0⟩ := Kd.at_int (Kd.R_reads' HO_5.out).2.2 x6_1 p269 q269
            obtain rfl : ad267 = ad269 := (by injection e269)
            replace p269 := eq_true p269
            replace q269 := eq_true q269
            have p270 : 0 ≤ (x6_1 : Int) := of_decide_eq_true (by first | (with_reducible assumption) | assumption)
            have q270 : x6_1 < (l0.length : Int) := of_decide_eq_true (by first | (with_reducible assumption) | assumption)
            obtain ⟨ad270, e270, hx270_0⟩ := Kd.at_int HR0.out x6_1 p270 q270
            obtain rfl : ad268 = ad270 := (by injection e270)
            replace hx270_0 := (HB.out.cell (World.block_lt_of_cell? w _ hx270_0)).trans hx270_0
            replace p270 := eq_true p270
            replace q270 := eq_true q270
            have p276 : 0 ≤ (x6_1 : Int) := of_decide_eq_true (by first | (with_reducible assumption) | assumption)
            have q276 : x6_1 < (l0.length : Int) := of_decide_eq_true (by first | (with_reducible assumption) | assumption)
            obtain ⟨ad276, e276, hx276_0⟩ := Kd.at_int HR0.out x6_1 p276 q276
            obtain rfl : ad268 = ad276 := (by injection e276)
            replace hx276_0 := (HB.out.cell (World.block_lt_of_cell? w _ hx276_0)).trans hx276_0
            replace p276 := eq_true p276
            replace q276 := eq_true q276
            have p277 : 0 ≤ (x6_1 : Int) := of_decide_eq_true (by first | (with_reducible assumption) | assumption)
            have q277 : x6_1 < (t264.length : Int) := of_decide_eq_true (by first | (with_reducible assumption) | assumption)
            obtain ⟨ad277, e277, hx277_0⟩ := Kd.at_int (Kd.R_reads' HO_5.out).2.2 x6_1 p277 q277
            obtain rfl : ad267 = ad277 := (by injection e277)
            replace p277 := eq_true p277
            replace q277 := eq_true q277
            go_wp2
            repeat (go_quiet (fail); try go_wp2)
            go_meet
            case rel => exact ⟨_, (((wrap64 ((rd t264 x6_1) - (wrap64 (a1)))) == 0)), (by first | rfl | (simp; done) | (simp [*]; done)), H', ⟨by have := HK1.out; first | omega | exact Nat.le_refl _⟩, ⟨by (with_reducible repeat (first | apply Kd.R_alloc | apply Kd.R_drewN | apply Kd.R_drew)); exact HO_5.out⟩, ⟨by repeat (first | (with_reducible first | exact HB.out | apply below_alloc | apply pw_below_drewN | apply below_drew1) | exact HB.out)⟩⟩
          rw [if_neg c24] at H
          have c24b0 : ((rd l0 x6_1) == 3) = false := beq_eq_false_iff_ne.mpr c24
          have c24b1 : ((rd l0 x6_1) != 3) = true := bne_iff_ne.mpr c24
          by_cases c25 : (rd l0 x6_1) = 6
          rotate_left
          · rw [if_neg c25] at H
            have c25b0 : ((rd l0 x6_1) == 6) = false := beq_eq_false_iff_ne.mpr c25
            have c25b1 : ((rd l0 x6_1) != 6) = true := bne_iff_ne.mpr c25
            have H' := Aside0.mk H
            clear H
            have p268 : 0 ≤ (x6_1 : Int) := of_decide_eq_true (by first | (with_reducible assumption) | assumption)
            have q268 : x6_1 < (l0.length : Int) := of_decide_eq_true (by first | (with_reducible assumption) | assumption)
            obtain ⟨ad268, e268, hx268_0⟩ := Kd.at_int HR0.out x6_1 p268 q268
            cases e268
            replace hx268_0 := (HB.out.cell (World.block_lt_of_cell? w _ hx268_0)).trans hx268_0
            replace p268 := eq_true p268
            replace q268 := eq_true q268
            have p269 : 0 ≤ (x6_1 : Int) := of_decide_eq_true (by first | (with_reducible assumption) | assumption)
            have q269 : x6_1 < (t264.length : Int) := of_decide_eq_true (by first | (with_reducible assumption) | assumption)
            obtain ⟨ad269, e269, hx269_0⟩ := Kd.at_int (Kd.R_reads' HO_5.out).2.2 x6_1 p269 q269
            obtain rfl : ad267 = ad269 := (by injection e269)
            replace p269 := eq_true p269
            replace q269 := eq_true q269
            have p270 : 0 ≤ (x6_1 : Int) := of_decide_eq_true (by first | (with_reducible assumption) | assumption)
            have q270 : x6_1 < (l0.length : Int) := of_decide_eq_true (by first | (with_reducible assumption) | assumption)
            obtain ⟨ad270, e270, hx270_0⟩ := Kd.at_int HR0.out x6_1 p270 q270
            obtain rfl : ad268 = ad270 := (by injection e270)
            replace hx270_0 := (HB.out.cell (World.block_lt_of_cell? w _ hx270_0)).trans hx270_0
            replace p270 := eq_true p270
            replace q270 := eq_true q270
            have p276 : 0 ≤ (x6_1 : Int) := of_decide_eq_true (by first | (with_reducible assumption) | assumption)
            have q276 : x6_1 < (l0.length : Int) := of_decide_eq_true (by first | (with_reducible assumption) | assumption)
            obtain ⟨ad276, e276, hx276_0⟩ := Kd.at_int HR0.out x6_1 p276 q276
            obtain rfl : ad268 = ad276 := (by injection e276)
            replace hx276_0 := (HB.out.cell (World.block_lt_of_cell? w _ hx276_0)).trans hx276_0
            replace p276 := eq_true p276
            replace q276 := eq_true q276
            have p278 : 0 ≤ (x6_1 : Int) := of_decide_eq_true (by first | (with_reducible assumption) | assumption)
            have q278 : x6_1 < (l0.length : Int) := of_decide_eq_true (by first | (with_reducible assumption) | assumption)
            obtain ⟨ad278, e278, hx278_0⟩ := Kd.at_int HR0.out x6_1 p278 q278
            obtain rfl : ad268 = ad278 := (by injection e278)
            replace hx278_0 := (HB.out.cell (World.block_lt_of_cell? w _ hx278_0)).trans hx278_0
            replace p278 := eq_true p278
            replace q278 := eq_true q278
            go_wp2
            repeat (go_quiet (fail); try go_wp2)
            go_meet
            case rel => exact ⟨_, (false), (by first | rfl | (simp; done) | (simp [*]; done)), H', ⟨by have := HK1.out; first | omega | exact Nat.le_refl _⟩, ⟨by (with_reducible repeat (first | apply Kd.R_alloc | apply Kd.R_drewN | apply Kd.R_drew)); exact HO_5.out⟩, ⟨by repeat (first | (with_reducible first | exact HB.out | apply below_alloc | apply pw_below_drewN | apply below_drew1) | exact HB.out)⟩⟩
          rw [if_pos c25] at H
          have c25b0 : ((rd l0 x6_1) == 6) = true := beq_iff_eq.mpr c25
          have c25b1 : ((rd l0 x6_1) != 6) = false := bne_eq_false_iff_eq.mpr c25
          clear c25
          have H' := Aside0.mk H
          clear H
          have p268 : 0 ≤ (x6_1 : Int) := of_decide_eq_true (by first | (with_reducible assumption) | assumption)
          have q268 : x6_1 < (l0.length : Int) := of_decide_eq_true (by first | (with_reducible assumption) | assumption)
          obtain ⟨ad268, e268, hx268_0⟩ := Kd.at_int HR0.out x6_1 p268 q268
          cases e268
          replace hx268_0 := (HB.out.cell (World.block_lt_of_cell? w _ hx268_0)).trans hx268_0
          replace p268 := eq_true p268
          replace q268 := eq_true q268
          have p269 : 0 ≤ (x6_1 : Int) := of_decide_eq_true (by first | (with_reducible assumption) | assumption)
          have q269 : x6_1 < (t264.length : Int) := of_decide_eq_true (by first | (with_reducible assumption) | assumption)
          obtain ⟨ad269, e269, hx269_0⟩ := Kd.at_int (Kd.R_reads' HO_5.out).2.2 x6_1 p269 q269
          obtain rfl : ad267 = ad269 := (by injection e269)
          replace p269 := eq_true p269
          replace q269 := eq_true q269
          have p270 : 0 ≤ (x6_1 : Int) := of_decide_eq_true (by first | (with_reducible assumption) | assumption)
          have q270 : x6_1 < (l0.length : Int) := of_decide_eq_true (by first | (with_reducible assumption) | assumption)
          obtain ⟨ad270, e270, hx270_0⟩ := Kd.at_int HR0.out x6_1 p270 q270
          obtain rfl : ad268 = ad270 := (by injection e270)
          replace hx270_0 := (HB.out.cell (World.block_lt_of_cell? w _ hx270_0)).trans hx270_0
          replace p270 := eq_true p270
          replace q270 := eq_true q270
          have p276 : 0 ≤ (x6_1 : Int) := of_decide_eq_true (by first | (with_reducible assumption) | assumption)
          have q276 : x6_1 < (l0.length : Int) := of_decide_eq_true (by first | (with_reducible assumption) | assumption)
          obtain ⟨ad276, e276, hx276_0⟩ := Kd.at_int HR0.out x6_1 p276 q276
          obtain rfl : ad268 = ad276 := (by injection e276)
          replace hx276_0 := (HB.out.cell (World.block_lt_of_cell? w _ hx276_0)).trans hx276_0
          replace p276 := eq_true p276
          replace q276 := eq_true q276
          have p278 : 0 ≤ (x6_1 : Int) := of_decide_eq_true (by first | (with_reducible assumption) | assumption)
          have q278 : x6_1 < (l0.length : Int) := of_decide_eq_true (by first | (with_reducible assumption) | assumption)
          obtain ⟨ad278, e278, hx278_0⟩ := Kd.at_int HR0.out x6_1 p278 q278
          obtain rfl : ad268 = ad278 := (by injection e278)
          replace hx278_0 := (HB.out.cell (World.block_lt_of_cell? w _ hx278_0)).trans hx278_0
          replace p278 := eq_true p278
          replace q278 := eq_true q278
          have p279 : 0 ≤ (x6_1 : Int) := of_decide_eq_true (by first | (with_reducible assumption) | assumption)
          have q279 : x6_1 < (t264.length : Int) := of_decide_eq_true (by first | (with_reducible assumption) | assumption)
          obtain ⟨ad279, e279, hx279_0⟩ := Kd.at_int (Kd.R_reads' HO_5.out).2.2 x6_1 p279 q279
          obtain rfl : ad267 = ad279 := (by injection e279)
          replace p279 := eq_true p279
          replace q279 := eq_true q279
          go_wp2
          repeat (go_quiet (fail); try go_wp2)
          go_meet
          case rel => exact ⟨_, (((wrap64 ((rd t264 x6_1) - (wrap64 (a1)))) == 0)), (by first | rfl | (simp; done) | (simp [*]; done)), H', ⟨by have := HK1.out; first | omega | exact Nat.le_refl _⟩, ⟨by (with_reducible repeat (first | apply Kd.R_alloc | apply Kd.R_drewN | apply Kd.R_drew)); exact HO_5.out⟩, ⟨by repeat (first | (with_reducible first | exact HB.out | apply below_alloc | apply pw_below_drewN | apply below_drew1) | exact HB.out)⟩⟩
        rw [if_pos c20] at H
        have c20b0 : ((rd l0 x6_1) == 1) = true := beq_iff_eq.mpr c20
        have c20b1 : ((rd l0 x6_1) != 1) = false := bne_eq_false_iff_eq.mpr c20
        clear c20
        by_cases c21 : (Int.tmod (rd t264 x6_1) 2) = 1
        rotate_left
        · rw [if_neg c21] at H
          exact absurd H (by simp)
        rw [if_pos c21] at H
        have c21b0 : ((Int.tmod (rd t264 x6_1) 2) == 1) = true := beq_iff_eq.mpr c21
        have c21b1 : ((Int.tmod (rd t264 x6_1) 2) != 1) = false := bne_eq_false_iff_eq.mpr c21
        clear c21
        by_cases c22 : (rd l0 x6_1) = 3
        · rw [if_pos c22] at H
          have c22b0 : ((rd l0 x6_1) == 3) = true := beq_iff_eq.mpr c22
          have c22b1 : ((rd l0 x6_1) != 3) = false := bne_eq_false_iff_eq.mpr c22
          clear c22
          have H' := Aside0.mk H
          clear H
          have p268 : 0 ≤ (x6_1 : Int) := of_decide_eq_true (by first | (with_reducible assumption) | assumption)
          have q268 : x6_1 < (l0.length : Int) := of_decide_eq_true (by first | (with_reducible assumption) | assumption)
          obtain ⟨ad268, e268, hx268_0⟩ := Kd.at_int HR0.out x6_1 p268 q268
          cases e268
          replace hx268_0 := (HB.out.cell (World.block_lt_of_cell? w _ hx268_0)).trans hx268_0
          replace p268 := eq_true p268
          replace q268 := eq_true q268
          have p269 : 0 ≤ (x6_1 : Int) := of_decide_eq_true (by first | (with_reducible assumption) | assumption)
          have q269 : x6_1 < (t264.length : Int) := of_decide_eq_true (by first | (with_reducible assumption) | assumption)
          obtain ⟨ad269, e269, hx269_0⟩ := Kd.at_int (Kd.R_reads' HO_5.out).2.2 x6_1 p269 q269
          obtain rfl : ad267 = ad269 := (by injection e269)
          replace p269 := eq_true p269
          replace q269 := eq_true q269
          have p270 : 0 ≤ (x6_1 : Int) := of_decide_eq_true (by first | (with_reducible assumption) | assumption)
          have q270 : x6_1 < (l0.length : Int) := of_decide_eq_true (by first | (with_reducible assumption) | assumption)
          obtain ⟨ad270, e270, hx270_0⟩ := Kd.at_int HR0.out x6_1 p270 q270
          obtain rfl : ad268 = ad270 := (by injection e270)
          replace hx270_0 := (HB.out.cell (World.block_lt_of_cell? w _ hx270_0)).trans hx270_0
          replace p270 := eq_true p270
          replace q270 := eq_true q270
          have p271 : 0 ≤ (x6_1 : Int) := of_decide_eq_true (by first | (with_reducible assumption) | assumption)
          have q271 : x6_1 < (t264.length : Int) := of_decide_eq_true (by first | (with_reducible assumption) | assumption)
          obtain ⟨ad271, e271, hx271_0⟩ := Kd.at_int (Kd.R_reads' HO_5.out).2.2 x6_1 p271 q271
          obtain rfl : ad267 = ad271 := (by injection e271)
          replace p271 := eq_true p271
          replace q271 := eq_true q271
          have p272 : 0 ≤ (x6_1 : Int) := of_decide_eq_true (by first | (with_reducible assumption) | assumption)
          have q272 : x6_1 < (l0.length : Int) := of_decide_eq_true (by first | (with_reducible assumption) | assumption)
          obtain ⟨ad272, e272, hx272_0⟩ := Kd.at_int HR0.out x6_1 p272 q272
          obtain rfl : ad268 = ad272 := (by injection e272)
          replace hx272_0 := (HB.out.cell (World.block_lt_of_cell? w _ hx272_0)).trans hx272_0
          replace p272 := eq_true p272
          replace q272 := eq_true q272
          have p273 : 0 ≤ (x6_1 : Int) := of_decide_eq_true (by first | (with_reducible assumption) | assumption)
          have q273 : x6_1 < (t264.length : Int) := of_decide_eq_true (by first | (with_reducible assumption) | assumption)
          obtain ⟨ad273, e273, hx273_0⟩ := Kd.at_int (Kd.R_reads' HO_5.out).2.2 x6_1 p273 q273
          obtain rfl : ad267 = ad273 := (by injection e273)
          replace p273 := eq_true p273
          replace q273 := eq_true q273
          go_wp2
          repeat (go_quiet (fail); try go_wp2)
          go_meet
          case rel => exact ⟨_, (((wrap64 ((rd t264 x6_1) - (wrap64 (a1)))) == 0)), (by first | rfl | (simp; done) | (simp [*]; done)), H', ⟨by have := HK1.out; first | omega | exact Nat.le_refl _⟩, ⟨by (with_reducible repeat (first | apply Kd.R_alloc | apply Kd.R_drewN | apply Kd.R_drew)); exact HO_5.out⟩, ⟨by repeat (first | (with_reducible first | exact HB.out | apply below_alloc | apply pw_below_drewN | apply below_drew1) | exact HB.out)⟩⟩
        rw [if_neg c22] at H
        have c22b0 : ((rd l0 x6_1) == 3) = false := beq_eq_false_iff_ne.mpr c22
        have c22b1 : ((rd l0 x6_1) != 3) = true := bne_iff_ne.mpr c22
        by_cases c23 : (rd l0 x6_1) = 6
        rotate_left
        · rw [if_neg c23] at H
          have c23b0 : ((rd l0 x6_1) == 6) = false := beq_eq_false_iff_ne.mpr c23
          have c23b1 : ((rd l0 x6_1) != 6) = true := bne_iff_ne.mpr c23
          have H' := Aside0.mk H
          clear H
          have p268 : 0 ≤ (x6_1 : Int) := of_decide_eq_true (by first | (with_reducible assumption) | assumption)
          have q268 : x6_1 < (l0.length : Int) := of_decide_eq_true (by first | (with_reducible assumption) | assumption)
          obtain ⟨ad268, e268, hx268_0⟩ := Kd.at_int HR0.out x6_1 p268 q268
          cases e268
          replace hx268_0 := (HB.out.cell (World.block_lt_of_cell? w _ hx268_0)).trans hx268_0
          replace p268 := eq_true p268
          replace q268 := eq_true q268
          have p269 : 0 ≤ (x6_1 : Int) := of_decide_eq_true (by first | (with_reducible assumption) | assumption)
          have q269 : x6_1 < (t264.length : Int) := of_decide_eq_true (by first | (with_reducible assumption) | assumption)
          obtain ⟨ad269, e269, hx269_0⟩ := Kd.at_int (Kd.R_reads' HO_5.out).2.2 x6_1 p269 q269
          obtain rfl : ad267 = ad269 := (by injection e269)
          replace p269 := eq_true p269
          replace q269 := eq_true q269
          have p270 : 0 ≤ (x6_1 : Int) := of_decide_eq_true (by first | (with_reducible assumption) | assumption)
          have q270 : x6_1 < (l0.length : Int) := of_decide_eq_true (by first | (with_reducible assumption) | assumption)
          obtain ⟨ad270, e270, hx270_0⟩ := Kd.at_int HR0.out x6_1 p270 q270
          obtain rfl : ad268 = ad270 := (by injection e270)
          replace hx270_0 := (HB.out.cell (World.block_lt_of_cell? w _ hx270_0)).trans hx270_0
          replace p270 := eq_true p270
          replace q270 := eq_true q270
          have p271 : 0 ≤ (x6_1 : Int) := of_decide_eq_true (by first | (with_reducible assumption) | assumption)
          have q271 : x6_1 < (t264.length : Int) := of_decide_eq_true (by first | (with_reducible assumption) | assumption)
          obtain ⟨ad271, e271, hx271_0⟩ := Kd.at_int (Kd.R_reads' HO_5.out).2.2 x6_1 p271 q271
          obtain rfl : ad267 = ad271 := (by injection e271)
          replace p271 := eq_true p271
          replace q271 := eq_true q271
          have p272 : 0 ≤ (x6_1 : Int) := of_decide_eq_true (by first | (with_reducible assumption) | assumption)
          have q272 : x6_1 < (l0.length : Int) := of_decide_eq_true (by first | (with_reducible assumption) | assumption)
          obtain ⟨ad272, e272, hx272_0⟩ := Kd.at_int HR0.out x6_1 p272 q272
          obtain rfl : ad268 = ad272 := (by injection e272)
          replace hx272_0 := (HB.out.cell (World.block_lt_of_cell? w _ hx272_0)).trans hx272_0
          replace p272 := eq_true p272
          replace q272 := eq_true q272
          have p274 : 0 ≤ (x6_1 : Int) := of_decide_eq_true (by first | (with_reducible assumption) | assumption)
          have q274 : x6_1 < (l0.length : Int) := of_decide_eq_true (by first | (with_reducible assumption) | assumption)
          obtain ⟨ad274, e274, hx274_0⟩ := Kd.at_int HR0.out x6_1 p274 q274
          obtain rfl : ad268 = ad274 := (by injection e274)
          replace hx274_0 := (HB.out.cell (World.block_lt_of_cell? w _ hx274_0)).trans hx274_0
          replace p274 := eq_true p274
          replace q274 := eq_true q274
          go_wp2
          repeat (go_quiet (fail); try go_wp2)
          go_meet
          case rel => exact ⟨_, (false), (by first | rfl | (simp; done) | (simp [*]; done)), H', ⟨by have := HK1.out; first | omega | exact Nat.le_refl _⟩, ⟨by (with_reducible repeat (first | apply Kd.R_alloc | apply Kd.R_drewN | apply Kd.R_drew)); exact HO_5.out⟩, ⟨by repeat (first | (with_reducible first | exact HB.out | apply below_alloc | apply pw_below_drewN | apply below_drew1) | exact HB.out)⟩⟩
        rw [if_pos c23] at H
        have c23b0 : ((rd l0 x6_1) == 6) = true := beq_iff_eq.mpr c23
        have c23b1 : ((rd l0 x6_1) != 6) = false := bne_eq_false_iff_eq.mpr c23
        clear c23
        have H' := Aside0.mk H
        clear H
        have p268 : 0 ≤ (x6_1 : Int) := of_decide_eq_true (by first | (with_reducible assumption) | assumption)
        have q268 : x6_1 < (l0.length : Int) := of_decide_eq_true (by first | (with_reducible assumption) | assumption)
        obtain ⟨ad268, e268, hx268_0⟩ := Kd.at_int HR0.out x6_1 p268 q268
        cases e268
        replace hx268_0 := (HB.out.cell (World.block_lt_of_cell? w _ hx268_0)).trans hx268_0
        replace p268 := eq_true p268
        replace q268 := eq_true q268
        have p269 : 0 ≤ (x6_1 : Int) := of_decide_eq_true (by first | (with_reducible assumption) | assumption)
        have q269 : x6_1 < (t264.length : Int) := of_decide_eq_true (by first | (with_reducible assumption) | assumption)
        obtain ⟨ad269, e269, hx269_0⟩ := Kd.at_int (Kd.R_reads' HO_5.out).2.2 x6_1 p269 q269
        obtain rfl : ad267 = ad269 := (by injection e269)
        replace p269 := eq_true p269
        replace q269 := eq_true q269
        have p270 : 0 ≤ (x6_1 : Int) := of_decide_eq_true (by first | (with_reducible assumption) | assumption)
        have q270 : x6_1 < (l0.length : Int) := of_decide_eq_true (by first | (with_reducible assumption) | assumption)
        obtain ⟨ad270, e270, hx270_0⟩ := Kd.at_int HR0.out x6_1 p270 q270
        obtain rfl : ad268 = ad270 := (by injection e270)
        replace hx270_0 := (HB.out.cell (World.block_lt_of_cell? w _ hx270_0)).trans hx270_0
        replace p270 := eq_true p270
        replace q270 := eq_true q270
        have p271 : 0 ≤ (x6_1 : Int) := of_decide_eq_true (by first | (with_reducible assumption) | assumption)
        have q271 : x6_1 < (t264.length : Int) := of_decide_eq_true (by first | (with_reducible assumption) | assumption)
        obtain ⟨ad271, e271, hx271_0⟩ := Kd.at_int (Kd.R_reads' HO_5.out).2.2 x6_1 p271 q271
        obtain rfl : ad267 = ad271 := (by injection e271)
        replace p271 := eq_true p271
        replace q271 := eq_true q271
        have p272 : 0 ≤ (x6_1 : Int) := of_decide_eq_true (by first | (with_reducible assumption) | assumption)
        have q272 : x6_1 < (l0.length : Int) := of_decide_eq_true (by first | (with_reducible assumption) | assumption)
        obtain ⟨ad272, e272, hx272_0⟩ := Kd.at_int HR0.out x6_1 p272 q272
        obtain rfl : ad268 = ad272 := (by injection e272)
        replace hx272_0 := (HB.out.cell (World.block_lt_of_cell? w _ hx272_0)).trans hx272_0
        replace p272 := eq_true p272
        replace q272 := eq_true q272
        have p274 : 0 ≤ (x6_1 : Int) := of_decide_eq_true (by first | (with_reducible assumption) | assumption)
        have q274 : x6_1 < (l0.length : Int) := of_decide_eq_true (by first | (with_reducible assumption) | assumption)
        obtain ⟨ad274, e274, hx274_0⟩ := Kd.at_int HR0.out x6_1 p274 q274
        obtain rfl : ad268 = ad274 := (by injection e274)
        replace hx274_0 := (HB.out.cell (World.block_lt_of_cell? w _ hx274_0)).trans hx274_0
        replace p274 := eq_true p274
        replace q274 := eq_true q274
        have p275 : 0 ≤ (x6_1 : Int) := of_decide_eq_true (by first | (with_reducible assumption) | assumption)
        have q275 : x6_1 < (t264.length : Int) := of_decide_eq_true (by first | (with_reducible assumption) | assumption)
        obtain ⟨ad275, e275, hx275_0⟩ := Kd.at_int (Kd.R_reads' HO_5.out).2.2 x6_1 p275 q275
        obtain rfl : ad267 = ad275 := (by injection e275)
        replace p275 := eq_true p275
        replace q275 := eq_true q275
        go_wp2
        repeat (go_quiet (fail); try go_wp2)
        go_meet
        case rel => exact ⟨_, (((wrap64 ((rd t264 x6_1) - (wrap64 (a1)))) == 0)), (by first | rfl | (simp; done) | (simp [*]; done)), H', ⟨by have := HK1.out; first | omega | exact Nat.le_refl _⟩, ⟨by (with_reducible repeat (first | apply Kd.R_alloc | apply Kd.R_drewN | apply Kd.R_drew)); exact HO_5.out⟩, ⟨by repeat (first | (with_reducible first | exact HB.out | apply below_alloc | apply pw_below_drewN | apply below_drew1) | exact HB.out)⟩⟩
      case rest =>
        clear HC15
        try clear c1
        try clear c2
        try clear p2
        try clear q2
        try clear hx2
        try clear c3
        try clear p6
        try clear c18
        try clear c18b0
        try clear c18b1
        try clear c19
        try clear c20
        try clear c20b0
        try clear c20b1
        try clear c21
        try clear c22
        try clear c22b0
        try clear c22b1
        try clear c23
        try clear c23b0
        try clear c23b1
        try clear c24
        try clear c24b0
        try clear c24b1
        try clear c25
        try clear c25b0
        try clear c25b1
        try clear c26
        try clear c26b0
        try clear c26b1
        try clear p26
        try clear q26
        try clear hx26
        try clear c27
        try clear c27b0
        try clear c27b1
        try clear p27
        try clear q27
        try clear hx27
        try clear c28
        try clear c28b0
        try clear c28b1
        try clear p28
        try clear q28
        try clear hx28
        try clear c29
        try clear c29b0
        try clear c29b1
        try clear c30
        try clear c30b0
        try clear c30b1
        try clear c31
        try clear c31b0
        try clear c31b1
        try clear c32
        try clear c32b0
        try clear c32b1
        try clear c33
        try clear c33b0
        try clear c33b1
        try clear c34
        try clear c34b0
        try clear c34b1
        try clear c35
        try clear c35b0
        try clear c35b1
        try clear hx268_0
        try clear hx269_0
        try clear hx270_0
        try clear hx271_0
        try clear hx272_0
        try clear hx273_0
        try clear hx274_0
        try clear hx275_0
        try clear hx276_0
        try clear hx277_0
        try clear hx278_0
        try clear hx279_0
        try clear hx280_0
        try clear hx281_0
        try clear hx282_0
        try clear hx283_0
        try clear hx284_0
        try clear hx285_0
        try clear hx286_0
        try clear hx287_0
        try clear hx288_0
        try clear hx289_0
        try clear p268
        try clear p269
        try clear p270
        try clear p271
        try clear p272
        try clear p273
        try clear p274
        try clear p275
        try clear p276
        try clear p277
        try clear p278
        try clear p279
        try clear p280
        try clear p281
        try clear p282
        try clear p283
        try clear p284
        try clear p285
        try clear p286
        try clear p287
        try clear p288
        try clear p289
        try clear q268
        try clear q269
        try clear q270
        try clear q271
        try clear q272
        try clear q273
        try clear q274
        try clear q275
        try clear q276
        try clear q277
        try clear q278
        try clear q279
        try clear q280
        try clear q281
        try clear q282
        try clear q283
        try clear q284
        try clear q285
        try clear q286
        try clear q287
        try clear q288
        try clear q289
        obtain ⟨kq, x96_14, rfl, HA, HJ14, HO_5, HB⟩ := hcut
        cases kq with
        | zero => exact absurd HA.out (by simp [ductuslaw11_NeutralLevels.j1])
        | succ kj14 =>
          have H := HA.out
          clear HA
          simp only [ductuslaw11_NeutralLevels.j1] at H
          by_cases c36 : x96_14 = true
          · subst c36
            have H1 : (none) = some r := by rw [if_pos rfl] at H; exact H
            clear H
            have H := H1
            clear H1
            exact absurd H (by simp)
          replace c36 := Bool.eq_false_iff.mpr c36
          subst c36
          have H1 : (if 0 ≤ x6_1 then (if x6_1 < (l0.length : Int) then (if (rd l0 x6_1) = 0 then ((ductusref08_Dir.f (wrap64 (a1))).bind fun t291 => (if (((wrap64 ((rd t264 x6_1) - (wrap64 (a1)))) == 0) != (t291 == (rd l0 x6_1))) = true then (none) else (ductuslaw11_NeutralLevels.l0 kj14 l0 a1 t264 (wrap64 (x6_1 + 1))))) else (if (rd l0 x6_1) = 1 then ((ductusref08_Dir.f (wrap64 (a1))).bind fun t294 => (if (((wrap64 ((rd t264 x6_1) - (wrap64 (a1)))) == 0) != (t294 == (rd l0 x6_1))) = true then (none) else (ductuslaw11_NeutralLevels.l0 kj14 l0 a1 t264 (wrap64 (x6_1 + 1))))) else (ductuslaw11_NeutralLevels.l0 kj14 l0 a1 t264 (wrap64 (x6_1 + 1))))) else (none)) else (none)) = some r := by rw [if_neg (show ¬ (false = true) by decide)] at H; exact H
          clear H
          have H := H1
          clear H1
          by_cases c37 : 0 ≤ x6_1
          rotate_left
          · rw [if_neg c37] at H
            exact absurd H (by simp)
          rw [if_pos c37] at H
          have c37b0 : decide (0 ≤ x6_1) = true := decide_eq_true c37
          clear c37
          by_cases c38 : x6_1 < (l0.length : Int)
          rotate_left
          · rw [if_neg c38] at H
            exact absurd H (by simp)
          rw [if_pos c38] at H
          have c38b0 : decide (x6_1 < (l0.length : Int)) = true := decide_eq_true c38
          clear c38
          by_cases c39 : (rd l0 x6_1) = 0
          · rw [if_pos c39] at H
            have c39b0 : ((rd l0 x6_1) == 0) = true := beq_iff_eq.mpr c39
            have c39b1 : ((rd l0 x6_1) != 0) = false := bne_eq_false_iff_eq.mpr c39
            clear c39
            replace H := Option.bind_eq_some_iff.mp H
            obtain ⟨t291, A400, H⟩ := H
            replace H : (if (((wrap64 ((rd t264 x6_1) - (wrap64 (a1)))) == 0) != (t291 == (rd l0 x6_1))) = true then (none) else (ductuslaw11_NeutralLevels.l0 kj14 l0 a1 t264 (wrap64 (x6_1 + 1)))) = some r := H
            have A40 := Aside0.mk A400
            clear A400
            by_cases c41 : (((wrap64 ((rd t264 x6_1) - (wrap64 (a1)))) == 0) != (t291 == (rd l0 x6_1))) = true
            · rw [if_pos c41] at H
              exact absurd H (by simp)
            rw [if_neg c41] at H
            have c41b0 : (((wrap64 ((rd t264 x6_1) - (wrap64 (a1)))) == 0) != (t291 == (rd l0 x6_1))) = false := by simpa using c41
            (try (have c41b1 : decide (((wrap64 ((rd t264 x6_1) - (wrap64 (a1)))) == 0) = (t291 == (rd l0 x6_1))) = true := by simpa using c41))
            (try (have c41b2 : (((wrap64 ((rd t264 x6_1) - (wrap64 (a1)))) == 0) == (t291 == (rd l0 x6_1))) = true := by simpa using c41))
            clear c41
            have H' := Aside0.mk H
            clear H
            have p290 : 0 ≤ (x6_1 : Int) := of_decide_eq_true (by first | (with_reducible assumption) | assumption)
            have q290 : x6_1 < (l0.length : Int) := of_decide_eq_true (by first | (with_reducible assumption) | assumption)
            obtain ⟨ad290, e290, hx290_0⟩ := Kd.at_int HR0.out x6_1 p290 q290
            cases e290
            replace hx290_0 := (HB.out.cell (World.block_lt_of_cell? w _ hx290_0)).trans hx290_0
            replace p290 := eq_true p290
            replace q290 := eq_true q290
            go_wp2_with (first | (go_at_call 19; (try simp only [IntWalk.i64_left]); (with_reducible refine (ductusref08_Dir.calls (wrap64 (a1)) t291 _ A40.out).mono ?_); rintro e w' ⟨rfl, ⟨nd, rfl⟩⟩; (try first | exact ⟨rfl, _, World.drewN_drewN _ _ _⟩ | exact ⟨rfl, _, Eq.trans (World.drewN_drewN _ _ _) (congrArg (World.drewN _) (Nat.add_assoc _ _ _))⟩); have p292 : 0 ≤ (x6_1 : Int) := of_decide_eq_true (by first | (with_reducible assumption) | assumption); have q292 : x6_1 < (l0.length : Int) := of_decide_eq_true (by first | (with_reducible assumption) | assumption); obtain ⟨ad292, e292, hx292_0⟩ := Kd.at_int HR0.out x6_1 p292 q292; obtain rfl : ad290 = ad292 := (by injection e292); replace hx292_0 := (HB.out.cell (World.block_lt_of_cell? w _ hx292_0)).trans hx292_0; replace p292 := eq_true p292; replace q292 := eq_true q292))
            repeat (go_quiet (first | (go_at_call 19; (try simp only [IntWalk.i64_left]); (with_reducible refine (ductusref08_Dir.calls (wrap64 (a1)) t291 _ A40.out).mono ?_); rintro e w' ⟨rfl, ⟨nd, rfl⟩⟩; (try first | exact ⟨rfl, _, World.drewN_drewN _ _ _⟩ | exact ⟨rfl, _, Eq.trans (World.drewN_drewN _ _ _) (congrArg (World.drewN _) (Nat.add_assoc _ _ _))⟩); have p292 : 0 ≤ (x6_1 : Int) := of_decide_eq_true (by first | (with_reducible assumption) | assumption); have q292 : x6_1 < (l0.length : Int) := of_decide_eq_true (by first | (with_reducible assumption) | assumption); obtain ⟨ad292, e292, hx292_0⟩ := Kd.at_int HR0.out x6_1 p292 q292; obtain rfl : ad290 = ad292 := (by injection e292); replace hx292_0 := (HB.out.cell (World.block_lt_of_cell? w _ hx292_0)).trans hx292_0; replace p292 := eq_true p292; replace q292 := eq_true q292)); try go_wp2_with (first | (go_at_call 19; (try simp only [IntWalk.i64_left]); (with_reducible refine (ductusref08_Dir.calls (wrap64 (a1)) t291 _ A40.out).mono ?_); rintro e w' ⟨rfl, ⟨nd, rfl⟩⟩; (try first | exact ⟨rfl, _, World.drewN_drewN _ _ _⟩ | exact ⟨rfl, _, Eq.trans (World.drewN_drewN _ _ _) (congrArg (World.drewN _) (Nat.add_assoc _ _ _))⟩); have p292 : 0 ≤ (x6_1 : Int) := of_decide_eq_true (by first | (with_reducible assumption) | assumption); have q292 : x6_1 < (l0.length : Int) := of_decide_eq_true (by first | (with_reducible assumption) | assumption); obtain ⟨ad292, e292, hx292_0⟩ := Kd.at_int HR0.out x6_1 p292 q292; obtain rfl : ad290 = ad292 := (by injection e292); replace hx292_0 := (HB.out.cell (World.block_lt_of_cell? w _ hx292_0)).trans hx292_0; replace p292 := eq_true p292; replace q292 := eq_true q292)))
            go_roundg kj14
            case measure => have := HK1.out; have := HJ14.out; omega
            case rel => exact ⟨(wrap64 (x6_1 + 1)), (by first | rfl | (simp; done) | (simp [*]; done)), H', ⟨by have := HK1.out; have := HJ14.out; omega⟩, ⟨by (with_reducible repeat (first | apply Kd.R_alloc | apply Kd.R_drewN | apply Kd.R_drew)); exact HO_5.out⟩, ⟨by repeat (first | (with_reducible first | exact HB.out | apply below_alloc | apply pw_below_drewN | apply below_drew1) | exact HB.out)⟩⟩
          rw [if_neg c39] at H
          have c39b0 : ((rd l0 x6_1) == 0) = false := beq_eq_false_iff_ne.mpr c39
          have c39b1 : ((rd l0 x6_1) != 0) = true := bne_iff_ne.mpr c39
          by_cases c42 : (rd l0 x6_1) = 1
          rotate_left
          · rw [if_neg c42] at H
            have c42b0 : ((rd l0 x6_1) == 1) = false := beq_eq_false_iff_ne.mpr c42
            have c42b1 : ((rd l0 x6_1) != 1) = true := bne_iff_ne.mpr c42
            have H' := Aside0.mk H
            clear H
            have p290 : 0 ≤ (x6_1 : Int) := of_decide_eq_true (by first | (with_reducible assumption) | assumption)
            have q290 : x6_1 < (l0.length : Int) := of_decide_eq_true (by first | (with_reducible assumption) | assumption)
            obtain ⟨ad290, e290, hx290_0⟩ := Kd.at_int HR0.out x6_1 p290 q290
            cases e290
            replace hx290_0 := (HB.out.cell (World.block_lt_of_cell? w _ hx290_0)).trans hx290_0
            replace p290 := eq_true p290
            replace q290 := eq_true q290
            have p293 : 0 ≤ (x6_1 : Int) := of_decide_eq_true (by first | (with_reducible assumption) | assumption)
            have q293 : x6_1 < (l0.length : Int) := of_decide_eq_true (by first | (with_reducible assumption) | assumption)
            obtain ⟨ad293, e293, hx293_0⟩ := Kd.at_int HR0.out x6_1 p293 q293
            obtain rfl : ad290 = ad293 := (by injection e293)
            replace hx293_0 := (HB.out.cell (World.block_lt_of_cell? w _ hx293_0)).trans hx293_0
            replace p293 := eq_true p293
            replace q293 := eq_true q293
            go_wp2
            repeat (go_quiet (fail); try go_wp2)
            go_roundg kj14
            case measure => have := HK1.out; have := HJ14.out; omega
            case rel => exact ⟨(wrap64 (x6_1 + 1)), (by first | rfl | (simp; done) | (simp [*]; done)), H', ⟨by have := HK1.out; have := HJ14.out; omega⟩, ⟨by (with_reducible repeat (first | apply Kd.R_alloc | apply Kd.R_drewN | apply Kd.R_drew)); exact HO_5.out⟩, ⟨by repeat (first | (with_reducible first | exact HB.out | apply below_alloc | apply pw_below_drewN | apply below_drew1) | exact HB.out)⟩⟩
          rw [if_pos c42] at H
          have c42b0 : ((rd l0 x6_1) == 1) = true := beq_iff_eq.mpr c42
          have c42b1 : ((rd l0 x6_1) != 1) = false := bne_eq_false_iff_eq.mpr c42
          clear c42
          replace H := Option.bind_eq_some_iff.mp H
          obtain ⟨t294, A430, H⟩ := H
          replace H : (if (((wrap64 ((rd t264 x6_1) - (wrap64 (a1)))) == 0) != (t294 == (rd l0 x6_1))) = true then (none) else (ductuslaw11_NeutralLevels.l0 kj14 l0 a1 t264 (wrap64 (x6_1 + 1)))) = some r := H
          have A43 := Aside0.mk A430
          clear A430
          by_cases c44 : (((wrap64 ((rd t264 x6_1) - (wrap64 (a1)))) == 0) != (t294 == (rd l0 x6_1))) = true
          · rw [if_pos c44] at H
            exact absurd H (by simp)
          rw [if_neg c44] at H
          have c44b0 : (((wrap64 ((rd t264 x6_1) - (wrap64 (a1)))) == 0) != (t294 == (rd l0 x6_1))) = false := by simpa using c44
          (try (have c44b1 : decide (((wrap64 ((rd t264 x6_1) - (wrap64 (a1)))) == 0) = (t294 == (rd l0 x6_1))) = true := by simpa using c44))
          (try (have c44b2 : (((wrap64 ((rd t264 x6_1) - (wrap64 (a1)))) == 0) == (t294 == (rd l0 x6_1))) = true := by simpa using c44))
          clear c44
          have H' := Aside0.mk H
          clear H
          have p290 : 0 ≤ (x6_1 : Int) := of_decide_eq_true (by first | (with_reducible assumption) | assumption)
          have q290 : x6_1 < (l0.length : Int) := of_decide_eq_true (by first | (with_reducible assumption) | assumption)
          obtain ⟨ad290, e290, hx290_0⟩ := Kd.at_int HR0.out x6_1 p290 q290
          cases e290
          replace hx290_0 := (HB.out.cell (World.block_lt_of_cell? w _ hx290_0)).trans hx290_0
          replace p290 := eq_true p290
          replace q290 := eq_true q290
          have p293 : 0 ≤ (x6_1 : Int) := of_decide_eq_true (by first | (with_reducible assumption) | assumption)
          have q293 : x6_1 < (l0.length : Int) := of_decide_eq_true (by first | (with_reducible assumption) | assumption)
          obtain ⟨ad293, e293, hx293_0⟩ := Kd.at_int HR0.out x6_1 p293 q293
          obtain rfl : ad290 = ad293 := (by injection e293)
          replace hx293_0 := (HB.out.cell (World.block_lt_of_cell? w _ hx293_0)).trans hx293_0
          replace p293 := eq_true p293
          replace q293 := eq_true q293
          go_wp2_with (first | (go_at_call 19; (try simp only [IntWalk.i64_left]); (with_reducible refine (ductusref08_Dir.calls (wrap64 (a1)) t294 _ A43.out).mono ?_); rintro e w' ⟨rfl, ⟨nd, rfl⟩⟩; (try first | exact ⟨rfl, _, World.drewN_drewN _ _ _⟩ | exact ⟨rfl, _, Eq.trans (World.drewN_drewN _ _ _) (congrArg (World.drewN _) (Nat.add_assoc _ _ _))⟩); have p295 : 0 ≤ (x6_1 : Int) := of_decide_eq_true (by first | (with_reducible assumption) | assumption); have q295 : x6_1 < (l0.length : Int) := of_decide_eq_true (by first | (with_reducible assumption) | assumption); obtain ⟨ad295, e295, hx295_0⟩ := Kd.at_int HR0.out x6_1 p295 q295; obtain rfl : ad290 = ad295 := (by injection e295); replace hx295_0 := (HB.out.cell (World.block_lt_of_cell? w _ hx295_0)).trans hx295_0; replace p295 := eq_true p295; replace q295 := eq_true q295))
          repeat (go_quiet (first | (go_at_call 19; (try simp only [IntWalk.i64_left]); (with_reducible refine (ductusref08_Dir.calls (wrap64 (a1)) t294 _ A43.out).mono ?_); rintro e w' ⟨rfl, ⟨nd, rfl⟩⟩; (try first | exact ⟨rfl, _, World.drewN_drewN _ _ _⟩ | exact ⟨rfl, _, Eq.trans (World.drewN_drewN _ _ _) (congrArg (World.drewN _) (Nat.add_assoc _ _ _))⟩); have p295 : 0 ≤ (x6_1 : Int) := of_decide_eq_true (by first | (with_reducible assumption) | assumption); have q295 : x6_1 < (l0.length : Int) := of_decide_eq_true (by first | (with_reducible assumption) | assumption); obtain ⟨ad295, e295, hx295_0⟩ := Kd.at_int HR0.out x6_1 p295 q295; obtain rfl : ad290 = ad295 := (by injection e295); replace hx295_0 := (HB.out.cell (World.block_lt_of_cell? w _ hx295_0)).trans hx295_0; replace p295 := eq_true p295; replace q295 := eq_true q295)); try go_wp2_with (first | (go_at_call 19; (try simp only [IntWalk.i64_left]); (with_reducible refine (ductusref08_Dir.calls (wrap64 (a1)) t294 _ A43.out).mono ?_); rintro e w' ⟨rfl, ⟨nd, rfl⟩⟩; (try first | exact ⟨rfl, _, World.drewN_drewN _ _ _⟩ | exact ⟨rfl, _, Eq.trans (World.drewN_drewN _ _ _) (congrArg (World.drewN _) (Nat.add_assoc _ _ _))⟩); have p295 : 0 ≤ (x6_1 : Int) := of_decide_eq_true (by first | (with_reducible assumption) | assumption); have q295 : x6_1 < (l0.length : Int) := of_decide_eq_true (by first | (with_reducible assumption) | assumption); obtain ⟨ad295, e295, hx295_0⟩ := Kd.at_int HR0.out x6_1 p295 q295; obtain rfl : ad290 = ad295 := (by injection e295); replace hx295_0 := (HB.out.cell (World.block_lt_of_cell? w _ hx295_0)).trans hx295_0; replace p295 := eq_true p295; replace q295 := eq_true q295)))
          go_roundg kj14
          case measure => have := HK1.out; have := HJ14.out; omega
          case rel => exact ⟨(wrap64 (x6_1 + 1)), (by first | rfl | (simp; done) | (simp [*]; done)), H', ⟨by have := HK1.out; have := HJ14.out; omega⟩, ⟨by (with_reducible repeat (first | apply Kd.R_alloc | apply Kd.R_drewN | apply Kd.R_drew)); exact HO_5.out⟩, ⟨by repeat (first | (with_reducible first | exact HB.out | apply below_alloc | apply pw_below_drewN | apply below_drew1) | exact HB.out)⟩⟩

/-- THE ONE PURE STATEMENT of ductuslaw11_NeutralLevels: yours. -/
def ductuslaw11_NeutralLevels.Pure : Prop := ∀ (l0 : List Int) (a1 : Int), l0.length ≤ maxLen → l0.length * 8 ≤ 140737488351232 → (∀ x ∈ l0, (Lit.int .i64 x).wf = true) → (Lit.int .u8 a1).wf = true → ∃ k, ductuslaw11_NeutralLevels.f k l0 a1 = some true
theorem ductuslaw11_NeutralLevels.walk (P : ductuslaw11_NeutralLevels.Pure) (a0 : Option Addr) (len0 cap0 : Nat) (z0 : List Int) (a1 : Int) (w : World) (w0 : (a0 = none ∧ len0 = 0 ∧ cap0 = 0 ∧ z0 = []) ∨ ∃ x, a0 = some x ∧ len0 ≤ cap0 ∧ cap0 ≤ maxLen ∧ z0.length = cap0 ∧ (∀ i, i < z0.length → w.cell? (x.add i) = some (.int .i64 (z0.getD i 0))) ∧ ∀ n ∈ z0, (Lit.int .i64 n).wf = true) (y0 : len0 * 8 ≤ 140737488351232) (w1 : (Lit.int .u8 a1).wf = true) :
    Calls Try.prog 5 #[.slice a0 len0 cap0, .int .u8 a1] w fun e w' => e = .returned (.bool true) ∧ Below w.heap.size w w' := by
  obtain ⟨l0, rfl, hr0, hm0, hw0, hc0⟩ := ReadsInt.ofRowC w0
  obtain ⟨k, h⟩ := P l0 a1 hm0 y0 hw0 w1
  refine (ductuslaw11_NeutralLevels.calls k _ _ l0 a1 true w (Kd.C_of_reads (d := (0 : Int)) (h1 := fun _ => rfl) hr0) hc0 h).mono ?_
  rintro e w' ⟨rfl, hd⟩
  exact ⟨rfl, hd⟩

end Go.Proofs.Ytcmndocfadhonaa.P
