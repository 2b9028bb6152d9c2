/- Printed by a program of this claim's own over the translation: Lean functions of the Go functions, each with its proof; no condition beyond those written. -/
import Derived.Test.YtcmcajjdcbkfkaaPx0
import Derived.Test.YtcmcajjdcbkfkaaPx2
import Derived.Test.YtcmcajjdcbkfkaaPx3
import Derived.Test.YtcmcajjdcbkfkaaPx4
import Derived.Test.YtcmcajjdcbkfkaaPx5
import Derived.Test.YtcmcajjdcbkfkaaPx6
import Derived.Test.YtcmcajjdcbkfkaaPx7
import Derived.Test.YtcmcajjdcbkfkaaSRight
namespace Go.Proofs.Ytcmcajjdcbkfkaa.P
open Go.RowKit Go.Proofs.YtcmcajjdcbkfkaaW.PrintWords Go.Proofs.YtcmcajjdcbkfkaaW.PrintLast Go.Proofs.YtcmcajjdcbkfkaaW.PrintMore
attribute [local go_sem] max2_int min2_int max_two min_two max_three min_three max_four min_four   -- for this text's walks alone
set_option linter.unusedVariables false
set_option linter.unusedSimpArgs false

/-! ### ductuslaw14_OrderAnswers: function 3 -/
def ductuslaw14_OrderAnswers.j0 : Nat → List Int → List Int → List Bool → Bool → Option (Bool)
  | 0, _, _, _, _ => none
  | k + 1, x0, x1, x2, x26 => if x26 = true then (some true) else ((some (([] : List Int) : List Int)).bind fun y286 => (if y286.length + x0.length < 17592186044416 then ((some (y286 ++ x0 : List Int)).bind fun y289 => ((order_Back.f k x1).bind fun bt292 => ((ductusref14_Back.f k x1).bind fun bt296 => ((order_Of.f k y289).bind fun t300 => ((ductusref14_Of.f k x0).bind fun t303 => ((ductusref01_Ints.f k t300 t303).bind fun t306 => (if t306 = true then ((ductusref01_Ints.f k bt292.1 bt296.1).bind fun t307 => (if t307 = true then (if bt292.2 = bt296.2 then ((order_Right.f x1).bind fun t308 => ((ductusref14_Right.f k x1).bind fun t309 => (if (t308 == t309) = true then ((order_Seen.f k x1 y289).bind fun t310 => ((ductusref14_Seen.f k x1 x0).bind fun t313 => ((ductusref01_Ints.f k t310 t313).bind fun t316 => (if t316 = true then ((order_Only.f k x1 x2).bind fun t317 => ((ductusref14_Only.f k x1 x2).bind fun t320 => ((ductusref01_Ints.f k t317 t320).bind fun t323 => (if t323 = true then ((ductusref01_Ints.f k y289 x0).bind fun t324 => (some t324)) else (none))))) else (none))))) else (none)))) else (none)) else (none))) else (none)))))))) else (none)))
def ductuslaw14_OrderAnswers.f (k : Nat) (l0 : List Int) (l1 : List Int) (l2 : List Bool) : Option (Bool) := (ductuslaw14_alive.f k).bind fun t285 => (if t285 = true then (if (l0.length : Int) > 200 then (ductuslaw14_OrderAnswers.j0 k l0 l1 l2 true) else (if (l1.length : Int) > 200 then (ductuslaw14_OrderAnswers.j0 k l0 l1 l2 true) else (ductuslaw14_OrderAnswers.j0 k l0 l1 l2 (decide ((l2.length : Int) > 200))))) else (none))
theorem ductuslaw14_OrderAnswers.mono_l : ∀ k, (∀ y0 y1 y2 y3, LeO (ductuslaw14_OrderAnswers.j0 k y0 y1 y2 y3) (ductuslaw14_OrderAnswers.j0 (k + 1) y0 y1 y2 y3))
  | 0 => fun _ _ _ _ r h => by simp [ductuslaw14_OrderAnswers.j0] at h
  | k + 1 => by
    have ih0 := ductuslaw14_OrderAnswers.mono_l k
    · intro y0 y1 y2 y3
      unfold ductuslaw14_OrderAnswers.j0
      repeat' first
      | (with_reducible exact ih0 _ _ _ _)
      | (with_reducible exact ductuslaw14_alive.mono _)
      | (with_reducible exact ductusref01_Ints.mono _ _ _)
      | (with_reducible exact ductusref14_Back.mono _ _)
      | (with_reducible exact ductusref14_Of.mono _ _)
      | (with_reducible exact ductusref14_Only.mono _ _ _)
      | (with_reducible exact ductusref14_Right.mono _ _)
      | (with_reducible exact ductusref14_Seen.mono _ _ _)
      | (with_reducible exact order_Back.mono _ _)
      | (with_reducible exact order_Of.mono _ _)
      | (with_reducible exact order_Only.mono _ _ _)
      | (with_reducible exact order_Seen.mono _ _ _)
      | (with_reducible exact LeO.refl _)
      | (with_reducible exact LeO.none _)
      | (with_reducible refine LeO.ite ?_ ?_)
      | (with_reducible refine LeO.bind ?_ (fun _ => ?_))
      | exact ih0 _ _ _ _
      | exact ductuslaw14_alive.mono _
      | exact ductusref01_Ints.mono _ _ _
      | exact ductusref14_Back.mono _ _
      | exact ductusref14_Of.mono _ _
      | exact ductusref14_Only.mono _ _ _
      | exact ductusref14_Right.mono _ _
      | exact ductusref14_Seen.mono _ _ _
      | exact order_Back.mono _ _
      | exact order_Of.mono _ _
      | exact order_Only.mono _ _ _
      | exact order_Seen.mono _ _ _
      | exact LeO.none _
      | refine LeO.ite ?_ ?_
      | refine LeO.bind ?_ (fun _ => ?_)
theorem ductuslaw14_OrderAnswers.mono : ∀ a0 a1 a2 k, LeO (ductuslaw14_OrderAnswers.f k a0 a1 a2) (ductuslaw14_OrderAnswers.f (k + 1) a0 a1 a2) := by
  intro a0 a1 a2 k
  have ih0 := ductuslaw14_OrderAnswers.mono_l k
  unfold ductuslaw14_OrderAnswers.f
  repeat' first
      | (with_reducible exact ih0 _ _ _ _)
      | (with_reducible exact ductuslaw14_alive.mono _)
      | (with_reducible exact ductusref01_Ints.mono _ _ _)
      | (with_reducible exact ductusref14_Back.mono _ _)
      | (with_reducible exact ductusref14_Of.mono _ _)
      | (with_reducible exact ductusref14_Only.mono _ _ _)
      | (with_reducible exact ductusref14_Right.mono _ _)
      | (with_reducible exact ductusref14_Seen.mono _ _ _)
      | (with_reducible exact order_Back.mono _ _)
      | (with_reducible exact order_Of.mono _ _)
      | (with_reducible exact order_Only.mono _ _ _)
      | (with_reducible exact order_Seen.mono _ _ _)
      | (with_reducible exact LeO.refl _)
      | (with_reducible exact LeO.none _)
      | (with_reducible refine LeO.ite ?_ ?_)
      | (with_reducible refine LeO.bind ?_ (fun _ => ?_))
      | exact ih0 _ _ _ _
      | exact ductuslaw14_alive.mono _
      | exact ductusref01_Ints.mono _ _ _
      | exact ductusref14_Back.mono _ _
      | exact ductusref14_Of.mono _ _
      | exact ductusref14_Only.mono _ _ _
      | exact ductusref14_Right.mono _ _
      | exact ductusref14_Seen.mono _ _ _
      | exact order_Back.mono _ _
      | exact order_Of.mono _ _
      | exact order_Only.mono _ _ _
      | exact order_Seen.mono _ _ _
      | exact LeO.none _
      | refine LeO.ite ?_ ?_
      | refine LeO.bind ?_ (fun _ => ?_)
set_option maxHeartbeats 8000000 in
set_option maxRecDepth 100000 in
theorem ductuslaw14_OrderAnswers.calls (k : Nat) (A0 : Option Addr) (c0 : Nat) (l0 : List Int) (A1 : Option Addr) (c1 : Nat) (l1 : List Int) (A2 : Option Addr) (c2 : Nat) (l2 : List Bool) (r : Bool) (w : World) (hr0 : Kd.C (Kd.int .i64) w A0 l0.length l0) (hc0 : l0.length ≤ c0) (hr1 : Kd.C (Kd.int .i64) w A1 l1.length l1) (hc1 : l1.length ≤ c1) (hr2 : Kd.C Kd.bool w A2 l2.length l2) (hc2 : l2.length ≤ c2) (h : ductuslaw14_OrderAnswers.f k l0 l1 l2 = some r) :
    Calls Try.prog 3 #[.slice A0 l0.length c0, .slice A1 l1.length c1, .slice A2 l2.length c2] w fun e w' => e = .returned (.bool r) ∧ Below w.heap.size w w' := by
  have HR0 := Aside0.mk hr0
  have HC0 := Aside0.mk hc0
  clear hr0 hc0
  have HR1 := Aside0.mk hr1
  have HC1 := Aside0.mk hc1
  clear hr1 hc1
  have HR2 := Aside0.mk hr2
  have HC2 := Aside0.mk hc2
  clear hr2 hc2
  have HB := Aside0.mk (Below.refl w.heap.size w)
  have H : ((ductuslaw14_alive.f k).bind fun t285 => (if t285 = true then (if (l0.length : Int) > 200 then (ductuslaw14_OrderAnswers.j0 k l0 l1 l2 true) else (if (l1.length : Int) > 200 then (ductuslaw14_OrderAnswers.j0 k l0 l1 l2 true) else (ductuslaw14_OrderAnswers.j0 k l0 l1 l2 (decide ((l2.length : Int) > 200))))) else (none))) = some r := h
  clear h
  replace H := Option.bind_eq_some_iff.mp H
  obtain ⟨t285, A40, H⟩ := H
  replace H : (if t285 = true then (if (l0.length : Int) > 200 then (ductuslaw14_OrderAnswers.j0 k l0 l1 l2 true) else (if (l1.length : Int) > 200 then (ductuslaw14_OrderAnswers.j0 k l0 l1 l2 true) else (ductuslaw14_OrderAnswers.j0 k l0 l1 l2 (decide ((l2.length : Int) > 200))))) else (none)) = some r := H
  have A4 := Aside0.mk A40
  clear A40
  by_cases c5 : t285 = true
  rotate_left
  · replace c5 := Bool.eq_false_iff.mpr c5
    subst c5
    have H1 : (none) = some r := by rw [if_neg (show ¬ (false = true) by decide)] at H; exact H
    clear H
    have H := H1
    clear H1
    exact absurd H (by simp)
  subst c5
  have H1 : (if (l0.length : Int) > 200 then (ductuslaw14_OrderAnswers.j0 k l0 l1 l2 true) else (if (l1.length : Int) > 200 then (ductuslaw14_OrderAnswers.j0 k l0 l1 l2 true) else (ductuslaw14_OrderAnswers.j0 k l0 l1 l2 (decide ((l2.length : Int) > 200))))) = some r := by rw [if_pos rfl] at H; exact H
  clear H
  have H := H1
  clear H1
  have HC6 := Aside0.mk H
  clear H
  go_enter Try.func3, Try.ntmps3
  go_upto_region 3 with (first | ((with_reducible refine gate_callee (f := 7) rfl ?_); refine goesL_ (some 12) rfl rfl Try.func7 (by kernel_rfl) rfl #[] rfl (by (try simp only [List.map_toArray, List.map_cons, List.map_nil]); first | done | rfl | (simp only [List.length_drop, List.length_take]; rfl)) ?_; (with_reducible refine (ductuslaw14_alive.calls k  true _ A4.out).mono ?_); rintro e w7 ⟨rfl, hb⟩; refine ⟨_, rfl, ?_⟩; have n0_ := Aside0.mk (below_step (by repeat (first | (with_reducible first | exact HB.out | apply below_alloc | apply pw_below_drewN | apply below_drew1) | exact HB.out)) hb); clear HB; have HB := n0_; clear n0_; (try clear hb); (try clear hb2); (try clear hk); (try clear hi)))
  (try simp only [Act.put, List.setIfInBounds_toArray, List.set_cons_zero, List.set_cons_succ])
  go_cut [26] (fun v26 wc => ∃ (kq : Nat) (x26_5 : Bool), v26 = .bool x26_5 ∧ Aside0 (ductuslaw14_OrderAnswers.j0 kq l0 l1 l2 x26_5 = some r) ∧ Aside0 (kq ≤ k) ∧ Aside0 (Below w.heap.size w wc))
  case first =>
    have H := HC6.out
    clear HC6
    by_cases c8 : (l0.length : Int) > 200
    · rw [if_pos c8] at H
      have c8b0 : decide (200 < (l0.length : Int)) = true := decide_eq_true c8
      have c8b1 : decide (200 < l0.length) = true := decide_eq_true (by omega)
      clear c8
      (first | rw [c8b0] | (simp only [i64_w, i32_w]; rw [c8b0]) | skip)
      have H' := Aside0.mk H
      clear H
      go_wp2
      go_meet
      case rel => exact ⟨_, (true), (by first | rfl | (simp; done) | (simp [*]; done)), H', ⟨by first | omega | exact Nat.le_refl _⟩, ⟨by repeat (first | (with_reducible first | exact HB.out | apply below_alloc | apply pw_below_drewN | apply below_drew1) | exact HB.out)⟩⟩
    rw [if_neg c8] at H
    have c8b0 : decide (200 < (l0.length : Int)) = false := decide_eq_false c8
    have c8b1 : decide (200 < l0.length) = false := decide_eq_false (by omega)
    clear c8
    (first | rw [c8b0] | (simp only [i64_w, i32_w]; rw [c8b0]) | skip)
    by_cases c9 : (l1.length : Int) > 200
    · rw [if_pos c9] at H
      have c9b0 : decide (200 < (l1.length : Int)) = true := decide_eq_true c9
      have c9b1 : decide (200 < l1.length) = true := decide_eq_true (by omega)
      clear c9
      have H' := Aside0.mk H
      clear H
      go_wp2
      go_meet
      case rel => exact ⟨_, (true), (by first | rfl | (simp; done) | (simp [*]; done)), H', ⟨by first | omega | exact Nat.le_refl _⟩, ⟨by repeat (first | (with_reducible first | exact HB.out | apply below_alloc | apply pw_below_drewN | apply below_drew1) | exact HB.out)⟩⟩
    rw [if_neg c9] at H
    have c9b0 : decide (200 < (l1.length : Int)) = false := decide_eq_false c9
    have c9b1 : decide (200 < l1.length) = false := decide_eq_false (by omega)
    clear c9
    have H' := Aside0.mk H
    clear H
    go_wp2
    go_meet
    case rel => exact ⟨_, (decide ((l2.length : Int) > 200)), (by first | rfl | (simp; done) | (simp [*]; done)), H', ⟨by first | omega | exact Nat.le_refl _⟩, ⟨by repeat (first | (with_reducible first | exact HB.out | apply below_alloc | apply pw_below_drewN | apply below_drew1) | exact HB.out)⟩⟩
  case rest =>
    clear HC6
    try clear c1
    try clear c2
    try clear p2
    try clear c3
    try clear c5
    try clear c7
    try clear c8
    try clear c8b0
    try clear c8b1
    try clear c9
    try clear c9b0
    try clear c9b1
    obtain ⟨kq, x26_5, rfl, HA, HJ5, HB⟩ := hcut
    cases kq with
    | zero => exact absurd HA.out (by simp [ductuslaw14_OrderAnswers.j0])
    | succ kj5 =>
      have H := HA.out
      clear HA
      simp only [ductuslaw14_OrderAnswers.j0] at H
      by_cases c10 : x26_5 = true
      · subst c10
        have H1 : (some true) = some r := by rw [if_pos rfl] at H; exact H
        clear H
        have H := H1
        clear H1
        obtain rfl := Option.some.inj H
        go_wp2
        go_ret
        exact ⟨by first | rfl | (simp [errW_none, errW_some] <;> rfl) | (simp [*, errW_none, errW_some] <;> rfl), by repeat (first | (with_reducible first | exact HB.out | apply below_alloc | apply pw_below_drewN | apply below_drew1) | exact HB.out)⟩
      replace c10 := Bool.eq_false_iff.mpr c10
      subst c10
      have H1 : ((some (([] : List Int) : List Int)).bind fun y286 => (if y286.length + l0.length < 17592186044416 then ((some (y286 ++ l0 : List Int)).bind fun y289 => ((order_Back.f kj5 l1).bind fun bt292 => ((ductusref14_Back.f kj5 l1).bind fun bt296 => ((order_Of.f kj5 y289).bind fun t300 => ((ductusref14_Of.f kj5 l0).bind fun t303 => ((ductusref01_Ints.f kj5 t300 t303).bind fun t306 => (if t306 = true then ((ductusref01_Ints.f kj5 bt292.1 bt296.1).bind fun t307 => (if t307 = true then (if bt292.2 = bt296.2 then ((order_Right.f l1).bind fun t308 => ((ductusref14_Right.f kj5 l1).bind fun t309 => (if (t308 == t309) = true then ((order_Seen.f kj5 l1 y289).bind fun t310 => ((ductusref14_Seen.f kj5 l1 l0).bind fun t313 => ((ductusref01_Ints.f kj5 t310 t313).bind fun t316 => (if t316 = true then ((order_Only.f kj5 l1 l2).bind fun t317 => ((ductusref14_Only.f kj5 l1 l2).bind fun t320 => ((ductusref01_Ints.f kj5 t317 t320).bind fun t323 => (if t323 = true then ((ductusref01_Ints.f kj5 y289 l0).bind fun t324 => (some t324)) else (none))))) else (none))))) else (none)))) else (none)) else (none))) else (none)))))))) else (none))) = some r := by rw [if_neg (show ¬ (false = true) by decide)] at H; exact H
      clear H
      have H := H1
      clear H1
      obtain ⟨y286, hy286⟩ : ∃ y_ : List Int, y_ = (([] : List Int)) := ⟨_, rfl⟩
      replace H : (if y286.length + l0.length < 17592186044416 then ((some (y286 ++ l0 : List Int)).bind fun y289 => ((order_Back.f kj5 l1).bind fun bt292 => ((ductusref14_Back.f kj5 l1).bind fun bt296 => ((order_Of.f kj5 y289).bind fun t300 => ((ductusref14_Of.f kj5 l0).bind fun t303 => ((ductusref01_Ints.f kj5 t300 t303).bind fun t306 => (if t306 = true then ((ductusref01_Ints.f kj5 bt292.1 bt296.1).bind fun t307 => (if t307 = true then (if bt292.2 = bt296.2 then ((order_Right.f l1).bind fun t308 => ((ductusref14_Right.f kj5 l1).bind fun t309 => (if (t308 == t309) = true then ((order_Seen.f kj5 l1 y289).bind fun t310 => ((ductusref14_Seen.f kj5 l1 l0).bind fun t313 => ((ductusref01_Ints.f kj5 t310 t313).bind fun t316 => (if t316 = true then ((order_Only.f kj5 l1 l2).bind fun t317 => ((ductusref14_Only.f kj5 l1 l2).bind fun t320 => ((ductusref01_Ints.f kj5 t317 t320).bind fun t323 => (if t323 = true then ((ductusref01_Ints.f kj5 y289 l0).bind fun t324 => (some t324)) else (none))))) else (none))))) else (none)))) else (none)) else (none))) else (none)))))))) else (none)) = some r := by first | (rw [hy286]; with_reducible exact H) | (have H2_ := (Option.bind_some _ _).symm.trans H; rw [hy286]; with_reducible exact H2_) | (have H2_ := (Option.bind_some _ _).symm.trans H; with_reducible exact H2_) | with_reducible exact H | (rw [hy286]; exact H) | exact H
      have Ny286 := Aside0.mk hy286
      clear hy286
      by_cases c11 : y286.length + l0.length < 17592186044416
      rotate_left
      · rw [if_neg c11] at H
        exact absurd H (by simp)
      rw [if_pos c11] at H
      have LMc11 := Aside0.mk c11
      clear c11
      obtain ⟨y289, hy289⟩ : ∃ y_ : List Int, y_ = (y286 ++ l0) := ⟨_, rfl⟩
      replace H : ((order_Back.f kj5 l1).bind fun bt292 => ((ductusref14_Back.f kj5 l1).bind fun bt296 => ((order_Of.f kj5 y289).bind fun t300 => ((ductusref14_Of.f kj5 l0).bind fun t303 => ((ductusref01_Ints.f kj5 t300 t303).bind fun t306 => (if t306 = true then ((ductusref01_Ints.f kj5 bt292.1 bt296.1).bind fun t307 => (if t307 = true then (if bt292.2 = bt296.2 then ((order_Right.f l1).bind fun t308 => ((ductusref14_Right.f kj5 l1).bind fun t309 => (if (t308 == t309) = true then ((order_Seen.f kj5 l1 y289).bind fun t310 => ((ductusref14_Seen.f kj5 l1 l0).bind fun t313 => ((ductusref01_Ints.f kj5 t310 t313).bind fun t316 => (if t316 = true then ((order_Only.f kj5 l1 l2).bind fun t317 => ((ductusref14_Only.f kj5 l1 l2).bind fun t320 => ((ductusref01_Ints.f kj5 t317 t320).bind fun t323 => (if t323 = true then ((ductusref01_Ints.f kj5 y289 l0).bind fun t324 => (some t324)) else (none))))) else (none))))) else (none)))) else (none)) else (none))) else (none))))))) = some r := by first | (rw [hy289]; with_reducible exact H) | (have H2_ := (Option.bind_some _ _).symm.trans H; rw [hy289]; with_reducible exact H2_) | (have H2_ := (Option.bind_some _ _).symm.trans H; with_reducible exact H2_) | with_reducible exact H | (rw [hy289]; exact H) | exact H
      have Ny289 := Aside0.mk hy289
      clear hy289
      replace H := Option.bind_eq_some_iff.mp H
      obtain ⟨⟨t292, t293⟩, A120, H⟩ := H
      replace H : ((ductusref14_Back.f kj5 l1).bind fun bt296 => ((order_Of.f kj5 y289).bind fun t300 => ((ductusref14_Of.f kj5 l0).bind fun t303 => ((ductusref01_Ints.f kj5 t300 t303).bind fun t306 => (if t306 = true then ((ductusref01_Ints.f kj5 t292 bt296.1).bind fun t307 => (if t307 = true then (if t293 = bt296.2 then ((order_Right.f l1).bind fun t308 => ((ductusref14_Right.f kj5 l1).bind fun t309 => (if (t308 == t309) = true then ((order_Seen.f kj5 l1 y289).bind fun t310 => ((ductusref14_Seen.f kj5 l1 l0).bind fun t313 => ((ductusref01_Ints.f kj5 t310 t313).bind fun t316 => (if t316 = true then ((order_Only.f kj5 l1 l2).bind fun t317 => ((ductusref14_Only.f kj5 l1 l2).bind fun t320 => ((ductusref01_Ints.f kj5 t317 t320).bind fun t323 => (if t323 = true then ((ductusref01_Ints.f kj5 y289 l0).bind fun t324 => (some t324)) else (none))))) else (none))))) else (none)))) else (none)) else (none))) else (none)))))) = some r := H
      have A12 := Aside0.mk A120
      clear A120
      replace H := Option.bind_eq_some_iff.mp H
      obtain ⟨⟨t296, t297⟩, A130, H⟩ := H
      replace H : ((order_Of.f kj5 y289).bind fun t300 => ((ductusref14_Of.f kj5 l0).bind fun t303 => ((ductusref01_Ints.f kj5 t300 t303).bind fun t306 => (if t306 = true then ((ductusref01_Ints.f kj5 t292 t296).bind fun t307 => (if t307 = true then (if t293 = t297 then ((order_Right.f l1).bind fun t308 => ((ductusref14_Right.f kj5 l1).bind fun t309 => (if (t308 == t309) = true then ((order_Seen.f kj5 l1 y289).bind fun t310 => ((ductusref14_Seen.f kj5 l1 l0).bind fun t313 => ((ductusref01_Ints.f kj5 t310 t313).bind fun t316 => (if t316 = true then ((order_Only.f kj5 l1 l2).bind fun t317 => ((ductusref14_Only.f kj5 l1 l2).bind fun t320 => ((ductusref01_Ints.f kj5 t317 t320).bind fun t323 => (if t323 = true then ((ductusref01_Ints.f kj5 y289 l0).bind fun t324 => (some t324)) else (none))))) else (none))))) else (none)))) else (none)) else (none))) else (none))))) = some r := H
      have A13 := Aside0.mk A130
      clear A130
      replace H := Option.bind_eq_some_iff.mp H
      obtain ⟨t300, A140, H⟩ := H
      replace H : ((ductusref14_Of.f kj5 l0).bind fun t303 => ((ductusref01_Ints.f kj5 t300 t303).bind fun t306 => (if t306 = true then ((ductusref01_Ints.f kj5 t292 t296).bind fun t307 => (if t307 = true then (if t293 = t297 then ((order_Right.f l1).bind fun t308 => ((ductusref14_Right.f kj5 l1).bind fun t309 => (if (t308 == t309) = true then ((order_Seen.f kj5 l1 y289).bind fun t310 => ((ductusref14_Seen.f kj5 l1 l0).bind fun t313 => ((ductusref01_Ints.f kj5 t310 t313).bind fun t316 => (if t316 = true then ((order_Only.f kj5 l1 l2).bind fun t317 => ((ductusref14_Only.f kj5 l1 l2).bind fun t320 => ((ductusref01_Ints.f kj5 t317 t320).bind fun t323 => (if t323 = true then ((ductusref01_Ints.f kj5 y289 l0).bind fun t324 => (some t324)) else (none))))) else (none))))) else (none)))) else (none)) else (none))) else (none)))) = some r := H
      have A14 := Aside0.mk A140
      clear A140
      replace H := Option.bind_eq_some_iff.mp H
      obtain ⟨t303, A150, H⟩ := H
      replace H : ((ductusref01_Ints.f kj5 t300 t303).bind fun t306 => (if t306 = true then ((ductusref01_Ints.f kj5 t292 t296).bind fun t307 => (if t307 = true then (if t293 = t297 then ((order_Right.f l1).bind fun t308 => ((ductusref14_Right.f kj5 l1).bind fun t309 => (if (t308 == t309) = true then ((order_Seen.f kj5 l1 y289).bind fun t310 => ((ductusref14_Seen.f kj5 l1 l0).bind fun t313 => ((ductusref01_Ints.f kj5 t310 t313).bind fun t316 => (if t316 = true then ((order_Only.f kj5 l1 l2).bind fun t317 => ((ductusref14_Only.f kj5 l1 l2).bind fun t320 => ((ductusref01_Ints.f kj5 t317 t320).bind fun t323 => (if t323 = true then ((ductusref01_Ints.f kj5 y289 l0).bind fun t324 => (some t324)) else (none))))) else (none))))) else (none)))) else (none)) else (none))) else (none))) = some r := H
      have A15 := Aside0.mk A150
      clear A150
      replace H := Option.bind_eq_some_iff.mp H
      obtain ⟨t306, A160, H⟩ := H
      replace H : (if t306 = true then ((ductusref01_Ints.f kj5 t292 t296).bind fun t307 => (if t307 = true then (if t293 = t297 then ((order_Right.f l1).bind fun t308 => ((ductusref14_Right.f kj5 l1).bind fun t309 => (if (t308 == t309) = true then ((order_Seen.f kj5 l1 y289).bind fun t310 => ((ductusref14_Seen.f kj5 l1 l0).bind fun t313 => ((ductusref01_Ints.f kj5 t310 t313).bind fun t316 => (if t316 = true then ((order_Only.f kj5 l1 l2).bind fun t317 => ((ductusref14_Only.f kj5 l1 l2).bind fun t320 => ((ductusref01_Ints.f kj5 t317 t320).bind fun t323 => (if t323 = true then ((ductusref01_Ints.f kj5 y289 l0).bind fun t324 => (some t324)) else (none))))) else (none))))) else (none)))) else (none)) else (none))) else (none)) = some r := H
      have A16 := Aside0.mk A160
      clear A160
      by_cases c17 : t306 = true
      rotate_left
      · replace c17 := Bool.eq_false_iff.mpr c17
        subst c17
        have H1 : (none) = some r := by rw [if_neg (show ¬ (false = true) by decide)] at H; exact H
        clear H
        have H := H1
        clear H1
        exact absurd H (by simp)
      subst c17
      have H1 : ((ductusref01_Ints.f kj5 t292 t296).bind fun t307 => (if t307 = true then (if t293 = t297 then ((order_Right.f l1).bind fun t308 => ((ductusref14_Right.f kj5 l1).bind fun t309 => (if (t308 == t309) = true then ((order_Seen.f kj5 l1 y289).bind fun t310 => ((ductusref14_Seen.f kj5 l1 l0).bind fun t313 => ((ductusref01_Ints.f kj5 t310 t313).bind fun t316 => (if t316 = true then ((order_Only.f kj5 l1 l2).bind fun t317 => ((ductusref14_Only.f kj5 l1 l2).bind fun t320 => ((ductusref01_Ints.f kj5 t317 t320).bind fun t323 => (if t323 = true then ((ductusref01_Ints.f kj5 y289 l0).bind fun t324 => (some t324)) else (none))))) else (none))))) else (none)))) else (none)) else (none))) = some r := by rw [if_pos rfl] at H; exact H
      clear H
      have H := H1
      clear H1
      replace H := Option.bind_eq_some_iff.mp H
      obtain ⟨t307, A180, H⟩ := H
      replace H : (if t307 = true then (if t293 = t297 then ((order_Right.f l1).bind fun t308 => ((ductusref14_Right.f kj5 l1).bind fun t309 => (if (t308 == t309) = true then ((order_Seen.f kj5 l1 y289).bind fun t310 => ((ductusref14_Seen.f kj5 l1 l0).bind fun t313 => ((ductusref01_Ints.f kj5 t310 t313).bind fun t316 => (if t316 = true then ((order_Only.f kj5 l1 l2).bind fun t317 => ((ductusref14_Only.f kj5 l1 l2).bind fun t320 => ((ductusref01_Ints.f kj5 t317 t320).bind fun t323 => (if t323 = true then ((ductusref01_Ints.f kj5 y289 l0).bind fun t324 => (some t324)) else (none))))) else (none))))) else (none)))) else (none)) else (none)) = some r := H
      have A18 := Aside0.mk A180
      clear A180
      by_cases c19 : t307 = true
      rotate_left
      · replace c19 := Bool.eq_false_iff.mpr c19
        subst c19
        have H1 : (none) = some r := by rw [if_neg (show ¬ (false = true) by decide)] at H; exact H
        clear H
        have H := H1
        clear H1
        exact absurd H (by simp)
      subst c19
      have H1 : (if t293 = t297 then ((order_Right.f l1).bind fun t308 => ((ductusref14_Right.f kj5 l1).bind fun t309 => (if (t308 == t309) = true then ((order_Seen.f kj5 l1 y289).bind fun t310 => ((ductusref14_Seen.f kj5 l1 l0).bind fun t313 => ((ductusref01_Ints.f kj5 t310 t313).bind fun t316 => (if t316 = true then ((order_Only.f kj5 l1 l2).bind fun t317 => ((ductusref14_Only.f kj5 l1 l2).bind fun t320 => ((ductusref01_Ints.f kj5 t317 t320).bind fun t323 => (if t323 = true then ((ductusref01_Ints.f kj5 y289 l0).bind fun t324 => (some t324)) else (none))))) else (none))))) else (none)))) else (none)) = some r := by rw [if_pos rfl] at H; exact H
      clear H
      have H := H1
      clear H1
      by_cases c20 : t293 = t297
      rotate_left
      · rw [if_neg c20] at H
        exact absurd H (by simp)
      rw [if_pos c20] at H
      have c20b0 : (t293 == t297) = true := beq_iff_eq.mpr c20
      have c20b1 : (t293 != t297) = false := bne_eq_false_iff_eq.mpr c20
      clear c20
      replace H := Option.bind_eq_some_iff.mp H
      obtain ⟨t308, A210, H⟩ := H
      replace H : ((ductusref14_Right.f kj5 l1).bind fun t309 => (if (t308 == t309) = true then ((order_Seen.f kj5 l1 y289).bind fun t310 => ((ductusref14_Seen.f kj5 l1 l0).bind fun t313 => ((ductusref01_Ints.f kj5 t310 t313).bind fun t316 => (if t316 = true then ((order_Only.f kj5 l1 l2).bind fun t317 => ((ductusref14_Only.f kj5 l1 l2).bind fun t320 => ((ductusref01_Ints.f kj5 t317 t320).bind fun t323 => (if t323 = true then ((ductusref01_Ints.f kj5 y289 l0).bind fun t324 => (some t324)) else (none))))) else (none))))) else (none))) = some r := H
      have A21 := Aside0.mk A210
      clear A210
      replace H := Option.bind_eq_some_iff.mp H
      obtain ⟨t309, A220, H⟩ := H
      replace H : (if (t308 == t309) = true then ((order_Seen.f kj5 l1 y289).bind fun t310 => ((ductusref14_Seen.f kj5 l1 l0).bind fun t313 => ((ductusref01_Ints.f kj5 t310 t313).bind fun t316 => (if t316 = true then ((order_Only.f kj5 l1 l2).bind fun t317 => ((ductusref14_Only.f kj5 l1 l2).bind fun t320 => ((ductusref01_Ints.f kj5 t317 t320).bind fun t323 => (if t323 = true then ((ductusref01_Ints.f kj5 y289 l0).bind fun t324 => (some t324)) else (none))))) else (none))))) else (none)) = some r := H
      have A22 := Aside0.mk A220
      clear A220
      by_cases c23 : (t308 == t309) = true
      rotate_left
      · rw [if_neg c23] at H
        exact absurd H (by simp)
      rw [if_pos c23] at H
      have c23b0 : (t308 == t309) = true := c23
      (try (have c23b1 : decide (t308 = t309) = true := by simpa using c23))
      (try (have c23b2 : (t308 == t309) = true := by simpa using c23))
      clear c23
      replace H := Option.bind_eq_some_iff.mp H
      obtain ⟨t310, A240, H⟩ := H
      replace H : ((ductusref14_Seen.f kj5 l1 l0).bind fun t313 => ((ductusref01_Ints.f kj5 t310 t313).bind fun t316 => (if t316 = true then ((order_Only.f kj5 l1 l2).bind fun t317 => ((ductusref14_Only.f kj5 l1 l2).bind fun t320 => ((ductusref01_Ints.f kj5 t317 t320).bind fun t323 => (if t323 = true then ((ductusref01_Ints.f kj5 y289 l0).bind fun t324 => (some t324)) else (none))))) else (none)))) = some r := H
      have A24 := Aside0.mk A240
      clear A240
      replace H := Option.bind_eq_some_iff.mp H
      obtain ⟨t313, A250, H⟩ := H
      replace H : ((ductusref01_Ints.f kj5 t310 t313).bind fun t316 => (if t316 = true then ((order_Only.f kj5 l1 l2).bind fun t317 => ((ductusref14_Only.f kj5 l1 l2).bind fun t320 => ((ductusref01_Ints.f kj5 t317 t320).bind fun t323 => (if t323 = true then ((ductusref01_Ints.f kj5 y289 l0).bind fun t324 => (some t324)) else (none))))) else (none))) = some r := H
      have A25 := Aside0.mk A250
      clear A250
      replace H := Option.bind_eq_some_iff.mp H
      obtain ⟨t316, A260, H⟩ := H
      replace H : (if t316 = true then ((order_Only.f kj5 l1 l2).bind fun t317 => ((ductusref14_Only.f kj5 l1 l2).bind fun t320 => ((ductusref01_Ints.f kj5 t317 t320).bind fun t323 => (if t323 = true then ((ductusref01_Ints.f kj5 y289 l0).bind fun t324 => (some t324)) else (none))))) else (none)) = some r := H
      have A26 := Aside0.mk A260
      clear A260
      by_cases c27 : t316 = true
      rotate_left
      · replace c27 := Bool.eq_false_iff.mpr c27
        subst c27
        have H1 : (none) = some r := by rw [if_neg (show ¬ (false = true) by decide)] at H; exact H
        clear H
        have H := H1
        clear H1
        exact absurd H (by simp)
      subst c27
      have H1 : ((order_Only.f kj5 l1 l2).bind fun t317 => ((ductusref14_Only.f kj5 l1 l2).bind fun t320 => ((ductusref01_Ints.f kj5 t317 t320).bind fun t323 => (if t323 = true then ((ductusref01_Ints.f kj5 y289 l0).bind fun t324 => (some t324)) else (none))))) = some r := by rw [if_pos rfl] at H; exact H
      clear H
      have H := H1
      clear H1
      replace H := Option.bind_eq_some_iff.mp H
      obtain ⟨t317, A280, H⟩ := H
      replace H : ((ductusref14_Only.f kj5 l1 l2).bind fun t320 => ((ductusref01_Ints.f kj5 t317 t320).bind fun t323 => (if t323 = true then ((ductusref01_Ints.f kj5 y289 l0).bind fun t324 => (some t324)) else (none)))) = some r := H
      have A28 := Aside0.mk A280
      clear A280
      replace H := Option.bind_eq_some_iff.mp H
      obtain ⟨t320, A290, H⟩ := H
      replace H : ((ductusref01_Ints.f kj5 t317 t320).bind fun t323 => (if t323 = true then ((ductusref01_Ints.f kj5 y289 l0).bind fun t324 => (some t324)) else (none))) = some r := H
      have A29 := Aside0.mk A290
      clear A290
      replace H := Option.bind_eq_some_iff.mp H
      obtain ⟨t323, A300, H⟩ := H
      replace H : (if t323 = true then ((ductusref01_Ints.f kj5 y289 l0).bind fun t324 => (some t324)) else (none)) = some r := H
      have A30 := Aside0.mk A300
      clear A300
      by_cases c31 : t323 = true
      rotate_left
      · replace c31 := Bool.eq_false_iff.mpr c31
        subst c31
        have H1 : (none) = some r := by rw [if_neg (show ¬ (false = true) by decide)] at H; exact H
        clear H
        have H := H1
        clear H1
        exact absurd H (by simp)
      subst c31
      have H1 : ((ductusref01_Ints.f kj5 y289 l0).bind fun t324 => (some t324)) = some r := by rw [if_pos rfl] at H; exact H
      clear H
      have H := H1
      clear H1
      replace H := Option.bind_eq_some_iff.mp H
      obtain ⟨t324, A320, H⟩ := H
      replace H : (some t324) = some r := H
      have A32 := Aside0.mk A320
      clear A320
      obtain rfl := Option.some.inj H
      go_wp2_with (first | ((with_reducible refine gate_dst (N := 27) rfl ?_); (try (refine gate_guard (by rfl) ?_; dsimp only)); refine Kd.R_lit (Kd.int .i64) _ 3 ?hg (N := 27) ?hd (xs := ([] : List Int)) (inner := []) (ok := fun _ => True) (okp := fun _ => True) ?hr ?hp (fun _ hk => hk) trivial (Below.refl _ _) (Nat.le_refl _) (by simp) ?_; (case hd => rfl); (case hg => rfl); (case hr => first | (go_simp; done) | (go_simp; rfl)); (case hp => exact (Reps.none _ _)); intro v287 w33 ho34 hb hg_ hnew_; clear hg_ hnew_; (first | rw [← Ny286.out] at ho34 | (simp only [Int.reduceToNat] at ho34; rw [← Ny286.out] at ho34)); have n0_ := Aside0.mk (Kd.R_lower ho34 (below_size (by repeat (first | (with_reducible first | exact HB.out | apply below_alloc | apply pw_below_drewN | apply below_drew1) | exact HB.out)))); have n1_ := Aside0.mk (below_step (by repeat (first | (with_reducible first | exact HB.out | apply below_alloc | apply pw_below_drewN | apply below_drew1) | exact HB.out)) hb); clear HB; have HO288 := n0_; have HB := n1_; clear n0_ n1_; clear hb ho34) | ((with_reducible refine gate_builtin (b := .append) (xs := #[.tmp 27, .tmp 28]) rfl ?_); (try (refine gate_guard (by rfl) ?_; dsimp only)); at_builtin; refine Kd.R_append_rows (Kd.int .i64) (w0 := w) w.heap.size rfl (.tmp 27) (.tmp 28) 22 3 (.int .i64 0) 8 rfl Try.underlying22 info3 rfl (by decide) (by omega) v287 y286 l0 _ _ _ (fun _ => True) (fun _ => False) rfl rfl ?aO ?aR (fun _ _ h => h) (fun _ h => h.elim) ?aF ?aB ?aS ?aL ?_; (case aR => repeat (first | exact (Kd.C_below HR0.out HB.out) | (with_reducible refine Kd.C_alloc ?_ _) | (with_reducible refine Kd.C_drewN ?_ _) | (with_reducible refine Kd.C_drew ?_))); (case aB => exact (by repeat (first | (with_reducible first | exact HB.out | apply below_alloc | apply pw_below_drewN | apply below_drew1) | exact HB.out))); (case aF => exact (fun _ _ => trivial)); (case aO => exact (by (with_reducible repeat (first | apply Kd.R_alloc | apply Kd.R_drewN | apply Kd.R_drew)); exact HO288.out)); (case aS => exact (below_size (by repeat (first | (with_reducible first | exact HB.out | apply below_alloc | apply pw_below_drewN | apply below_drew1) | exact HB.out)))); (case aL => have := LMc11.out; omega); intro v290 w35 ho hb hg hat; rw [← Ny289.out] at ho; have n0_ := Aside0.mk (hb); have n1_ := Aside0.mk (ho); clear HB; clear HO288; have HB := n0_; have HO291 := n1_; clear n0_ n1_; clear ho hb hg hat) | ((with_reducible refine gate_callee (f := 8) rfl ?_); refine goesL_ (some 32) rfl rfl Try.func8 (by kernel_rfl) rfl #[.slice A1 l1.length c1] rfl (by (try simp only [List.map_toArray, List.map_cons, List.map_nil]); first | done | rfl | (simp only [List.length_drop, List.length_take]; rfl)) ?_; (with_reducible refine (order_Back.calls kj5 _ _ l1 t292 t293 _ ?side1 ?side2 A12.out).mono ?_); (case side1 => repeat (first | exact (Kd.C_below HR1.out HB.out) | (with_reducible refine Kd.C_alloc ?_ _) | (with_reducible refine Kd.C_drewN ?_ _) | (with_reducible refine Kd.C_drew ?_))); (case side2 => exact HC1.out); rintro e w36 ⟨v294, rfl, ho0, hb⟩; refine ⟨_, rfl, ?_⟩; have n0_ := Aside0.mk (Kd.R_elder' (by (with_reducible repeat (first | apply Kd.R_alloc | apply Kd.R_drewN | apply Kd.R_drew)); exact HO291.out) (Kd.R_base ho0) hb); have n1_ := Aside0.mk (Kd.R_lower (Kd.R_new' ho0 (Kd.R_lt (by (with_reducible repeat (first | apply Kd.R_alloc | apply Kd.R_drewN | apply Kd.R_drew)); exact HO291.out))) (below_size (by repeat (first | (with_reducible first | exact HB.out | apply below_alloc | apply pw_below_drewN | apply below_drew1) | exact HB.out)))); have n2_ := Aside0.mk (below_step (by repeat (first | (with_reducible first | exact HB.out | apply below_alloc | apply pw_below_drewN | apply below_drew1) | exact HB.out)) hb); clear HO291; clear HB; have HO291 := n0_; have HO295 := n1_; have HB := n2_; clear n0_ n1_ n2_; (try clear hb); (try clear hb2); (try clear hk); (try clear hi); (try clear ho0)) | ((with_reducible refine gate_callee (f := 9) rfl ?_); refine goesL_ (some 37) rfl rfl Try.func9 (by kernel_rfl) rfl #[.slice A1 l1.length c1] rfl (by (try simp only [List.map_toArray, List.map_cons, List.map_nil]); first | done | rfl | (simp only [List.length_drop, List.length_take]; rfl)) ?_; (with_reducible refine (ductusref14_Back.calls kj5 _ _ l1 t296 t297 _ ?side1 ?side2 A13.out).mono ?_); (case side1 => repeat (first | exact (Kd.C_below HR1.out HB.out) | (with_reducible refine Kd.C_alloc ?_ _) | (with_reducible refine Kd.C_drewN ?_ _) | (with_reducible refine Kd.C_drew ?_))); (case side2 => exact HC1.out); rintro e w37 ⟨v298, rfl, ho0, hb⟩; refine ⟨_, rfl, ?_⟩; have n0_ := Aside0.mk (Kd.R_elder' (by (with_reducible repeat (first | apply Kd.R_alloc | apply Kd.R_drewN | apply Kd.R_drew)); exact HO291.out) (Kd.R_base ho0) hb); have n1_ := Aside0.mk (Kd.R_elder' (by (with_reducible repeat (first | apply Kd.R_alloc | apply Kd.R_drewN | apply Kd.R_drew)); exact HO295.out) (Kd.R_base ho0) hb); have n2_ := Aside0.mk (Kd.R_lower (Kd.R_new' (Kd.R_new' ho0 (Kd.R_lt (by (with_reducible repeat (first | apply Kd.R_alloc | apply Kd.R_drewN | apply Kd.R_drew)); exact HO291.out))) (Kd.R_lt (by (with_reducible repeat (first | apply Kd.R_alloc | apply Kd.R_drewN | apply Kd.R_drew)); exact HO295.out))) (below_size (by repeat (first | (with_reducible first | exact HB.out | apply below_alloc | apply pw_below_drewN | apply below_drew1) | exact HB.out)))); have n3_ := Aside0.mk (below_step (by repeat (first | (with_reducible first | exact HB.out | apply below_alloc | apply pw_below_drewN | apply below_drew1) | exact HB.out)) hb); clear HO291; clear HO295; clear HB; have HO291 := n0_; have HO295 := n1_; have HO299 := n2_; have HB := n3_; clear n0_ n1_ n2_ n3_; (try clear hb); (try clear hb2); (try clear hk); (try clear hi); (try clear ho0); obtain ⟨Ao38, co38, eo38⟩ := Kd.R_slice HO291.out; subst eo38) | ((with_reducible refine gate_callee (f := 11) rfl ?_); refine goesL_ (some 41) rfl rfl Try.func11 (by kernel_rfl) rfl #[.slice Ao38 y289.length co38] rfl (by (try simp only [List.map_toArray, List.map_cons, List.map_nil]); first | done | rfl | (simp only [List.length_drop, List.length_take]; rfl)) ?_; (with_reducible refine (order_Of.calls kj5 _ _ y289 t300 _ ?side1 ?side2 A14.out).mono ?_); (case side1 => repeat (first | exact (Kd.R_reads' HO291.out).2.2 | (with_reducible refine Kd.C_alloc ?_ _) | (with_reducible refine Kd.C_drewN ?_ _) | (with_reducible refine Kd.C_drew ?_))); (case side2 => exact (Kd.R_reads' HO291.out).2.1); rintro e w39 ⟨v301, rfl, ho0, hb⟩; refine ⟨_, rfl, ?_⟩; have n0_ := Aside0.mk (Kd.R_elder' (by (with_reducible repeat (first | apply Kd.R_alloc | apply Kd.R_drewN | apply Kd.R_drew)); exact HO291.out) (Kd.R_base ho0) hb); have n1_ := Aside0.mk (Kd.R_elder' (by (with_reducible repeat (first | apply Kd.R_alloc | apply Kd.R_drewN | apply Kd.R_drew)); exact HO295.out) (Kd.R_base ho0) hb); have n2_ := Aside0.mk (Kd.R_elder' (by (with_reducible repeat (first | apply Kd.R_alloc | apply Kd.R_drewN | apply Kd.R_drew)); exact HO299.out) (Kd.R_base ho0) hb); have n3_ := Aside0.mk (Kd.R_lower (Kd.R_new' (Kd.R_new' (Kd.R_new' ho0 (Kd.R_lt (by (with_reducible repeat (first | apply Kd.R_alloc | apply Kd.R_drewN | apply Kd.R_drew)); exact HO291.out))) (Kd.R_lt (by (with_reducible repeat (first | apply Kd.R_alloc | apply Kd.R_drewN | apply Kd.R_drew)); exact HO295.out))) (Kd.R_lt (by (with_reducible repeat (first | apply Kd.R_alloc | apply Kd.R_drewN | apply Kd.R_drew)); exact HO299.out))) (below_size (by repeat (first | (with_reducible first | exact HB.out | apply below_alloc | apply pw_below_drewN | apply below_drew1) | exact HB.out)))); have n4_ := Aside0.mk (below_step (by repeat (first | (with_reducible first | exact HB.out | apply below_alloc | apply pw_below_drewN | apply below_drew1) | exact HB.out)) hb); clear HO291; clear HO295; clear HO299; clear HB; have HO291 := n0_; have HO295 := n1_; have HO299 := n2_; have HO302 := n3_; have HB := n4_; clear n0_ n1_ n2_ n3_ n4_; (try clear hb); (try clear hb2); (try clear hk); (try clear hi); (try clear ho0)) | ((with_reducible refine gate_callee (f := 12) rfl ?_); refine goesL_ (some 43) rfl rfl Try.func12 (by kernel_rfl) rfl #[.slice A0 l0.length c0] rfl (by (try simp only [List.map_toArray, List.map_cons, List.map_nil]); first | done | rfl | (simp only [List.length_drop, List.length_take]; rfl)) ?_; (with_reducible refine (ductusref14_Of.calls kj5 _ _ l0 t303 _ ?side1 ?side2 A15.out).mono ?_); (case side1 => repeat (first | exact (Kd.C_below HR0.out HB.out) | (with_reducible refine Kd.C_alloc ?_ _) | (with_reducible refine Kd.C_drewN ?_ _) | (with_reducible refine Kd.C_drew ?_))); (case side2 => exact HC0.out); rintro e w40 ⟨v304, rfl, ho0, hb⟩; refine ⟨_, rfl, ?_⟩; have n0_ := Aside0.mk (Kd.R_elder' (by (with_reducible repeat (first | apply Kd.R_alloc | apply Kd.R_drewN | apply Kd.R_drew)); exact HO291.out) (Kd.R_base ho0) hb); have n1_ := Aside0.mk (Kd.R_elder' (by (with_reducible repeat (first | apply Kd.R_alloc | apply Kd.R_drewN | apply Kd.R_drew)); exact HO295.out) (Kd.R_base ho0) hb); have n2_ := Aside0.mk (Kd.R_elder' (by (with_reducible repeat (first | apply Kd.R_alloc | apply Kd.R_drewN | apply Kd.R_drew)); exact HO299.out) (Kd.R_base ho0) hb); have n3_ := Aside0.mk (Kd.R_elder' (by (with_reducible repeat (first | apply Kd.R_alloc | apply Kd.R_drewN | apply Kd.R_drew)); exact HO302.out) (Kd.R_base ho0) hb); have n4_ := Aside0.mk (Kd.R_lower (Kd.R_new' (Kd.R_new' (Kd.R_new' (Kd.R_new' ho0 (Kd.R_lt (by (with_reducible repeat (first | apply Kd.R_alloc | apply Kd.R_drewN | apply Kd.R_drew)); exact HO291.out))) (Kd.R_lt (by (with_reducible repeat (first | apply Kd.R_alloc | apply Kd.R_drewN | apply Kd.R_drew)); exact HO295.out))) (Kd.R_lt (by (with_reducible repeat (first | apply Kd.R_alloc | apply Kd.R_drewN | apply Kd.R_drew)); exact HO299.out))) (Kd.R_lt (by (with_reducible repeat (first | apply Kd.R_alloc | apply Kd.R_drewN | apply Kd.R_drew)); exact HO302.out))) (below_size (by repeat (first | (with_reducible first | exact HB.out | apply below_alloc | apply pw_below_drewN | apply below_drew1) | exact HB.out)))); have n5_ := Aside0.mk (below_step (by repeat (first | (with_reducible first | exact HB.out | apply below_alloc | apply pw_below_drewN | apply below_drew1) | exact HB.out)) hb); clear HO291; clear HO295; clear HO299; clear HO302; clear HB; have HO291 := n0_; have HO295 := n1_; have HO299 := n2_; have HO302 := n3_; have HO305 := n4_; have HB := n5_; clear n0_ n1_ n2_ n3_ n4_ n5_; (try clear hb); (try clear hb2); (try clear hk); (try clear hi); (try clear ho0); obtain ⟨Ao41, co41, eo41⟩ := Kd.R_slice HO302.out; subst eo41; obtain ⟨Ao42, co42, eo42⟩ := Kd.R_slice HO305.out; subst eo42) | ((with_reducible refine gate_callee (f := 10) rfl ?_); refine goesL_ (some 44) rfl rfl Try.func10 (by kernel_rfl) rfl #[.slice Ao41 t300.length co41, .slice Ao42 t303.length co42] rfl (by (try simp only [List.map_toArray, List.map_cons, List.map_nil]); first | done | rfl | (simp only [List.length_drop, List.length_take]; rfl)) ?_; (with_reducible refine (ductusref01_Ints.calls kj5 _ _ t300 _ _ t303 true _ ?side1 ?side2 ?side3 ?side4 A16.out).mono ?_); (case side1 => repeat (first | exact (Kd.R_reads' HO302.out).2.2 | (with_reducible refine Kd.C_alloc ?_ _) | (with_reducible refine Kd.C_drewN ?_ _) | (with_reducible refine Kd.C_drew ?_))); (case side2 => exact (Kd.R_reads' HO302.out).2.1); (case side3 => repeat (first | exact (Kd.R_reads' HO305.out).2.2 | (with_reducible refine Kd.C_alloc ?_ _) | (with_reducible refine Kd.C_drewN ?_ _) | (with_reducible refine Kd.C_drew ?_))); (case side4 => exact (Kd.R_reads' HO305.out).2.1); rintro e w' ⟨rfl, ⟨nd, rfl⟩⟩; refine ⟨_, rfl, ?_⟩; obtain ⟨Ao43, co43, eo43⟩ := Kd.R_slice HO295.out; subst eo43; obtain ⟨Ao44, co44, eo44⟩ := Kd.R_slice HO299.out; subst eo44) | (go_at_call 10; (with_reducible refine (ductusref01_Ints.calls kj5 _ _ t292 _ _ t296 true _ ?side1 ?side2 ?side3 ?side4 A18.out).mono ?_); (case side1 => repeat (first | exact (Kd.R_reads' HO295.out).2.2 | (with_reducible refine Kd.C_alloc ?_ _) | (with_reducible refine Kd.C_drewN ?_ _) | (with_reducible refine Kd.C_drew ?_))); (case side2 => exact (Kd.R_reads' HO295.out).2.1); (case side3 => repeat (first | exact (Kd.R_reads' HO299.out).2.2 | (with_reducible refine Kd.C_alloc ?_ _) | (with_reducible refine Kd.C_drewN ?_ _) | (with_reducible refine Kd.C_drew ?_))); (case side4 => exact (Kd.R_reads' HO299.out).2.1); rintro e w' ⟨rfl, ⟨nd, rfl⟩⟩) | (go_at_call 13; (with_reducible refine (order_Right.calls _ _ l1 t308 _ ?side1 ?side2 A21.out).mono ?_); (case side1 => repeat (first | exact (Kd.C_below HR1.out (by repeat (first | (with_reducible first | exact HB.out | apply below_alloc | apply pw_below_drewN | apply below_drew1) | exact HB.out))) | (with_reducible refine Kd.C_alloc ?_ _) | (with_reducible refine Kd.C_drewN ?_ _) | (with_reducible refine Kd.C_drew ?_))); (case side2 => exact HC1.out); rintro e w45 ⟨rfl, hb⟩; have n0_ := Aside0.mk (Kd.R_below (by (with_reducible repeat (first | apply Kd.R_alloc | apply Kd.R_drewN | apply Kd.R_drew)); exact HO291.out) hb); have n1_ := Aside0.mk (Kd.R_below (by (with_reducible repeat (first | apply Kd.R_alloc | apply Kd.R_drewN | apply Kd.R_drew)); exact HO295.out) hb); have n2_ := Aside0.mk (Kd.R_below (by (with_reducible repeat (first | apply Kd.R_alloc | apply Kd.R_drewN | apply Kd.R_drew)); exact HO299.out) hb); have n3_ := Aside0.mk (Kd.R_below (by (with_reducible repeat (first | apply Kd.R_alloc | apply Kd.R_drewN | apply Kd.R_drew)); exact HO302.out) hb); have n4_ := Aside0.mk (Kd.R_below (by (with_reducible repeat (first | apply Kd.R_alloc | apply Kd.R_drewN | apply Kd.R_drew)); exact HO305.out) hb); have n5_ := Aside0.mk (below_step (by repeat (first | (with_reducible first | exact HB.out | apply below_alloc | apply pw_below_drewN | apply below_drew1) | exact HB.out)) hb); clear HO291; clear HO295; clear HO299; clear HO302; clear HO305; clear HB; have HO291 := n0_; have HO295 := n1_; have HO299 := n2_; have HO302 := n3_; have HO305 := n4_; have HB := n5_; clear n0_ n1_ n2_ n3_ n4_ n5_; (try clear hb); (try clear hb2); (try clear hk); (try clear hi)) | (go_at_call 14; (with_reducible refine (ductusref14_Right.calls kj5 _ _ l1 t309 _ ?side1 ?side2 A22.out).mono ?_); (case side1 => repeat (first | exact (Kd.C_below HR1.out HB.out) | (with_reducible refine Kd.C_alloc ?_ _) | (with_reducible refine Kd.C_drewN ?_ _) | (with_reducible refine Kd.C_drew ?_))); (case side2 => exact HC1.out); rintro e w46 ⟨rfl, hb⟩; have n0_ := Aside0.mk (Kd.R_below (by (with_reducible repeat (first | apply Kd.R_alloc | apply Kd.R_drewN | apply Kd.R_drew)); exact HO291.out) hb); have n1_ := Aside0.mk (Kd.R_below (by (with_reducible repeat (first | apply Kd.R_alloc | apply Kd.R_drewN | apply Kd.R_drew)); exact HO295.out) hb); have n2_ := Aside0.mk (Kd.R_below (by (with_reducible repeat (first | apply Kd.R_alloc | apply Kd.R_drewN | apply Kd.R_drew)); exact HO299.out) hb); have n3_ := Aside0.mk (Kd.R_below (by (with_reducible repeat (first | apply Kd.R_alloc | apply Kd.R_drewN | apply Kd.R_drew)); exact HO302.out) hb); have n4_ := Aside0.mk (Kd.R_below (by (with_reducible repeat (first | apply Kd.R_alloc | apply Kd.R_drewN | apply Kd.R_drew)); exact HO305.out) hb); have n5_ := Aside0.mk (below_step (by repeat (first | (with_reducible first | exact HB.out | apply below_alloc | apply pw_below_drewN | apply below_drew1) | exact HB.out)) hb); clear HO291; clear HO295; clear HO299; clear HO302; clear HO305; clear HB; have HO291 := n0_; have HO295 := n1_; have HO299 := n2_; have HO302 := n3_; have HO305 := n4_; have HB := n5_; clear n0_ n1_ n2_ n3_ n4_ n5_; (try clear hb); (try clear hb2); (try clear hk); (try clear hi)) | (go_at_call 15; (with_reducible refine (order_Seen.calls kj5 _ _ l1 _ _ y289 t310 _ ?side1 ?side2 ?side3 ?side4 A24.out).mono ?_); (case side1 => repeat (first | exact (Kd.C_below HR1.out HB.out) | (with_reducible refine Kd.C_alloc ?_ _) | (with_reducible refine Kd.C_drewN ?_ _) | (with_reducible refine Kd.C_drew ?_))); (case side2 => exact HC1.out); (case side3 => repeat (first | exact (Kd.R_reads' HO291.out).2.2 | (with_reducible refine Kd.C_alloc ?_ _) | (with_reducible refine Kd.C_drewN ?_ _) | (with_reducible refine Kd.C_drew ?_))); (case side4 => exact (Kd.R_reads' HO291.out).2.1); rintro e w47 ⟨v311, rfl, ho0, hb⟩; have n0_ := Aside0.mk (Kd.R_elder' (by (with_reducible repeat (first | apply Kd.R_alloc | apply Kd.R_drewN | apply Kd.R_drew)); exact HO291.out) (Kd.R_base ho0) hb); have n1_ := Aside0.mk (Kd.R_elder' (by (with_reducible repeat (first | apply Kd.R_alloc | apply Kd.R_drewN | apply Kd.R_drew)); exact HO295.out) (Kd.R_base ho0) hb); have n2_ := Aside0.mk (Kd.R_elder' (by (with_reducible repeat (first | apply Kd.R_alloc | apply Kd.R_drewN | apply Kd.R_drew)); exact HO299.out) (Kd.R_base ho0) hb); have n3_ := Aside0.mk (Kd.R_elder' (by (with_reducible repeat (first | apply Kd.R_alloc | apply Kd.R_drewN | apply Kd.R_drew)); exact HO302.out) (Kd.R_base ho0) hb); have n4_ := Aside0.mk (Kd.R_elder' (by (with_reducible repeat (first | apply Kd.R_alloc | apply Kd.R_drewN | apply Kd.R_drew)); exact HO305.out) (Kd.R_base ho0) hb); have n5_ := Aside0.mk (Kd.R_lower (Kd.R_new' (Kd.R_new' (Kd.R_new' (Kd.R_new' (Kd.R_new' ho0 (Kd.R_lt (by (with_reducible repeat (first | apply Kd.R_alloc | apply Kd.R_drewN | apply Kd.R_drew)); exact HO291.out))) (Kd.R_lt (by (with_reducible repeat (first | apply Kd.R_alloc | apply Kd.R_drewN | apply Kd.R_drew)); exact HO295.out))) (Kd.R_lt (by (with_reducible repeat (first | apply Kd.R_alloc | apply Kd.R_drewN | apply Kd.R_drew)); exact HO299.out))) (Kd.R_lt (by (with_reducible repeat (first | apply Kd.R_alloc | apply Kd.R_drewN | apply Kd.R_drew)); exact HO302.out))) (Kd.R_lt (by (with_reducible repeat (first | apply Kd.R_alloc | apply Kd.R_drewN | apply Kd.R_drew)); exact HO305.out))) (below_size (by repeat (first | (with_reducible first | exact HB.out | apply below_alloc | apply pw_below_drewN | apply below_drew1) | exact HB.out)))); have n6_ := Aside0.mk (below_step (by repeat (first | (with_reducible first | exact HB.out | apply below_alloc | apply pw_below_drewN | apply below_drew1) | exact HB.out)) hb); clear HO291; clear HO295; clear HO299; clear HO302; clear HO305; clear HB; have HO291 := n0_; have HO295 := n1_; have HO299 := n2_; have HO302 := n3_; have HO305 := n4_; have HO312 := n5_; have HB := n6_; clear n0_ n1_ n2_ n3_ n4_ n5_ n6_; (try clear hb); (try clear hb2); (try clear hk); (try clear hi); (try clear ho0)) | (go_at_call 16; (with_reducible refine (ductusref14_Seen.calls kj5 _ _ l1 _ _ l0 t313 _ ?side1 ?side2 ?side3 ?side4 A25.out).mono ?_); (case side1 => repeat (first | exact (Kd.C_below HR1.out HB.out) | (with_reducible refine Kd.C_alloc ?_ _) | (with_reducible refine Kd.C_drewN ?_ _) | (with_reducible refine Kd.C_drew ?_))); (case side2 => exact HC1.out); (case side3 => repeat (first | exact (Kd.C_below HR0.out HB.out) | (with_reducible refine Kd.C_alloc ?_ _) | (with_reducible refine Kd.C_drewN ?_ _) | (with_reducible refine Kd.C_drew ?_))); (case side4 => exact HC0.out); rintro e w48 ⟨v314, rfl, ho0, hb⟩; have n0_ := Aside0.mk (Kd.R_elder' (by (with_reducible repeat (first | apply Kd.R_alloc | apply Kd.R_drewN | apply Kd.R_drew)); exact HO291.out) (Kd.R_base ho0) hb); have n1_ := Aside0.mk (Kd.R_elder' (by (with_reducible repeat (first | apply Kd.R_alloc | apply Kd.R_drewN | apply Kd.R_drew)); exact HO295.out) (Kd.R_base ho0) hb); have n2_ := Aside0.mk (Kd.R_elder' (by (with_reducible repeat (first | apply Kd.R_alloc | apply Kd.R_drewN | apply Kd.R_drew)); exact HO299.out) (Kd.R_base ho0) hb); have n3_ := Aside0.mk (Kd.R_elder' (by (with_reducible repeat (first | apply Kd.R_alloc | apply Kd.R_drewN | apply Kd.R_drew)); exact HO302.out) (Kd.R_base ho0) hb); have n4_ := Aside0.mk (Kd.R_elder' (by (with_reducible repeat (first | apply Kd.R_alloc | apply Kd.R_drewN | apply Kd.R_drew)); exact HO305.out) (Kd.R_base ho0) hb); have n5_ := Aside0.mk (Kd.R_elder' (by (with_reducible repeat (first | apply Kd.R_alloc | apply Kd.R_drewN | apply Kd.R_drew)); exact HO312.out) (Kd.R_base ho0) hb); have n6_ := Aside0.mk (Kd.R_lower (Kd.R_new' (Kd.R_new' (Kd.R_new' (Kd.R_new' (Kd.R_new' (Kd.R_new' ho0 (Kd.R_lt (by (with_reducible repeat (first | apply Kd.R_alloc | apply Kd.R_drewN | apply Kd.R_drew)); exact HO291.out))) (Kd.R_lt (by (with_reducible repeat (first | apply Kd.R_alloc | apply Kd.R_drewN | apply Kd.R_drew)); exact HO295.out))) (Kd.R_lt (by (with_reducible repeat (first | apply Kd.R_alloc | apply Kd.R_drewN | apply Kd.R_drew)); exact HO299.out))) (Kd.R_lt (by (with_reducible repeat (first | apply Kd.R_alloc | apply Kd.R_drewN | apply Kd.R_drew)); exact HO302.out))) (Kd.R_lt (by (with_reducible repeat (first | apply Kd.R_alloc | apply Kd.R_drewN | apply Kd.R_drew)); exact HO305.out))) (Kd.R_lt (by (with_reducible repeat (first | apply Kd.R_alloc | apply Kd.R_drewN | apply Kd.R_drew)); exact HO312.out))) (below_size (by repeat (first | (with_reducible first | exact HB.out | apply below_alloc | apply pw_below_drewN | apply below_drew1) | exact HB.out)))); have n7_ := Aside0.mk (below_step (by repeat (first | (with_reducible first | exact HB.out | apply below_alloc | apply pw_below_drewN | apply below_drew1) | exact HB.out)) hb); clear HO291; clear HO295; clear HO299; clear HO302; clear HO305; clear HO312; clear HB; have HO291 := n0_; have HO295 := n1_; have HO299 := n2_; have HO302 := n3_; have HO305 := n4_; have HO312 := n5_; have HO315 := n6_; have HB := n7_; clear n0_ n1_ n2_ n3_ n4_ n5_ n6_ n7_; (try clear hb); (try clear hb2); (try clear hk); (try clear hi); (try clear ho0); obtain ⟨Ao49, co49, eo49⟩ := Kd.R_slice HO312.out; subst eo49; obtain ⟨Ao50, co50, eo50⟩ := Kd.R_slice HO315.out; subst eo50) | (go_at_call 10; (with_reducible refine (ductusref01_Ints.calls kj5 _ _ t310 _ _ t313 true _ ?side1 ?side2 ?side3 ?side4 A26.out).mono ?_); (case side1 => repeat (first | exact (Kd.R_reads' HO312.out).2.2 | (with_reducible refine Kd.C_alloc ?_ _) | (with_reducible refine Kd.C_drewN ?_ _) | (with_reducible refine Kd.C_drew ?_))); (case side2 => exact (Kd.R_reads' HO312.out).2.1); (case side3 => repeat (first | exact (Kd.R_reads' HO315.out).2.2 | (with_reducible refine Kd.C_alloc ?_ _) | (with_reducible refine Kd.C_drewN ?_ _) | (with_reducible refine Kd.C_drew ?_))); (case side4 => exact (Kd.R_reads' HO315.out).2.1); rintro e w' ⟨rfl, ⟨nd, rfl⟩⟩) | (go_at_call 17; (with_reducible refine (order_Only.calls kj5 _ _ l1 _ _ l2 t317 _ ?side1 ?side2 ?side3 ?side4 A28.out).mono ?_); (case side1 => repeat (first | exact (Kd.C_below HR1.out (by repeat (first | (with_reducible first | exact HB.out | apply below_alloc | apply pw_below_drewN | apply below_drew1) | exact HB.out))) | (with_reducible refine Kd.C_alloc ?_ _) | (with_reducible refine Kd.C_drewN ?_ _) | (with_reducible refine Kd.C_drew ?_))); (case side2 => exact HC1.out); (case side3 => repeat (first | exact (Kd.C_below HR2.out (by repeat (first | (with_reducible first | exact HB.out | apply below_alloc | apply pw_below_drewN | apply below_drew1) | exact HB.out))) | (with_reducible refine Kd.C_alloc ?_ _) | (with_reducible refine Kd.C_drewN ?_ _) | (with_reducible refine Kd.C_drew ?_))); (case side4 => exact HC2.out); rintro e w51 ⟨v318, rfl, ho0, hb⟩; have n0_ := Aside0.mk (Kd.R_elder' (by (with_reducible repeat (first | apply Kd.R_alloc | apply Kd.R_drewN | apply Kd.R_drew)); exact HO291.out) (Kd.R_base ho0) hb); have n1_ := Aside0.mk (Kd.R_elder' (by (with_reducible repeat (first | apply Kd.R_alloc | apply Kd.R_drewN | apply Kd.R_drew)); exact HO295.out) (Kd.R_base ho0) hb); have n2_ := Aside0.mk (Kd.R_elder' (by (with_reducible repeat (first | apply Kd.R_alloc | apply Kd.R_drewN | apply Kd.R_drew)); exact HO299.out) (Kd.R_base ho0) hb); have n3_ := Aside0.mk (Kd.R_elder' (by (with_reducible repeat (first | apply Kd.R_alloc | apply Kd.R_drewN | apply Kd.R_drew)); exact HO302.out) (Kd.R_base ho0) hb); have n4_ := Aside0.mk (Kd.R_elder' (by (with_reducible repeat (first | apply Kd.R_alloc | apply Kd.R_drewN | apply Kd.R_drew)); exact HO305.out) (Kd.R_base ho0) hb); have n5_ := Aside0.mk (Kd.R_elder' (by (with_reducible repeat (first | apply Kd.R_alloc | apply Kd.R_drewN | apply Kd.R_drew)); exact HO312.out) (Kd.R_base ho0) hb); have n6_ := Aside0.mk (Kd.R_elder' (by (with_reducible repeat (first | apply Kd.R_alloc | apply Kd.R_drewN | apply Kd.R_drew)); exact HO315.out) (Kd.R_base ho0) hb); have n7_ := Aside0.mk (Kd.R_lower (Kd.R_new' (Kd.R_new' (Kd.R_new' (Kd.R_new' (Kd.R_new' (Kd.R_new' (Kd.R_new' ho0 (Kd.R_lt (by (with_reducible repeat (first | apply Kd.R_alloc | apply Kd.R_drewN | apply Kd.R_drew)); exact HO291.out))) (Kd.R_lt (by (with_reducible repeat (first | apply Kd.R_alloc | apply Kd.R_drewN | apply Kd.R_drew)); exact HO295.out))) (Kd.R_lt (by (with_reducible repeat (first | apply Kd.R_alloc | apply Kd.R_drewN | apply Kd.R_drew)); exact HO299.out))) (Kd.R_lt (by (with_reducible repeat (first | apply Kd.R_alloc | apply Kd.R_drewN | apply Kd.R_drew)); exact HO302.out))) (Kd.R_lt (by (with_reducible repeat (first | apply Kd.R_alloc | apply Kd.R_drewN | apply Kd.R_drew)); exact HO305.out))) (Kd.R_lt (by (with_reducible repeat (first | apply Kd.R_alloc | apply Kd.R_drewN | apply Kd.R_drew)); exact HO312.out))) (Kd.R_lt (by (with_reducible repeat (first | apply Kd.R_alloc | apply Kd.R_drewN | apply Kd.R_drew)); exact HO315.out))) (below_size (by repeat (first | (with_reducible first | exact HB.out | apply below_alloc | apply pw_below_drewN | apply below_drew1) | exact HB.out)))); have n8_ := Aside0.mk (below_step (by repeat (first | (with_reducible first | exact HB.out | apply below_alloc | apply pw_below_drewN | apply below_drew1) | exact HB.out)) hb); clear HO291; clear HO295; clear HO299; clear HO302; clear HO305; clear HO312; clear HO315; clear HB; have HO291 := n0_; have HO295 := n1_; have HO299 := n2_; have HO302 := n3_; have HO305 := n4_; have HO312 := n5_; have HO315 := n6_; have HO319 := n7_; have HB := n8_; clear n0_ n1_ n2_ n3_ n4_ n5_ n6_ n7_ n8_; (try clear hb); (try clear hb2); (try clear hk); (try clear hi); (try clear ho0)) | (go_at_call 18; (with_reducible refine (ductusref14_Only.calls kj5 _ _ l1 _ _ l2 t320 _ ?side1 ?side2 ?side3 ?side4 A29.out).mono ?_); (case side1 => repeat (first | exact (Kd.C_below HR1.out HB.out) | (with_reducible refine Kd.C_alloc ?_ _) | (with_reducible refine Kd.C_drewN ?_ _) | (with_reducible refine Kd.C_drew ?_))); (case side2 => exact HC1.out); (case side3 => repeat (first | exact (Kd.C_below HR2.out HB.out) | (with_reducible refine Kd.C_alloc ?_ _) | (with_reducible refine Kd.C_drewN ?_ _) | (with_reducible refine Kd.C_drew ?_))); (case side4 => exact HC2.out); rintro e w52 ⟨v321, rfl, ho0, hb⟩; have n0_ := Aside0.mk (Kd.R_elder' (by (with_reducible repeat (first | apply Kd.R_alloc | apply Kd.R_drewN | apply Kd.R_drew)); exact HO291.out) (Kd.R_base ho0) hb); have n1_ := Aside0.mk (Kd.R_elder' (by (with_reducible repeat (first | apply Kd.R_alloc | apply Kd.R_drewN | apply Kd.R_drew)); exact HO295.out) (Kd.R_base ho0) hb); have n2_ := Aside0.mk (Kd.R_elder' (by (with_reducible repeat (first | apply Kd.R_alloc | apply Kd.R_drewN | apply Kd.R_drew)); exact HO299.out) (Kd.R_base ho0) hb); have n3_ := Aside0.mk (Kd.R_elder' (by (with_reducible repeat (first | apply Kd.R_alloc | apply Kd.R_drewN | apply Kd.R_drew)); exact HO302.out) (Kd.R_base ho0) hb); have n4_ := Aside0.mk (Kd.R_elder' (by (with_reducible repeat (first | apply Kd.R_alloc | apply Kd.R_drewN | apply Kd.R_drew)); exact HO305.out) (Kd.R_base ho0) hb); have n5_ := Aside0.mk (Kd.R_elder' (by (with_reducible repeat (first | apply Kd.R_alloc | apply Kd.R_drewN | apply Kd.R_drew)); exact HO312.out) (Kd.R_base ho0) hb); have n6_ := Aside0.mk (Kd.R_elder' (by (with_reducible repeat (first | apply Kd.R_alloc | apply Kd.R_drewN | apply Kd.R_drew)); exact HO315.out) (Kd.R_base ho0) hb); have n7_ := Aside0.mk (Kd.R_elder' (by (with_reducible repeat (first | apply Kd.R_alloc | apply Kd.R_drewN | apply Kd.R_drew)); exact HO319.out) (Kd.R_base ho0) hb); have n8_ := Aside0.mk (Kd.R_lower (Kd.R_new' (Kd.R_new' (Kd.R_new' (Kd.R_new' (Kd.R_new' (Kd.R_new' (Kd.R_new' (Kd.R_new' ho0 (Kd.R_lt (by (with_reducible repeat (first | apply Kd.R_alloc | apply Kd.R_drewN | apply Kd.R_drew)); exact HO291.out))) (Kd.R_lt (by (with_reducible repeat (first | apply Kd.R_alloc | apply Kd.R_drewN | apply Kd.R_drew)); exact HO295.out))) (Kd.R_lt (by (with_reducible repeat (first | apply Kd.R_alloc | apply Kd.R_drewN | apply Kd.R_drew)); exact HO299.out))) (Kd.R_lt (by (with_reducible repeat (first | apply Kd.R_alloc | apply Kd.R_drewN | apply Kd.R_drew)); exact HO302.out))) (Kd.R_lt (by (with_reducible repeat (first | apply Kd.R_alloc | apply Kd.R_drewN | apply Kd.R_drew)); exact HO305.out))) (Kd.R_lt (by (with_reducible repeat (first | apply Kd.R_alloc | apply Kd.R_drewN | apply Kd.R_drew)); exact HO312.out))) (Kd.R_lt (by (with_reducible repeat (first | apply Kd.R_alloc | apply Kd.R_drewN | apply Kd.R_drew)); exact HO315.out))) (Kd.R_lt (by (with_reducible repeat (first | apply Kd.R_alloc | apply Kd.R_drewN | apply Kd.R_drew)); exact HO319.out))) (below_size (by repeat (first | (with_reducible first | exact HB.out | apply below_alloc | apply pw_below_drewN | apply below_drew1) | exact HB.out)))); have n9_ := Aside0.mk (below_step (by repeat (first | (with_reducible first | exact HB.out | apply below_alloc | apply pw_below_drewN | apply below_drew1) | exact HB.out)) hb); clear HO291; clear HO295; clear HO299; clear HO302; clear HO305; clear HO312; clear HO315; clear HO319; clear HB; have HO291 := n0_; have HO295 := n1_; have HO299 := n2_; have HO302 := n3_; have HO305 := n4_; have HO312 := n5_; have HO315 := n6_; have HO319 := n7_; have HO322 := n8_; have HB := n9_; clear n0_ n1_ n2_ n3_ n4_ n5_ n6_ n7_ n8_ n9_; (try clear hb); (try clear hb2); (try clear hk); (try clear hi); (try clear ho0); obtain ⟨Ao53, co53, eo53⟩ := Kd.R_slice HO319.out; subst eo53; obtain ⟨Ao54, co54, eo54⟩ := Kd.R_slice HO322.out; subst eo54) | (go_at_call 10; (with_reducible refine (ductusref01_Ints.calls kj5 _ _ t317 _ _ t320 true _ ?side1 ?side2 ?side3 ?side4 A30.out).mono ?_); (case side1 => repeat (first | exact (Kd.R_reads' HO319.out).2.2 | (with_reducible refine Kd.C_alloc ?_ _) | (with_reducible refine Kd.C_drewN ?_ _) | (with_reducible refine Kd.C_drew ?_))); (case side2 => exact (Kd.R_reads' HO319.out).2.1); (case side3 => repeat (first | exact (Kd.R_reads' HO322.out).2.2 | (with_reducible refine Kd.C_alloc ?_ _) | (with_reducible refine Kd.C_drewN ?_ _) | (with_reducible refine Kd.C_drew ?_))); (case side4 => exact (Kd.R_reads' HO322.out).2.1); rintro e w' ⟨rfl, ⟨nd, rfl⟩⟩) | (go_at_call 10; (with_reducible refine (ductusref01_Ints.calls kj5 _ _ y289 _ _ l0 t324 _ ?side1 ?side2 ?side3 ?side4 A32.out).mono ?_); (case side1 => repeat (first | exact (Kd.R_reads' HO291.out).2.2 | (with_reducible refine Kd.C_alloc ?_ _) | (with_reducible refine Kd.C_drewN ?_ _) | (with_reducible refine Kd.C_drew ?_))); (case side2 => exact (Kd.R_reads' HO291.out).2.1); (case side3 => repeat (first | exact (Kd.C_below HR0.out (by repeat (first | (with_reducible first | exact HB.out | apply below_alloc | apply pw_below_drewN | apply below_drew1) | exact HB.out))) | (with_reducible refine Kd.C_alloc ?_ _) | (with_reducible refine Kd.C_drewN ?_ _) | (with_reducible refine Kd.C_drew ?_))); (case side4 => exact HC0.out); rintro e w' ⟨rfl, ⟨nd, rfl⟩⟩))
      go_ret
      exact ⟨by first | rfl | (simp [errW_none, errW_some] <;> rfl) | (simp [*, errW_none, errW_some] <;> rfl), by repeat (first | (with_reducible first | exact HB.out | apply below_alloc | apply pw_below_drewN | apply below_drew1) | exact HB.out)⟩

/-- THE ONE PURE STATEMENT of ductuslaw14_OrderAnswers: yours. -/
def ductuslaw14_OrderAnswers.Pure : Prop := ∀ (l0 : List Int) (l1 : List Int) (l2 : List Bool), l0.length ≤ maxLen → l0.length * 8 ≤ 140737488351232 → (∀ x ∈ l0, (Lit.int .i64 x).wf = true) → l1.length ≤ maxLen → l1.length * 8 ≤ 140737488351232 → (∀ x ∈ l1, (Lit.int .i64 x).wf = true) → l2.length ≤ maxLen → l2.length * 1 ≤ 140737488351232 → ∃ k, ductuslaw14_OrderAnswers.f k l0 l1 l2 = some true
theorem ductuslaw14_OrderAnswers.walk (P : ductuslaw14_OrderAnswers.Pure) (a0 : Option Addr) (len0 cap0 : Nat) (z0 : List Int) (a1 : Option Addr) (len1 cap1 : Nat) (z1 : List Int) (a2 : Option Addr) (cap2 : Nat) (l2 : List Bool) (w : World) (w0 : (a0 = none ∧ len0 = 0 ∧ cap0 = 0 ∧ z0 = []) ∨ ∃ x, a0 = some x ∧ len0 ≤ cap0 ∧ cap0 ≤ maxLen ∧ z0.length = cap0 ∧ (∀ i, i < z0.length → w.cell? (x.add i) = some (.int .i64 (z0.getD i 0))) ∧ ∀ n ∈ z0, (Lit.int .i64 n).wf = true) (y0 : len0 * 8 ≤ 140737488351232) (w1 : (a1 = none ∧ len1 = 0 ∧ cap1 = 0 ∧ z1 = []) ∨ ∃ x, a1 = some x ∧ len1 ≤ cap1 ∧ cap1 ≤ maxLen ∧ z1.length = cap1 ∧ (∀ i, i < z1.length → w.cell? (x.add i) = some (.int .i64 (z1.getD i 0))) ∧ ∀ n ∈ z1, (Lit.int .i64 n).wf = true) (y1 : len1 * 8 ≤ 140737488351232) (hr2 : Kd.bool.C w a2 l2.length l2) (hc2 : l2.length ≤ cap2) (hm2 : l2.length ≤ maxLen) (y2 : l2.length * 1 ≤ 140737488351232) :
    Calls Try.prog 3 #[.slice a0 len0 cap0, .slice a1 len1 cap1, .slice a2 l2.length cap2] w fun e w' => e = .returned (.bool true) ∧ Below w.heap.size w w' := by
  obtain ⟨l0, rfl, hr0, hm0, hw0, hc0⟩ := ReadsInt.ofRowC w0
  obtain ⟨l1, rfl, hr1, hm1, hw1, hc1⟩ := ReadsInt.ofRowC w1
  obtain ⟨k, h⟩ := P l0 l1 l2 hm0 y0 hw0 hm1 y1 hw1 hm2 y2
  refine (ductuslaw14_OrderAnswers.calls k _ _ l0 _ _ l1 _ _ l2 true w (Kd.C_of_reads (d := (0 : Int)) (h1 := fun _ => rfl) hr0) hc0 (Kd.C_of_reads (d := (0 : Int)) (h1 := fun _ => rfl) hr1) hc1 hr2 hc2 h).mono ?_
  rintro e w' ⟨rfl, hd⟩
  exact ⟨rfl, hd⟩

end Go.Proofs.Ytcmcajjdcbkfkaa.P
