/- Texts of this claim put together by a program of its own (Px9, SWith, Px11, SDReach, SDAgain, SDEnds), what the law does not use left out: each part's statements bear their own conditions. -/
import Derived.Test.YtaphbechnjmlgaaC12
import Derived.Test.YtaphbechnjmlgaaC15
import Derived.Test.YtaphbechnjmlgaaC13
namespace Go.Proofs.Ytaphbechnjmlgaa.P
open Go.RowKit Go.Proofs.YtaphbechnjmlgaaW.PrintWords Go.Proofs.YtaphbechnjmlgaaW.PrintLast Go.Proofs.YtaphbechnjmlgaaW.PrintMore
attribute [local go_sem] max2_int min2_int max_two min_two
set_option linter.unusedVariables false
set_option linter.unusedSimpArgs false

-- BY HAND: function 13 (deriv_Step)

def cmp_isNaN_int.f (a0 : Int) : Option (Bool) := some (a0 != a0)
set_option maxHeartbeats 8000000 in
set_option maxRecDepth 100000 in
theorem cmp_isNaN_int.calls (a0 : Int) (r : Bool) (w : World) (h : cmp_isNaN_int.f a0 = some r) :
    Calls Try.prog 60 #[.int .i64 a0] w fun e w' => e = .returned (.bool r) ∧ Drawn0 w w' := by
  have H : (some (a0 != a0)) = some r := h
  clear h
  obtain rfl := Option.some.inj H
  go_enter Try.func60, Try.ntmps60
  go_wp2
  go_ret
  exact ⟨by first | rfl | (simp; done) | (simp [*]; done), by repeat (first | exact Drawn0.refl _ | apply Drawn0.step)⟩

def cmp_Less_int.f (a0 : Int) (a1 : Int) : Option (Bool) := (cmp_isNaN_int.f a0).bind fun t157 => (if t157 = true then ((cmp_isNaN_int.f a1).bind fun t158 => (if t158 = true then (some (decide (a0 < a1))) else (some true))) else (some (decide (a0 < a1))))
set_option maxHeartbeats 8000000 in
set_option maxRecDepth 100000 in
theorem cmp_Less_int.calls (a0 : Int) (a1 : Int) (r : Bool) (w : World) (h : cmp_Less_int.f a0 a1 = some r) :
    Calls Try.prog 56 #[.int .i64 a0, .int .i64 a1] w fun e w' => e = .returned (.bool r) ∧ Drawn0 w w' := by
  have H : ((cmp_isNaN_int.f a0).bind fun t157 => (if t157 = true then ((cmp_isNaN_int.f a1).bind fun t158 => (if t158 = true then (some (decide (a0 < a1))) else (some true))) else (some (decide (a0 < a1))))) = some r := h
  clear h
  replace H := Option.bind_eq_some_iff.mp H
  obtain ⟨t157, A30, H⟩ := H
  replace H : (if t157 = true then ((cmp_isNaN_int.f a1).bind fun t158 => (if t158 = true then (some (decide (a0 < a1))) else (some true))) else (some (decide (a0 < a1)))) = some r := H
  have A3 := Aside0.mk A30
  clear A30
  by_cases c4 : t157 = true
  rotate_left
  · replace c4 := Bool.eq_false_iff.mpr c4
    subst c4
    have H1 : (some (decide (a0 < a1))) = some r := by rw [if_neg (show ¬ (false = true) by decide)] at H; exact H
    clear H
    have H := H1
    clear H1
    obtain rfl := Option.some.inj H
    go_enter Try.func56, Try.ntmps56
    go_wp2_with (first | ((with_reducible refine gate_callee (f := 60) rfl ?_); refine goesL_ (some 6) rfl rfl Try.func60 (by kernel_rfl) rfl #[.int .i64 a0] rfl (by (try simp only [List.map_toArray, List.map_cons, List.map_nil]); first | done | rfl | (simp only [List.length_drop, List.length_take]; rfl)) ?_; (with_reducible refine (cmp_isNaN_int.calls a0 false _ A3.out).mono ?_); rintro e w' ⟨rfl, ⟨nd, rfl⟩⟩; refine ⟨_, rfl, ?_⟩))
    go_ret
    exact ⟨by first | rfl | (simp; done) | (simp [*]; done), by repeat (first | exact Drawn0.refl _ | apply Drawn0.step)⟩
  subst c4
  have H1 : ((cmp_isNaN_int.f a1).bind fun t158 => (if t158 = true then (some (decide (a0 < a1))) else (some true))) = some r := by rw [if_pos rfl] at H; exact H
  clear H
  have H := H1
  clear H1
  replace H := Option.bind_eq_some_iff.mp H
  obtain ⟨t158, A50, H⟩ := H
  replace H : (if t158 = true then (some (decide (a0 < a1))) else (some true)) = some r := H
  have A5 := Aside0.mk A50
  clear A50
  by_cases c6 : t158 = true
  · subst c6
    have H1 : (some (decide (a0 < a1))) = some r := by rw [if_pos rfl] at H; exact H
    clear H
    have H := H1
    clear H1
    obtain rfl := Option.some.inj H
    go_enter Try.func56, Try.ntmps56
    go_wp2_with (first | ((with_reducible refine gate_callee (f := 60) rfl ?_); refine goesL_ (some 6) rfl rfl Try.func60 (by kernel_rfl) rfl #[.int .i64 a0] rfl (by (try simp only [List.map_toArray, List.map_cons, List.map_nil]); first | done | rfl | (simp only [List.length_drop, List.length_take]; rfl)) ?_; (with_reducible refine (cmp_isNaN_int.calls a0 true _ A3.out).mono ?_); rintro e w' ⟨rfl, ⟨nd, rfl⟩⟩; refine ⟨_, rfl, ?_⟩) | (go_at_call 60; (with_reducible refine (cmp_isNaN_int.calls a1 true _ A5.out).mono ?_); rintro e w' ⟨rfl, ⟨nd, rfl⟩⟩))
    go_ret
    exact ⟨by first | rfl | (simp; done) | (simp [*]; done), by repeat (first | exact Drawn0.refl _ | apply Drawn0.step)⟩
  replace c6 := Bool.eq_false_iff.mpr c6
  subst c6
  have H1 : (some true) = some r := by rw [if_neg (show ¬ (false = true) by decide)] at H; exact H
  clear H
  have H := H1
  clear H1
  obtain rfl := Option.some.inj H
  go_enter Try.func56, Try.ntmps56
  go_wp2_with (first | ((with_reducible refine gate_callee (f := 60) rfl ?_); refine goesL_ (some 6) rfl rfl Try.func60 (by kernel_rfl) rfl #[.int .i64 a0] rfl (by (try simp only [List.map_toArray, List.map_cons, List.map_nil]); first | done | rfl | (simp only [List.length_drop, List.length_take]; rfl)) ?_; (with_reducible refine (cmp_isNaN_int.calls a0 true _ A3.out).mono ?_); rintro e w' ⟨rfl, ⟨nd, rfl⟩⟩; refine ⟨_, rfl, ?_⟩) | (go_at_call 60; (with_reducible refine (cmp_isNaN_int.calls a1 false _ A5.out).mono ?_); rintro e w' ⟨rfl, ⟨nd, rfl⟩⟩))
  go_ret
  exact ⟨by first | rfl | (simp; done) | (simp [*]; done), by repeat (first | exact Drawn0.refl _ | apply Drawn0.step)⟩

def slices_isNaN_int.f (a0 : Int) : Option (Bool) := some (a0 != a0)
set_option maxHeartbeats 8000000 in
set_option maxRecDepth 100000 in
theorem slices_isNaN_int.calls (a0 : Int) (r : Bool) (w : World) (h : slices_isNaN_int.f a0 = some r) :
    Calls Try.prog 57 #[.int .i64 a0] w fun e w' => e = .returned (.bool r) ∧ Drawn0 w w' := by
  have H : (some (a0 != a0)) = some r := h
  clear h
  obtain rfl := Option.some.inj H
  go_enter Try.func57, Try.ntmps57
  go_wp2
  go_ret
  exact ⟨by first | rfl | (simp; done) | (simp [*]; done), by repeat (first | exact Drawn0.refl _ | apply Drawn0.step)⟩

def slices_BinarySearch_deriv_set_int.l0 : Nat → List Int → Int → Int → Int → Int → Option (Int × Bool)
  | 0, _, _, _, _, _ => none
  | k + 1, x0, x1, x6, x7, x8 => if x7 < x8 then (if 0 ≤ (wrap64 ((IntKind.u64.wrap (wrap64 (x7 + x8))) / 2)) then (if (wrap64 ((IntKind.u64.wrap (wrap64 (x7 + x8))) / 2)) < (x0.length : Int) then ((cmp_Less_int.f (rd x0 (wrap64 ((IntKind.u64.wrap (wrap64 (x7 + x8))) / 2))) x1).bind fun t160 => (if t160 = true then (slices_BinarySearch_deriv_set_int.l0 k x0 x1 x6 (wrap64 ((wrap64 ((IntKind.u64.wrap (wrap64 (x7 + x8))) / 2)) + 1)) x8) else (slices_BinarySearch_deriv_set_int.l0 k x0 x1 x6 x7 (wrap64 ((IntKind.u64.wrap (wrap64 (x7 + x8))) / 2))))) else (none)) else (none)) else (if x7 < x6 then (if 0 ≤ x7 then (if x7 < (x0.length : Int) then (if (rd x0 x7) = x1 then (some (x7, true)) else ((slices_isNaN_int.f (rd x0 x7)).bind fun t163 => (if t163 = true then ((slices_isNaN_int.f x1).bind fun t164 => (some (x7, t164))) else (some (x7, false))))) else (none)) else (none)) else (some (x7, false)))
def slices_BinarySearch_deriv_set_int.f (k : Nat) (l0 : List Int) (a1 : Int) : Option (Int × Bool) := slices_BinarySearch_deriv_set_int.l0 k l0 a1 (l0.length : Int) 0 (l0.length : Int)
set_option maxHeartbeats 8000000 in
set_option maxRecDepth 100000 in
theorem slices_BinarySearch_deriv_set_int.calls (k : Nat) (A0 : Option Addr) (c0 : Nat) (l0 : List Int) (a1 : Int) (r1 : Int) (r2 : Bool) (w : World) (hr0 : Kd.C (Kd.int .i64) w A0 l0.length l0) (hc0 : l0.length ≤ c0) (h : slices_BinarySearch_deriv_set_int.f k l0 a1 = some (r1, r2)) :
    Calls Try.prog 49 #[.slice A0 l0.length c0, .int .i64 a1] w fun e w' => e = .returned (.tuple #[.int .i64 r1, .bool r2]) ∧ Drawn0 w w' := by
  have HR0 := Aside0.mk hr0
  have HC0 := Aside0.mk hc0
  clear hr0 hc0
  have H : (slices_BinarySearch_deriv_set_int.l0 k l0 a1 (l0.length : Int) 0 (l0.length : Int)) = some (r1, r2) := h
  clear h
  have H' := Aside0.mk H
  clear H
  go_enter Try.func49, Try.ntmps49
  go_wp2
  go_loopg [7, 8] k (fun kq v7 v8 w' => ∃ (x7_1 : Int) (x8_1 : Int), v7 = .int .i64 x7_1 ∧ v8 = .int .i64 x8_1 ∧ Aside0 (slices_BinarySearch_deriv_set_int.l0 kq l0 a1 (l0.length : Int) x7_1 x8_1 = some (r1, r2)) ∧ Aside0 (kq ≤ k) ∧ Drawn0 w w')
  case atStart => exact ⟨(0), ((l0.length : Int)), (by first | rfl | (simp; done) | (simp [*]; done)), (by first | rfl | (simp; done) | (simp [*]; done)), H', ⟨Nat.le_refl _⟩, by repeat (first | exact Drawn0.refl _ | apply Drawn0.step)⟩
  case round =>
    clear H'
    try clear p2
    obtain ⟨x7_1, x8_1, rfl, rfl, HA, HK1, ⟨m1, rfl⟩⟩ := hrel
    cases gk with
    | zero => exact absurd HA.out (by simp [slices_BinarySearch_deriv_set_int.l0])
    | succ k1 =>
      have H := HA.out
      clear HA
      simp only [slices_BinarySearch_deriv_set_int.l0] at H
      by_cases c3 : x7_1 < x8_1
      · rw [if_pos c3] at H
        have c3b0 : decide (x7_1 < x8_1) = true := decide_eq_true c3
        clear c3
        obtain ⟨ji4, hji4⟩ : ∃ j_ : Int, (wrap64 ((IntKind.u64.wrap (wrap64 (x7_1 + x8_1))) / 2)) = j_ := ⟨_, rfl⟩
        replace H : (if 0 ≤ (ji4) then (if (ji4) < (l0.length : Int) then ((cmp_Less_int.f (rd l0 (ji4)) a1).bind fun t160 => (if t160 = true then (slices_BinarySearch_deriv_set_int.l0 k1 l0 a1 (l0.length : Int) (wrap64 ((ji4) + 1)) x8_1) else (slices_BinarySearch_deriv_set_int.l0 k1 l0 a1 (l0.length : Int) x7_1 ji4))) else (none)) else (none)) = some (r1, r2) := by first | (rw [hji4] at H; exact H) | (simp only [hji4] at H ⊢; exact H)
        have hji4w : (IntKind.i64.wrap ((IntKind.u64.wrap (wrap64 (x7_1 + x8_1))) / 2)) = ji4 := (i64_w _).trans hji4
        by_cases c5 : 0 ≤ (ji4)
        rotate_left
        · rw [if_neg c5] at H
          exact absurd H (by simp)
        rw [if_pos c5] at H
        have c5b0 : decide (0 ≤ (ji4)) = true := decide_eq_true c5
        clear c5
        by_cases c6 : (ji4) < (l0.length : Int)
        rotate_left
        · rw [if_neg c6] at H
          exact absurd H (by simp)
        rw [if_pos c6] at H
        have c6b0 : decide ((ji4) < (l0.length : Int)) = true := decide_eq_true c6
        clear c6
        replace H := Option.bind_eq_some_iff.mp H
        obtain ⟨t160, A70, H⟩ := H
        replace H : (if t160 = true then (slices_BinarySearch_deriv_set_int.l0 k1 l0 a1 (l0.length : Int) (wrap64 ((ji4) + 1)) x8_1) else (slices_BinarySearch_deriv_set_int.l0 k1 l0 a1 (l0.length : Int) x7_1 ji4)) = some (r1, r2) := H
        have A7 := Aside0.mk A70
        clear A70
        by_cases c8 : t160 = true
        · subst c8
          have H1 : (slices_BinarySearch_deriv_set_int.l0 k1 l0 a1 (l0.length : Int) (wrap64 ((ji4) + 1)) x8_1) = some (r1, r2) := by rw [if_pos rfl] at H; exact H
          clear H
          have H := H1
          clear H1
          have H' := Aside0.mk H
          clear H
          have p159 : 0 ≤ ((ji4) : Int) := of_decide_eq_true (by first | (with_reducible assumption) | assumption)
          have q159 : (ji4) < (l0.length : Int) := of_decide_eq_true (by first | (with_reducible assumption) | assumption)
          obtain ⟨ad159, e159, hx159_0⟩ := Kd.at_int HR0.out (ji4) p159 q159
          cases e159
          replace p159 := eq_true p159
          replace q159 := eq_true q159
          go_wp2_with (first | ((with_reducible refine gate_callee (f := 56) rfl ?_); refine goesL_ (some 27) rfl rfl Try.func56 (by kernel_rfl) rfl #[.int .i64 (rd l0 (ji4)), .int .i64 a1] rfl (by (try simp only [List.map_toArray, List.map_cons, List.map_nil]); first | done | (simp only [hji4]; rfl) | rfl | (simp only [List.length_drop, List.length_take]; rfl)) ?_; (with_reducible refine (cmp_Less_int.calls (rd l0 (ji4)) a1 true _ A7.out).mono ?_); rintro e w' ⟨rfl, ⟨nd, rfl⟩⟩; refine ⟨_, rfl, ?_⟩))
          go_roundg k1
          case measure => have := HK1.out; omega
          case rel => exact ⟨(wrap64 ((ji4) + 1)), (x8_1), (by first | rfl | (simp; done) | (simp only [← hji4] <;> (first | rfl | simp)) | (simp [*]; done)), (by first | rfl | (simp; done) | (simp [*]; done)), H', ⟨by have := HK1.out; omega⟩, by repeat (first | exact Drawn0.refl _ | apply Drawn0.step)⟩
        replace c8 := Bool.eq_false_iff.mpr c8
        subst c8
        have H1 : (slices_BinarySearch_deriv_set_int.l0 k1 l0 a1 (l0.length : Int) x7_1 ji4) = some (r1, r2) := by rw [if_neg (show ¬ (false = true) by decide)] at H; exact H
        clear H
        have H := H1
        clear H1
        have H' := Aside0.mk H
        clear H
        have p159 : 0 ≤ ((ji4) : Int) := of_decide_eq_true (by first | (with_reducible assumption) | assumption)
        have q159 : (ji4) < (l0.length : Int) := of_decide_eq_true (by first | (with_reducible assumption) | assumption)
        obtain ⟨ad159, e159, hx159_0⟩ := Kd.at_int HR0.out (ji4) p159 q159
        cases e159
        replace p159 := eq_true p159
        replace q159 := eq_true q159
        go_wp2_with (first | ((with_reducible refine gate_callee (f := 56) rfl ?_); refine goesL_ (some 27) rfl rfl Try.func56 (by kernel_rfl) rfl #[.int .i64 (rd l0 (ji4)), .int .i64 a1] rfl (by (try simp only [List.map_toArray, List.map_cons, List.map_nil]); first | done | (simp only [hji4]; rfl) | rfl | (simp only [List.length_drop, List.length_take]; rfl)) ?_; (with_reducible refine (cmp_Less_int.calls (rd l0 (ji4)) a1 false _ A7.out).mono ?_); rintro e w' ⟨rfl, ⟨nd, rfl⟩⟩; refine ⟨_, rfl, ?_⟩))
        go_roundg k1
        case measure => have := HK1.out; omega
        case rel => exact ⟨(x7_1), (ji4), (by first | rfl | (simp; done) | (simp [*]; done)), (by first | rfl | (simp; done) | (simp only [← hji4] <;> (first | rfl | simp)) | (simp [*]; done)), H', ⟨by have := HK1.out; omega⟩, by repeat (first | exact Drawn0.refl _ | apply Drawn0.step)⟩
      rw [if_neg c3] at H
      have c3b0 : decide (x7_1 < x8_1) = false := decide_eq_false c3
      clear c3
      by_cases c9 : x7_1 < (l0.length : Int)
      rotate_left
      · rw [if_neg c9] at H
        have c9b0 : decide (x7_1 < (l0.length : Int)) = false := decide_eq_false c9
        clear c9
        simp only [Option.some.injEq, Prod.mk.injEq] at H
        obtain ⟨rfl, rfl⟩ := H
        go_wp2
        go_ret2
        exact ⟨by first | rfl | (simp; done) | (simp [*]; done), by repeat (first | exact Drawn0.refl _ | apply Drawn0.step)⟩
      rw [if_pos c9] at H
      have c9b0 : decide (x7_1 < (l0.length : Int)) = true := decide_eq_true c9
      clear c9
      by_cases c10 : 0 ≤ x7_1
      rotate_left
      · rw [if_neg c10] at H
        exact absurd H (by simp)
      rw [if_pos c10] at H
      have c10b0 : decide (0 ≤ x7_1) = true := decide_eq_true c10
      clear c10
      by_cases c11 : x7_1 < (l0.length : Int)
      rotate_left
      · rw [if_neg c11] at H
        exact absurd H (by simp)
      rw [if_pos c11] at H
      have c11b0 : decide (x7_1 < (l0.length : Int)) = true := decide_eq_true c11
      clear c11
      by_cases c12 : (rd l0 x7_1) = a1
      · rw [if_pos c12] at H
        have c12b0 : ((rd l0 x7_1) == a1) = true := beq_iff_eq.mpr c12
        have c12b1 : ((rd l0 x7_1) != a1) = false := bne_eq_false_iff_eq.mpr c12
        clear c12
        simp only [Option.some.injEq, Prod.mk.injEq] at H
        obtain ⟨rfl, rfl⟩ := H
        have p161 : 0 ≤ (x7_1 : Int) := of_decide_eq_true (by first | (with_reducible assumption) | assumption)
        have q161 : x7_1 < (l0.length : Int) := of_decide_eq_true (by first | (with_reducible assumption) | assumption)
        obtain ⟨ad161, e161, hx161_0⟩ := Kd.at_int HR0.out x7_1 p161 q161
        cases e161
        replace p161 := eq_true p161
        replace q161 := eq_true q161
        go_wp2
        go_ret2
        exact ⟨by first | rfl | (simp; done) | (simp [*]; done), by repeat (first | exact Drawn0.refl _ | apply Drawn0.step)⟩
      rw [if_neg c12] at H
      have c12b0 : ((rd l0 x7_1) == a1) = false := beq_eq_false_iff_ne.mpr c12
      have c12b1 : ((rd l0 x7_1) != a1) = true := bne_iff_ne.mpr c12
      replace H := Option.bind_eq_some_iff.mp H
      obtain ⟨t163, A130, H⟩ := H
      replace H : (if t163 = true then ((slices_isNaN_int.f a1).bind fun t164 => (some (x7_1, t164))) else (some (x7_1, false))) = some (r1, r2) := H
      have A13 := Aside0.mk A130
      clear A130
      by_cases c14 : t163 = true
      rotate_left
      · replace c14 := Bool.eq_false_iff.mpr c14
        subst c14
        have H1 : (some (x7_1, false)) = some (r1, r2) := by rw [if_neg (show ¬ (false = true) by decide)] at H; exact H
        clear H
        have H := H1
        clear H1
        simp only [Option.some.injEq, Prod.mk.injEq] at H
        obtain ⟨rfl, rfl⟩ := H
        have p161 : 0 ≤ (x7_1 : Int) := of_decide_eq_true (by first | (with_reducible assumption) | assumption)
        have q161 : x7_1 < (l0.length : Int) := of_decide_eq_true (by first | (with_reducible assumption) | assumption)
        obtain ⟨ad161, e161, hx161_0⟩ := Kd.at_int HR0.out x7_1 p161 q161
        cases e161
        replace p161 := eq_true p161
        replace q161 := eq_true q161
        have p162 : 0 ≤ (x7_1 : Int) := of_decide_eq_true (by first | (with_reducible assumption) | assumption)
        have q162 : x7_1 < (l0.length : Int) := of_decide_eq_true (by first | (with_reducible assumption) | assumption)
        obtain ⟨ad162, e162, hx162_0⟩ := Kd.at_int HR0.out x7_1 p162 q162
        obtain rfl : ad161 = ad162 := (by injection e162)
        replace p162 := eq_true p162
        replace q162 := eq_true q162
        go_wp2_with (first | (go_at_call 57; (with_reducible refine (slices_isNaN_int.calls (rd l0 x7_1) false _ A13.out).mono ?_); rintro e w' ⟨rfl, ⟨nd, rfl⟩⟩))
        go_ret2
        exact ⟨by first | rfl | (simp; done) | (simp [*]; done), by repeat (first | exact Drawn0.refl _ | apply Drawn0.step)⟩
      subst c14
      have H1 : ((slices_isNaN_int.f a1).bind fun t164 => (some (x7_1, t164))) = some (r1, r2) := by rw [if_pos rfl] at H; exact H
      clear H
      have H := H1
      clear H1
      replace H := Option.bind_eq_some_iff.mp H
      obtain ⟨t164, A150, H⟩ := H
      replace H : (some (x7_1, t164)) = some (r1, r2) := H
      have A15 := Aside0.mk A150
      clear A150
      simp only [Option.some.injEq, Prod.mk.injEq] at H
      obtain ⟨rfl, rfl⟩ := H
      have p161 : 0 ≤ (x7_1 : Int) := of_decide_eq_true (by first | (with_reducible assumption) | assumption)
      have q161 : x7_1 < (l0.length : Int) := of_decide_eq_true (by first | (with_reducible assumption) | assumption)
      obtain ⟨ad161, e161, hx161_0⟩ := Kd.at_int HR0.out x7_1 p161 q161
      cases e161
      replace p161 := eq_true p161
      replace q161 := eq_true q161
      have p162 : 0 ≤ (x7_1 : Int) := of_decide_eq_true (by first | (with_reducible assumption) | assumption)
      have q162 : x7_1 < (l0.length : Int) := of_decide_eq_true (by first | (with_reducible assumption) | assumption)
      obtain ⟨ad162, e162, hx162_0⟩ := Kd.at_int HR0.out x7_1 p162 q162
      obtain rfl : ad161 = ad162 := (by injection e162)
      replace p162 := eq_true p162
      replace q162 := eq_true q162
      go_wp2_with (first | (go_at_call 57; (with_reducible refine (slices_isNaN_int.calls (rd l0 x7_1) true _ A13.out).mono ?_); rintro e w' ⟨rfl, ⟨nd, rfl⟩⟩) | (go_at_call 57; (with_reducible refine (slices_isNaN_int.calls a1 t164 _ A15.out).mono ?_); rintro e w' ⟨rfl, ⟨nd, rfl⟩⟩))
      go_ret2
      exact ⟨by first | rfl | (simp; done) | (simp [*]; done), by repeat (first | exact Drawn0.refl _ | apply Drawn0.step)⟩

-- NOT PRINTED: function 58 (slices_overlaps_int)

end Go.Proofs.Ytaphbechnjmlgaa.P
namespace Go.Proofs.Ytaphbechnjmlgaa.P
open Go.RowKit Go.Shelf Go.Lib Go.Proofs.YtaphbechnjmlgaaW.PrintWords Go.Proofs.YtaphbechnjmlgaaW.PrintLast
set_option linter.unusedVariables false
set_option linter.unusedSimpArgs false

set_option maxHeartbeats 4000000 in
set_option maxRecDepth 100000 in
theorem set_clone (A0 : Option Addr) (c0 : Nat) (l0 : List Int) (w : World) (hr0 : Kd.C (Kd.int .i64) w A0 l0.length l0) (hc0 : l0.length ≤ c0) (hl : l0.length < 17592186044416) :
    Calls Try.prog 51 #[.slice A0 l0.length c0] w fun e w' => ∃ v0_ : Value, e = .returned (v0_) ∧ Kd.R (Kd.int .i64) 3 w' w.heap.size (fun _ => True) v0_ l0 ∧ Below w.heap.size w w' := by
  have HL := Aside0.mk hl
  clear hl
  have HR0 := Aside0.mk hr0
  have HC0 := Aside0.mk hc0
  clear hr0 hc0
  have qT : ∀ (W : World) (a : Option Addr) (n c n' c' : Nat), (binOp .eql 48 (.slice a n c) (.slice none n' c')).run Try.prog W = .ok (.bool a.isNone) W := fun W a n c n' c' => Lib.run_eql_slice_nil W _ _ a n c n' c' Try.underlying48
  have HB := Aside0.mk (Below.refl w.heap.size w)
  cases A0 with
  | none =>
    have h0 : l0 = [] := by
      rcases Nat.eq_zero_or_pos l0.length with h0 | h0
      · exact List.eq_nil_of_length_eq_zero h0
      · have h1 := Kd.C_get HR0.out (0 : Int) 0 (by omega) (by omega)
        obtain ⟨ad, c, e, _⟩ := h1
        cases e
    subst h0
    go_enter Try.func51, Try.ntmps51
    go_wp2
    go_ret
    exact ⟨_, rfl, Kd.R_nil _ _ _ _ _, HB.out⟩
  | some ad =>
    go_enter Try.func51, Try.ntmps51
    go_wp2_with (first
      | ((with_reducible refine gate_dst (N := 5) rfl ?_); refine Kd.R_lit (Kd.int .i64) _ 3 ?hg (N := 5) ?hd (xs := ([] : List Int)) (inner := []) (ok := fun _ => True) (okp := fun _ => True) ?hr ?hp (fun _ hk => hk) trivial (Below.refl _ _) (Nat.le_refl _) (by simp) ?_; (case hd => rfl); (case hg => rfl); (case hr => first | (go_simp; done) | (go_simp; rfl)); (case hp => exact (Reps.none _ _)); intro v254 w32 ho33 hb hg_ hnew_; clear hg_ hnew_; have HO := Aside0.mk ho33; have n6_ := Aside0.mk (below_step (by exact HB.out) hb); clear HB; have HB := n6_; clear n6_; clear hb ho33)
      | ((with_reducible refine gate_builtin (b := .append) (xs := #[.tmp 5, .tmp 6]) rfl ?_); at_builtin; refine Kd.R_append_rows (Kd.int .i64) (w0 := w) w.heap.size rfl (.tmp 5) (.tmp 6) 48 3 (.int .i64 0) 8 rfl Try.underlying48 iinfo rfl (by decide) (by omega) v254 ([] : List Int) l0 _ _ _ (fun k_ => True) (fun _ => False) rfl rfl ?aO ?aR (fun _ _ h => h) (fun _ h => h.elim) ?aF ?aB ?aS ?aL ?_; (case aR => exact (Kd.C_below HR0.out HB.out)); (case aB => exact HB.out); (case aF => exact (fun k_ hk => trivial)); (case aO => exact Kd.R_lower (Kd.R_mono HO.out (fun _ _ => trivial)) (Nat.le_refl _)); (case aS => exact (below_size HB.out)); (case aL => have := HL.out; simp; omega); intro v257 w34 ho hb hg hat; have HO2 := Aside0.mk ho; clear HB; have HB := Aside0.mk hb; clear ho hb hg hat))
    go_ret
    exact ⟨_, rfl, by simpa using HO2.out, HB.out⟩
/-- A set: a row of places. -/
abbrev SetR (w : World) (B : Nat) (xs : List Int) (v : Value) : Prop := Kd.R (Kd.int .i64) 3 w B (fun _ => True) v xs
theorem below_setCells {w W : World} {g : Nat} (h : Below w.heap.size w W) (hg : w.heap.size ≤ g) (o : Nat) (vs : List Value) : Below w.heap.size w (W.setCells g o vs) := by
  obtain ⟨s1, s2, s3, s4⟩ := setCells_same g vs o W
  exact ⟨s1.trans h.os, s2.trans h.tape, s3.trans h.output, by rw [s4]; exact h.size, fun k hk => (setCells_far vs o k (by omega)).trans (h.block k hk)⟩
theorem shape_blk {w : World} {g t : Nat} {cs : Array Value} (h : w.heap[g]? = some (.cells cs t (0, 0))) : w.shape? g = some (t, cs.size) := by simp [World.shape?, h]
theorem one_cells (xs : List Int) : ∀ v ∈ encs (Value.int .i64) xs, v.oneCell' = true := by
  intro v hv
  simp only [encs, List.mem_map] at hv
  obtain ⟨q, _, rfl⟩ := hv
  rfl
theorem enc_ins (xs : List Int) (i : Nat) (p : Int) : encs (Value.int .i64) (xs.take i ++ p :: xs.drop i) = (encs (Value.int .i64) xs).take i ++ [.int .i64 p] ++ (encs (Value.int .i64) xs).drop i := by
  simp [encs, List.map_take, List.map_drop]
theorem ins_len (xs : List Int) (i : Nat) (p : Int) (h : i ≤ xs.length) : (xs.take i ++ p :: xs.drop i).length = xs.length + 1 := by
  rw [List.length_append, List.length_cons, List.length_take, List.length_drop]
  omega
/-- A row whose cells are told is the list. -/
theorem setR_of {w : World} {B g cap : Nat} {cur : Array Value} {ys : List Int} (hb : B ≤ g) (hh : w.heap[g]? = some (.cells cur 3 (0, 0))) (hn : ys.length ≤ cap) (hm : cap ≤ 9223372036854775807) (hc : cur.size = cap) (ht : cur.toList.take ys.length = encs (Value.int .i64) ys) : SetR w B ys (.slice (some ⟨g, 0, none⟩) ys.length cap) :=
  Kd.R_of_own ⟨by rw [encs_length, Nat.mul_one], .inr ⟨g, cap, cur, rfl, hb, hh, hn, hm, by rw [hc, Nat.mul_one], by rw [Nat.mul_one]; exact ht⟩⟩ (fun _ _ => trivial)
set_option maxHeartbeats 2000000 in
theorem insert_calls (xs : List Int) (i : Nat) (p : Int) (v : Value) (vb : Nat) (w0 w : World) (hR : SetR w w0.heap.size xs v) (hvb : w.heap[vb]? = some (.cells #[.int .i64 p] 3 (0, 0))) (hne : some vb ≠ v.ownBlock) (hi : i ≤ xs.length) (hl : xs.length < 1099511627776) (HB : Below w0.heap.size w0 w) :
    Calls Try.prog 50 #[v, .int .i64 (i : Int), .slice (some ⟨vb, 0, none⟩) 1 1] w fun e w' => ∃ rv, e = .returned rv ∧ SetR w' w0.heap.size (xs.take i ++ p :: xs.drop i) rv ∧ Below w0.heap.size w0 w' := by
  have hbase := HB.size
  have hown := Kd.own_of_R hR
  have h1p : ∀ u ∈ ([.int .i64 p] : List Value), u.oneCell' = true := by simp [Value.oneCell']
  have hvs : w.cell? ⟨vb, 0, none⟩ = some (.int .i64 p) := by rw [blk_cell hvb]; rfl
  have hzc : ∀ m, (Builtin.zeroCells (Value.int .i64 0).cells m).size = m := fun m => by simp [Builtin.zeroCells, Value.cells]
  have hlen := ins_len xs i p hi
  rcases hown.2 with ⟨hv, hx0⟩ | ⟨g, cap, cur, hv, hb, hh, hnc, hcm, hcs, htake⟩
  · -- nil
    subst hv
    have hx : xs = [] := List.eq_nil_of_length_eq_zero hx0
    subst hx
    obtain rfl : i = 0 := by simpa using hi
    refine (insert_end_grow none 0 0 vb [] (.int .i64 p) w (Nat.le_refl _) (by omega) (by omega) rfl (fun _ => rfl) (fun a h => by cases h) hvs h1p).mono ?_
    rintro e w' ⟨rfl, rfl⟩
    have hG := grownCap_ge w 1 0 3
    have hGm := grownCap_le_maxLen w 1 0 3 (by unfold maxLen; omega)
    unfold maxLen at hGm
    refine ⟨_, rfl, ?_, below_alloc (below_drew HB) _⟩
    exact setR_of (g := w.heap.size) (ys := [p]) hbase (heap_alloc_new w.drew _) hG hGm (by rw [Array.size_append, hzc]; show 1 + (grownCap w 1 0 3 - 1) = grownCap w 1 0 3; omega) (by simp [encs])
  · rw [Nat.mul_one] at hcs htake
    subst hv
    have hcur : ∀ j u, (encs (Value.int .i64) xs)[j]? = some u → w.cell? ⟨g, j, none⟩ = some u := by
      intro j u hu
      rw [blk_cell hh, ← hu, ← htake]
      have hj : j < xs.length := by
        have := (List.getElem?_eq_some_iff.1 hu).1
        rwa [encs_length] at this
      rw [List.getElem?_take, if_pos hj, Array.getElem?_toList]
    have hlc : (encs (Value.int .i64) xs).length = xs.length := encs_length _
    unfold maxLen at hcm
    have hgl := blk_lt hh
    by_cases hroom : xs.length + 1 ≤ cap
    · have hvg : vb ≠ g := fun he => hne (by rw [he]; rfl)
      by_cases hin : i = xs.length
      · subst hin
        refine (insert_end_room g xs.length cap vb (.int .i64 p) w hroom hcm (by rw [blk_cell hh, Array.getElem?_eq_getElem (by omega)]; rfl) (blk_frozen hh _) hvs h1p).mono ?_
        rintro e w' ⟨rfl, rfl⟩
        obtain ⟨cur', q1, q2, q3⟩ := setCells_row [.int .i64 p] xs.length w cur hh (by simp only [List.length_cons, List.length_nil]; omega)
        refine ⟨_, rfl, ?_, below_set HB hb⟩
        have := setR_of (ys := xs.take xs.length ++ p :: xs.drop xs.length) hb q1 (by omega) hcm (by omega) (by
          rw [hlen, enc_ins, q3]
          have e1 : cur.toList.take xs.length = encs (Value.int .i64) xs := htake
          rw [List.take_append_of_le_length (by simp [List.length_take]; omega), e1, List.take_of_length_le (by simp [hlc]), List.take_of_length_le (by rw [hlc]; exact Nat.le_refl _), List.drop_of_length_le (by rw [hlc]; exact Nat.le_refl _), List.append_nil])
        rwa [hlen] at this
      · refine (insert_shift g xs.length cap i vb (encs (Value.int .i64) xs) (.int .i64 p) w (by omega) hroom hcm hvg hlc hcur (fun j hj => by rw [blk_cell hh, Array.getElem?_eq_getElem (by omega)]; rfl) (fun j _ => blk_frozen hh _) (fun j u hu => by
          rcases j with _ | j
          · simp only [List.getElem?_cons_zero, Option.some.injEq] at hu
            subst hu
            exact hvs
          · simp at hu) (one_cells xs) h1p 3 3 1 cur.size (shape_blk hvb) (shape_blk hh) (by omega) (blk_frozen hvb _) (blk_frozen hvb _)).mono ?_
        rintro e w' ⟨rfl, rfl⟩
        have hdl : ((encs (Value.int .i64) xs).drop i).length = xs.length - i := by rw [List.length_drop, hlc]
        obtain ⟨cur', q1, q2, q3⟩ := setCells_row ((encs (Value.int .i64) xs).drop i) (i + 1) w.drew cur (blk_drew hh) (by rw [hdl]; omega)
        obtain ⟨cur2, r1, r2, r3⟩ := setCells_row [.int .i64 p] i (w.drew.setCells g (i + 1) ((encs (Value.int .i64) xs).drop i)) cur' q1 (by simp only [List.length_cons, List.length_nil]; omega)
        refine ⟨_, rfl, ?_, below_setCells (below_setCells (below_drew HB) hb _ _) hb _ _⟩
        have := setR_of (ys := xs.take i ++ p :: xs.drop i) hb r1 (by omega) hcm (by omega) (by
          rw [hlen, enc_ins, r3, q3]
          have hcl : cur.toList.length = cap := by rw [Array.length_toList]; omega
          have e1 : cur.toList.take i = (encs (Value.int .i64) xs).take i := by rw [← htake, List.take_take, Nat.min_eq_left (by omega)]
          have e2 : (cur.toList.take (i + 1) ++ (encs (Value.int .i64) xs).drop i ++ cur.toList.drop (i + 1 + ((encs (Value.int .i64) xs).drop i).length)).take i = (encs (Value.int .i64) xs).take i := by
            rw [List.append_assoc, List.take_append_of_le_length (by rw [List.length_take]; omega), List.take_take, Nat.min_eq_left (by omega), e1]
          have e3 : (cur.toList.take (i + 1) ++ (encs (Value.int .i64) xs).drop i ++ cur.toList.drop (i + 1 + ((encs (Value.int .i64) xs).drop i).length)).drop (i + [Value.int .i64 p].length) = (encs (Value.int .i64) xs).drop i ++ cur.toList.drop (i + 1 + ((encs (Value.int .i64) xs).drop i).length) := by
            rw [List.append_assoc, List.drop_append_of_le_length (by rw [List.length_take]; simp only [List.length_cons, List.length_nil]; omega), List.drop_of_length_le (by rw [List.length_take]; simp only [List.length_cons, List.length_nil]; omega), List.nil_append]
          rw [e2, e3, ← List.append_assoc, List.take_append_of_le_length (by simp only [List.length_append, List.length_take, List.length_cons, List.length_nil, hdl, hlc]; omega), List.take_of_length_le (by simp only [List.length_append, List.length_take, List.length_cons, List.length_nil, hdl, hlc]; omega)])
        rwa [hlen] at this
    · have hG := grownCap_ge w (xs.length + 1) cap 3
      have hGm := grownCap_le_maxLen w (xs.length + 1) cap 3 (by unfold maxLen; omega)
      unfold maxLen at hGm
      by_cases hin : i = xs.length
      · subst hin
        refine (insert_end_grow (some ⟨g, 0, none⟩) xs.length cap vb (encs (Value.int .i64) xs) (.int .i64 p) w hnc (by omega) (by omega) hlc (fun h => by cases h) (fun a ha j u hu => by cases ha; rw [add_plain]; exact hcur j u hu) hvs h1p).mono ?_
        rintro e w' ⟨rfl, rfl⟩
        refine ⟨_, rfl, ?_, below_alloc (below_drew HB) _⟩
        have hsz : ((encs (Value.int .i64) xs ++ [Value.int .i64 p]).toArray ++ Builtin.zeroCells (Value.int .i64 0).cells (grownCap w (xs.length + 1) cap 3 - (xs.length + 1))).size = grownCap w (xs.length + 1) cap 3 := by
          rw [Array.size_append, hzc]
          simp only [List.size_toArray, List.length_append, List.length_cons, List.length_nil, hlc]
          omega
        have htk : ((encs (Value.int .i64) xs ++ [Value.int .i64 p]).toArray ++ Builtin.zeroCells (Value.int .i64 0).cells (grownCap w (xs.length + 1) cap 3 - (xs.length + 1))).toList.take (xs.take xs.length ++ p :: xs.drop xs.length).length = encs (Value.int .i64) (xs.take xs.length ++ p :: xs.drop xs.length) := by
          rw [hlen, enc_ins]
          simp only [Array.toList_append]
          rw [List.take_append_of_le_length (by simp [hlc]), List.take_of_length_le (by simp [hlc]), List.take_of_length_le (by rw [hlc]; exact Nat.le_refl _), List.drop_of_length_le (by rw [hlc]; exact Nat.le_refl _), List.append_nil]
        have := setR_of (ys := xs.take xs.length ++ p :: xs.drop xs.length) (g := w.heap.size) hbase (heap_alloc_new w.drew _) (by rw [hlen]; exact hG) hGm hsz htk
        rwa [hlen] at this
      · refine (insert_grow g xs.length cap i vb (encs (Value.int .i64) xs) (.int .i64 p) w (by omega) hnc (by omega) (by omega) hlc hcur (fun j u hu => by
          rcases j with _ | j
          · simp only [List.getElem?_cons_zero, Option.some.injEq] at hu
            subst hu
            exact hvs
          · simp at hu) (one_cells xs) h1p).mono ?_
        rintro e w' ⟨rfl, rfl⟩
        have hdl : ((encs (Value.int .i64) xs).drop i).length = xs.length - i := by rw [List.length_drop, hlc]
        obtain ⟨ROW, hROW⟩ : ∃ ROW : Array Value, ROW = ((encs (Value.int .i64) xs).take i).toArray ++ Builtin.zeroCells (Value.int .i64 0).cells (xs.length + 1 - i) ++ Builtin.zeroCells (Value.int .i64 0).cells (grownCap w (xs.length + 1) cap 3 - (xs.length + 1)) := ⟨_, rfl⟩
        rw [← hROW]
        have hRs : ROW.size = grownCap w (xs.length + 1) cap 3 := by
          rw [hROW, Array.size_append, Array.size_append, hzc, hzc]
          simp only [List.size_toArray, List.length_take, hlc]
          omega
        have hRt : ROW.toList.take i = (encs (Value.int .i64) xs).take i := by
          rw [hROW]
          simp only [Array.toList_append]
          rw [List.append_assoc, List.take_append_of_le_length (by simp only [List.length_take, hlc]; omega), List.take_of_length_le (by simp only [List.length_take, hlc]; omega)]
        have hnew : ((w.alloc (.cells ROW 3)).drew).heap[w.heap.size]? = some (.cells ROW 3 (0, 0)) := blk_drew (heap_alloc_new w _)
        clear hROW
        obtain ⟨cur', q1, q2, q3⟩ := setCells_row [.int .i64 p] i (w.alloc (.cells ROW 3)).drew ROW hnew (by simp only [List.length_cons, List.length_nil]; omega)
        obtain ⟨cur2, r1, r2, r3⟩ := setCells_row ((encs (Value.int .i64) xs).drop i) (i + 1) ((w.alloc (.cells ROW 3)).drew.setCells w.heap.size i [.int .i64 p]).drew cur' (blk_drew q1) (by rw [hdl]; omega)
        refine ⟨_, rfl, ?_, below_setCells (below_drew (below_setCells (below_drew (below_alloc HB _)) hbase _ _)) hbase _ _⟩
        have := setR_of (ys := xs.take i ++ p :: xs.drop i) hbase r1 (by omega) hGm (by omega) (by
          rw [hlen, enc_ins, r3, q3, hRt]
          have e2 : ((encs (Value.int .i64) xs).take i ++ [Value.int .i64 p] ++ ROW.toList.drop (i + [Value.int .i64 p].length)).take (i + 1) = (encs (Value.int .i64) xs).take i ++ [Value.int .i64 p] := by
            rw [List.take_append_of_le_length (by simp only [List.length_append, List.length_take, List.length_cons, List.length_nil, hlc]; omega), List.take_of_length_le (by simp only [List.length_append, List.length_take, List.length_cons, List.length_nil, hlc]; omega)]
          rw [e2, List.take_append_of_le_length (by simp only [List.length_append, List.length_take, List.length_cons, List.length_nil, hdl, hlc]; omega), List.take_of_length_le (by simp only [List.length_append, List.length_take, List.length_cons, List.length_nil, hdl, hlc]; omega)])
        rwa [hlen] at this
/-- A set, with a place more. -/
def withS (k : Nat) (xs : List Int) (p : Int) : Option (List Int) := (slices_BinarySearch_deriv_set_int.f k xs p).bind fun r => if r.2 = true then some xs else if 0 ≤ r.1 ∧ r.1 ≤ (xs.length : Int) ∧ xs.length < 1099511627776 then some (xs.take r.1.toNat ++ p :: xs.drop r.1.toNat) else none
set_option maxHeartbeats 2000000 in
theorem with_calls (k B : Nat) (xs : List Int) (p : Int) (v : Value) (ys : List Int) (w : World) (hR : SetR w B xs v) (hB : B ≤ w.heap.size) (h : withS k xs p = some ys) :
    Calls Try.prog 39 #[v, .int .i64 p] w fun e w' => ∃ rv, e = .returned rv ∧ SetR w' B ys rv ∧ Below w.heap.size w w' := by
  obtain ⟨⟨r1, r2⟩, hbs, h⟩ := Option.bind_eq_some_iff.mp h
  have hbase := Kd.R_base hR
  obtain ⟨A, c, e⟩ := Kd.R_slice hR
  subst e
  obtain ⟨_, hc, hC⟩ := Kd.R_reads' hR
  have HBS := Aside0.mk (slices_BinarySearch_deriv_set_int.calls k A c xs p r1 r2 w hC hc hbs)
  have HR := Aside0.mk hR
  have HB := Aside0.mk hB
  dsimp only at h
  clear hbs hC hR hbase hB
  have hus := Try.underlying48
  cases r2 with
  | true =>
    rw [if_pos rfl] at h
    obtain rfl := Option.some.inj h
    clear h
    go_enter Try.func39, Try.ntmps39
    go_wp2_with (go_at_call 49; (with_reducible refine HBS.out.mono ?_); rintro e_ w1 ⟨rfl, hd⟩; have HD := Aside0.mk hd; clear hd)
    go_ret
    obtain ⟨nq, hq⟩ := HD.out
    subst hq
    exact ⟨_, rfl, Kd.R_drewN HR.out _, pw_below_drewN (Below.refl _ _) _⟩
  | false =>
    rw [if_neg (by simp)] at h
    by_cases hh : 0 ≤ r1 ∧ r1 ≤ (xs.length : Int) ∧ xs.length < 1099511627776
    rotate_left
    · rw [if_neg hh] at h
      cases h
    rw [if_pos hh] at h
    obtain rfl := Option.some.inj h
    obtain ⟨i, hi⟩ : ∃ i : Nat, r1 = (i : Int) := ⟨r1.toNat, by omega⟩
    subst hi
    rw [Int.toNat_natCast]
    have HH := Aside0.mk hh
    clear h hh
    go_enter Try.func39, Try.ntmps39
    go_wp2_with (first
      | (go_at_call 49; (with_reducible refine HBS.out.mono ?_); rintro e_ w1 ⟨rfl, hd⟩; have HD := Aside0.mk (show Below w.heap.size w w1 by obtain ⟨nq, hq⟩ := hd; subst hq; exact pw_below_drewN (Below.refl _ _) _); have HCL := Aside0.mk (set_clone A c xs w1 (Kd.C_below (Kd.R_reads' HR.out).2.2 HD.out) (Kd.R_reads' HR.out).2.1 (by have := HH.out; omega)); clear hd)
      | (go_at_call 51; (with_reducible refine HCL.out.mono ?_); rintro e_ w2 ⟨v2, rfl, hr, hb⟩; have HR2 := Aside0.mk hr; have HB2 := Aside0.mk hb; have HNE := Aside0.mk (show some w2.heap.size ≠ v2.ownBlock from fun he => by have := Kd.R_lt hr _ he.symm; omega); have HIN := Aside0.mk (insert_calls xs i p v2 w2.heap.size w1 (w2.alloc (.cells #[.int .i64 p] 3)) (Kd.R_alloc hr _) (heap_alloc_new w2 _) HNE.out (by have := HH.out; omega) HH.out.2.2 (below_alloc hb _)); clear hr hb)
      | (go_at_call 50; (with_reducible refine HIN.out.mono ?_); rintro e_ w3 ⟨v3, rfl, hr, hb⟩; have HR3 := Aside0.mk hr; have HB3 := Aside0.mk hb; clear hr hb))
    go_ret
    exact ⟨_, rfl, Kd.R_lower HR3.out (by have := HB.out; have := HD.out.size; omega), below_step HD.out HB3.out⟩
end Go.Proofs.Ytaphbechnjmlgaa.P
namespace Go.Proofs.Ytaphbechnjmlgaa.P
open Go.RowKit Go.Proofs.YtaphbechnjmlgaaW.PrintWords Go.Proofs.YtaphbechnjmlgaaW.PrintLast Go.Proofs.YtaphbechnjmlgaaW.PrintMore
attribute [local go_sem] max2_int min2_int max_two min_two
set_option linter.unusedVariables false
set_option linter.unusedSimpArgs false

-- BY HAND: function 39 (deriv_set_with)

def slices_Index_deriv_set_int.l0 : Nat → List Int → Int → Int → Int → Option (Int)
  | 0, _, _, _, _ => none
  | k + 1, x0, x1, x7, x8 => if x8 < x7 then (if 0 ≤ x8 then (if x8 < (x0.length : Int) then (if x1 = (rd x0 x8) then (some x8) else (slices_Index_deriv_set_int.l0 k x0 x1 x7 (wrap64 (x8 + 1)))) else (none)) else (none)) else (some (-1))
def slices_Index_deriv_set_int.f (k : Nat) (l0 : List Int) (a1 : Int) : Option (Int) := slices_Index_deriv_set_int.l0 k l0 a1 (l0.length : Int) 0
set_option maxHeartbeats 8000000 in
set_option maxRecDepth 100000 in
theorem slices_Index_deriv_set_int.calls (k : Nat) (A0 : Option Addr) (c0 : Nat) (l0 : List Int) (a1 : Int) (r : Int) (w : World) (hr0 : Kd.C (Kd.int .i64) w A0 l0.length l0) (hc0 : l0.length ≤ c0) (h : slices_Index_deriv_set_int.f k l0 a1 = some r) :
    Calls Try.prog 52 #[.slice A0 l0.length c0, .int .i64 a1] w fun e w' => e = .returned (.int .i64 r) ∧ Drawn0 w w' := by
  have HR0 := Aside0.mk hr0
  have HC0 := Aside0.mk hc0
  clear hr0 hc0
  have H : (slices_Index_deriv_set_int.l0 k l0 a1 (l0.length : Int) 0) = some r := h
  clear h
  have H' := Aside0.mk H
  clear H
  go_enter Try.func52, Try.ntmps52
  go_wp2
  go_loopg [8] k (fun kq v8 w' => ∃ (x8_1 : Int), v8 = .int .i64 x8_1 ∧ Aside0 (slices_Index_deriv_set_int.l0 kq l0 a1 (l0.length : Int) x8_1 = some r) ∧ Aside0 (kq ≤ k) ∧ Drawn0 w w')
  case atStart => exact ⟨(0), (by first | rfl | (simp; done) | (simp [*]; done)), H', ⟨Nat.le_refl _⟩, by repeat (first | exact Drawn0.refl _ | apply Drawn0.step)⟩
  case round =>
    clear H'
    try clear p2
    obtain ⟨x8_1, rfl, HA, HK1, ⟨m1, rfl⟩⟩ := hrel
    cases gk with
    | zero => exact absurd HA.out (by simp [slices_Index_deriv_set_int.l0])
    | succ k1 =>
      have H := HA.out
      clear HA
      simp only [slices_Index_deriv_set_int.l0] at H
      by_cases c3 : x8_1 < (l0.length : Int)
      rotate_left
      · rw [if_neg c3] at H
        have c3b0 : decide (x8_1 < (l0.length : Int)) = false := decide_eq_false c3
        clear c3
        obtain rfl := Option.some.inj H
        go_wp2
        go_ret
        exact ⟨by first | rfl | (simp; done) | (simp [*]; done), by repeat (first | exact Drawn0.refl _ | apply Drawn0.step)⟩
      rw [if_pos c3] at H
      have c3b0 : decide (x8_1 < (l0.length : Int)) = true := decide_eq_true c3
      clear c3
      by_cases c4 : 0 ≤ x8_1
      rotate_left
      · rw [if_neg c4] at H
        exact absurd H (by simp)
      rw [if_pos c4] at H
      have c4b0 : decide (0 ≤ x8_1) = true := decide_eq_true c4
      clear c4
      by_cases c5 : x8_1 < (l0.length : Int)
      rotate_left
      · rw [if_neg c5] at H
        exact absurd H (by simp)
      rw [if_pos c5] at H
      have c5b0 : decide (x8_1 < (l0.length : Int)) = true := decide_eq_true c5
      clear c5
      by_cases c6 : a1 = (rd l0 x8_1)
      · rw [if_pos c6] at H
        have c6b0 : (a1 == (rd l0 x8_1)) = true := beq_iff_eq.mpr c6
        have c6b1 : (a1 != (rd l0 x8_1)) = false := bne_eq_false_iff_eq.mpr c6
        clear c6
        obtain rfl := Option.some.inj H
        have p180 : 0 ≤ (x8_1 : Int) := of_decide_eq_true (by first | (with_reducible assumption) | assumption)
        have q180 : x8_1 < (l0.length : Int) := of_decide_eq_true (by first | (with_reducible assumption) | assumption)
        obtain ⟨ad180, e180, hx180_0⟩ := Kd.at_int HR0.out x8_1 p180 q180
        cases e180
        replace p180 := eq_true p180
        replace q180 := eq_true q180
        go_wp2
        go_ret
        exact ⟨by first | rfl | (simp; done) | (simp [*]; done), by repeat (first | exact Drawn0.refl _ | apply Drawn0.step)⟩
      rw [if_neg c6] at H
      have c6b0 : (a1 == (rd l0 x8_1)) = false := beq_eq_false_iff_ne.mpr c6
      have c6b1 : (a1 != (rd l0 x8_1)) = true := bne_iff_ne.mpr c6
      have H' := Aside0.mk H
      clear H
      have p180 : 0 ≤ (x8_1 : Int) := of_decide_eq_true (by first | (with_reducible assumption) | assumption)
      have q180 : x8_1 < (l0.length : Int) := of_decide_eq_true (by first | (with_reducible assumption) | assumption)
      obtain ⟨ad180, e180, hx180_0⟩ := Kd.at_int HR0.out x8_1 p180 q180
      cases e180
      replace p180 := eq_true p180
      replace q180 := eq_true q180
      go_wp2
      go_roundg k1
      case measure => have := HK1.out; omega
      case rel => exact ⟨(wrap64 (x8_1 + 1)), (by first | rfl | (simp; done) | (simp [*]; done)), H', ⟨by have := HK1.out; omega⟩, by repeat (first | exact Drawn0.refl _ | apply Drawn0.step)⟩

def slices_Contains_deriv_set_int.f (k : Nat) (l0 : List Int) (a1 : Int) : Option (Bool) := (slices_Index_deriv_set_int.f k l0 a1).bind fun t181 => (some (decide (t181 ≥ 0)))
set_option maxHeartbeats 8000000 in
set_option maxRecDepth 100000 in
theorem slices_Contains_deriv_set_int.calls (k : Nat) (A0 : Option Addr) (c0 : Nat) (l0 : List Int) (a1 : Int) (r : Bool) (w : World) (hr0 : Kd.C (Kd.int .i64) w A0 l0.length l0) (hc0 : l0.length ≤ c0) (h : slices_Contains_deriv_set_int.f k l0 a1 = some r) :
    Calls Try.prog 40 #[.slice A0 l0.length c0, .int .i64 a1] w fun e w' => e = .returned (.bool r) ∧ Drawn0 w w' := by
  have HR0 := Aside0.mk hr0
  have HC0 := Aside0.mk hc0
  clear hr0 hc0
  have H : ((slices_Index_deriv_set_int.f k l0 a1).bind fun t181 => (some (decide (t181 ≥ 0)))) = some r := h
  clear h
  replace H := Option.bind_eq_some_iff.mp H
  obtain ⟨t181, A30, H⟩ := H
  replace H : (some (decide (t181 ≥ 0))) = some r := H
  have A3 := Aside0.mk A30
  clear A30
  obtain rfl := Option.some.inj H
  go_enter Try.func40, Try.ntmps40
  go_wp2_with (first | ((with_reducible refine gate_callee (f := 52) rfl ?_); refine goesL_ (some 7) rfl rfl Try.func52 (by kernel_rfl) rfl #[.slice A0 l0.length c0, .int .i64 a1] rfl (by (try simp only [List.map_toArray, List.map_cons, List.map_nil]); first | done | rfl | (simp only [List.length_drop, List.length_take]; rfl)) ?_; (with_reducible refine (slices_Index_deriv_set_int.calls k _ _ l0 a1 t181 _ ?side1 ?side2 A3.out).mono ?_); (case side1 => repeat (first | exact HR0.out | (with_reducible refine Kd.C_alloc ?_ _) | (with_reducible refine Kd.C_drewN ?_ _) | (with_reducible refine Kd.C_drew ?_))); (case side2 => exact HC0.out); rintro e w' ⟨rfl, ⟨nd, rfl⟩⟩; refine ⟨_, rfl, ?_⟩))
  go_ret
  exact ⟨by first | rfl | (simp; done) | (simp [*]; done), by repeat (first | exact Drawn0.refl _ | apply Drawn0.step)⟩

end Go.Proofs.Ytaphbechnjmlgaa.P
namespace Go.Proofs.Ytaphbechnjmlgaa.P
open Go.RowKit Go.Proofs.YtaphbechnjmlgaaW.PrintWords Go.Proofs.YtaphbechnjmlgaaW.PrintLast Go.Proofs.YtaphbechnjmlgaaW.PrintMore
set_option linter.unusedVariables false
set_option linter.unusedSimpArgs false

/-- Places more, one behind the other. -/
def withsS (k : Nat) : List Int → List Int → Option (List Int)
  | [], tq => some tq
  | p :: ps, tq => (withS k tq p).bind fun t => withsS k ps t
/-- A set's characters, from places. -/
def setL (k : Nat) (rl : List S52) (l : List Int) : List Int → List Int → Option (List Int)
  | [], tq => some tq
  | p :: ps, tq => if p < (l.length : Int) then if 0 ≤ p then if hasM rl (rd l p) = true then (withS k tq (wrap64 (p + 1))).bind fun t => setL k rl l ps t else setL k rl l ps tq else none else setL k rl l ps tq
def edgeS (k : Nat) (e : Int) (at_ : List Int) : Option (List Int) := (slices_Contains_deriv_set_int.f k at_ e).map fun b => if b = true then [e] else []
def joinRS (f : DNode → List Int → Option (List Int)) : List DNode → List Int → Option (List Int)
  | [], tq => some tq
  | y :: ys, tq => (f y tq).bind fun t => joinRS f ys t
def orRS (k : Nat) (f : DNode → Option (List Int)) : List DNode → List Int → Option (List Int)
  | [], tq => some tq
  | y :: ys, tq => (f y).bind fun r => (withsS k r tq).bind fun t => orRS k f ys t
def timesRS (f : List Int → Option (List Int)) : Nat → List Int → Option (List Int)
  | 0, tq => some tq
  | n + 1, tq => (f tq).bind fun t => timesRS f n t
def moreS (k : Nat) (f : List Int → Option (List Int)) (high : Int) : Nat → Int → List Int → List Int → Option (List Int)
  | 0, _, _, _ => none
  | m + 1, i, last, all => if high < 0 ∨ i < high then (f last).bind fun last2 => (withsS k last2 all).bind fun all2 => if (all2.length = all.length ∧ high < 0) ∨ last2.length = 0 then some all2 else moreS k f high m (wrap64 (i + 1)) last2 all2 else some all
def againS (k : Nat) (f : List Int → Option (List Int)) (low high : Int) (at_ : List Int) : Option (List Int) := if low < 9223372036854775807 then (timesRS f low.toNat at_).bind fun last => moreS k f high k low last last else none
def reachS (k : Nat) (l : List Int) : Nat → DNode → List Int → Option (List Int)
  | 0, _, _ => none
  | n + 1, x, at_ => if x.f0 = 1 then some at_ else if x.f0 = 2 then setL k x.f1 l at_ []
      else if x.f0 = 6 then edgeS k 0 at_ else if x.f0 = 7 then edgeS k (l.length : Int) at_
      else if x.f0 = 3 then joinRS (reachS k l n) x.f4 at_
      else if x.f0 = 4 then orRS k (fun y => reachS k l n y at_) x.f4 []
      else if x.f0 = 5 then (if x.f4.length = 1 ∧ (x.f3 < 0 ∨ x.f3 ≥ x.f2) then againS k (reachS k l n (x.f4.getD 0 z25)) x.f2 x.f3 at_ else some [])
      else some []
/-- deriv.reach answers reachS, up to a depth; again of a node whose one kid is reached so. -/
abbrev ReachN (k : Nat) (l : List Int) (n : Nat) : Prop := ∀ (x : DNode) (v : Value) (A : Option Addr) (c : Nat) (at_ : List Int) (u : Value) (r : List Int) (B : Nat) (w : World), NodeAt w x v → Kd.C (Kd.int .i64) w A l.length l → l.length ≤ c → SetR w B at_ u → B ≤ w.heap.size → reachS k l n x at_ = some r →
  Calls Try.prog 28 #[v, .slice A l.length c, u] w fun e w' => ∃ rv, e = .returned rv ∧ SetR w' B r rv ∧ Below w.heap.size w w'
abbrev AgainN (k : Nat) (l : List Int) (n : Nat) : Prop := ∀ (x : DNode) (v : Value) (A : Option Addr) (c : Nat) (at_ : List Int) (u : Value) (r : List Int) (B : Nat) (w : World), NodeAt w x v → x.f4.length = 1 → Kd.C (Kd.int .i64) w A l.length l → l.length ≤ c → SetR w B at_ u → B ≤ w.heap.size → againS k (reachS k l n (x.f4.getD 0 z25)) x.f2 x.f3 at_ = some r →
  Calls Try.prog 41 #[v, .slice A l.length c, u] w fun e w' => ∃ rv, e = .returned rv ∧ SetR w' B r rv ∧ Below w.heap.size w w'
/-- An element of a row of nodes that came in. -/
theorem at_N {w : World} {A : Option Addr} {n : Nat} {xs : List DNode} (h : Kd.C k25 w A n xs) (i : Nat) (h1 : i < n) :
    ∃ ad A1 c1 A4 c4, A = some ad ∧ w.cell? (ad.add (i * 5)) = some (.int .i64 (xs.getD i z25).f0) ∧ w.cell? ⟨(ad.add (i * 5)).block, (ad.add (i * 5)).off + 1, none⟩ = some (.slice A1 (xs.getD i z25).f1.length c1) ∧ w.cell? ⟨(ad.add (i * 5)).block, (ad.add (i * 5)).off + 2, none⟩ = some (.int .i64 (xs.getD i z25).f2) ∧ w.cell? ⟨(ad.add (i * 5)).block, (ad.add (i * 5)).off + 3, none⟩ = some (.int .i64 (xs.getD i z25).f3) ∧ w.cell? ⟨(ad.add (i * 5)).block, (ad.add (i * 5)).off + 4, none⟩ = some (.slice A4 (xs.getD i z25).f4.length c4) ∧
      NodeAt w (xs.getD i z25) (.agg #[.int .i64 (xs.getD i z25).f0, .slice A1 (xs.getD i z25).f1.length c1, .int .i64 (xs.getD i z25).f2, .int .i64 (xs.getD i z25).f3, .slice A4 (xs.getD i z25).f4.length c4]) := by
  obtain ⟨ad, Ak, ck, Bk, ek, ee, h0, h1, h2, h3, h4, q1, q2, q3, q4⟩ := at_T25 h (i : Int) (by omega) (by omega)
  have hx : rd_T25 xs (i : Int) = xs.getD i z25 := rfl
  rw [hx] at h0 h1 h2 h3 h4 q1 q2 q3 q4
  rw [Int.toNat_natCast] at h0 h1 h2 h3 h4
  exact ⟨ad, Ak, ck, Bk, ek, ee, h0, h1, h2, h3, h4, Ak, ck, Bk, ek, rfl, by first | exact q1 | exact q2, by first | exact q2 | exact q1, by first | exact q3 | exact q4, by first | exact q4 | exact q3⟩
theorem drop_int (xs : List Int) (i : Nat) (h : i < xs.length) : xs.drop i = rd xs (i : Int) :: xs.drop (i + 1) := by
  unfold rd
  rw [Int.toNat_natCast, List.getD_eq_getElem?_getD, List.getElem?_eq_getElem h, Option.getD_some]
  exact List.drop_eq_getElem_cons h
theorem setR_max {w : World} {B : Nat} {xs : List Int} {v : Value} (h : SetR w B xs v) : xs.length ≤ 9223372036854775807 := by
  obtain ⟨A, c, rfl⟩ := Kd.R_slice h
  exact Kd.C_max (Kd.R_reads' h).2.2
set_option maxHeartbeats 8000000 in
set_option maxRecDepth 100000 in
theorem reach_step (k : Nat) (l : List Int) (n : Nat) (ih : ReachN k l n) (hA : AgainN k l n) (x0 : Int) (A1 : Option Addr) (c1 : Nat) (x1 : List S52) (x2 x3 : Int) (A4 : Option Addr) (c4 : Nat) (x4 : List DNode) (A : Option Addr) (c : Nat) (at_ : List Int) (Au : Option Addr) (cu : Nat) (r : List Int) (B : Nat) (w : World)
    (l1 : x1.length ≤ c1) (q1 : Kd.C k52 w A1 x1.length x1) (l4 : x4.length ≤ c4) (q4 : Kd.C k25 w A4 x4.length x4) (hl : Kd.C (Kd.int .i64) w A l.length l) (hlc : l.length ≤ c) (hu : SetR w B at_ (.slice Au at_.length cu)) (hB : B ≤ w.heap.size) (h : reachS k l (n + 1) ⟨x0, x1, x2, x3, x4⟩ at_ = some r) :
    Calls Try.prog 28 #[.agg #[.int .i64 x0, .slice A1 x1.length c1, .int .i64 x2, .int .i64 x3, .slice A4 x4.length c4], .slice A l.length c, .slice Au at_.length cu] w fun e w' => ∃ rv, e = .returned rv ∧ SetR w' B r rv ∧ Below w.heap.size w w' := by
  have hun := Try.underlying25
  have hus := Try.underlying48
  rw [reachS] at h
  dsimp only at h
  have HH := Aside0.mk h
  have HQ := Aside0.mk (And.intro l1 (And.intro q1 (And.intro l4 q4)))
  have HL := Aside0.mk hl
  have HLC := Aside0.mk hlc
  have HU := Aside0.mk hu
  have HBB := Aside0.mk hB
  have HIH := Aside0.mk ih
  have HAG := Aside0.mk hA
  have HM := Aside0.mk (setR_max hu)
  have HB := Aside0.mk (Below.refl w.heap.size w)
  clear h l1 q1 l4 q4 ih hA hl hlc hu hB
  go_enter Try.func28, Try.ntmps28
  go_upto_region 1 with (((with_reducible refine gate_dst (N := 3) rfl ?_); (try (refine gate_guard (by rfl) ?_; dsimp only)); refine box_event ?hg (N := 3) ?hd (cs := #[.int .i64 x0, .slice A1 x1.length c1, .int .i64 x2, .int .i64 x3, .slice A4 x4.length c4]) (t := 25) ?hr ?_; (case hd => rfl); (case hg => rfl); (case hr => first | (go_simp; done) | (go_simp; rfl)); intro gx hg w3 hbox hb; have HGX := Aside0.mk (by rw [hg]; exact Nat.le_refl _ : w.heap.size ≤ gx); have HJ := Aside0.mk (show Own w w3 [(gx, #[.int .i64 x0, .slice A1 x1.length c1, .int .i64 x2, .int .i64 x3, .slice A4 x4.length c4], 25)] from ⟨below_step HB.out hb, by intro g cs t hm; simp only [List.mem_cons, List.not_mem_nil, or_false, Prod.mk.injEq] at hm; obtain ⟨rfl, rfl, rfl⟩ := hm; exact hbox, by intro g cs t hm; simp only [List.mem_cons, List.not_mem_nil, or_false, Prod.mk.injEq] at hm; obtain ⟨rfl, rfl, rfl⟩ := hm; exact HGX.out⟩); clear hb hbox hg))
  clear HB
  (try simp only [Act.put, List.setIfInBounds_toArray, List.set_cons_zero, List.set_cons_succ])
  have z0 := blk_cell (HJ.out.blk _ _ _ (List.mem_singleton.mpr rfl)) 0
  have z1 := blk_cell (HJ.out.blk _ _ _ (List.mem_singleton.mpr rfl)) 1
  have z2 := blk_cell (HJ.out.blk _ _ _ (List.mem_singleton.mpr rfl)) 2
  have z3 := blk_cell (HJ.out.blk _ _ _ (List.mem_singleton.mpr rfl)) 3
  have z4 := blk_cell (HJ.out.blk _ _ _ (List.mem_singleton.mpr rfl)) 4
  by_cases e1 : x0 = 1
  · have h := HH.out
    rw [if_pos e1] at h
    obtain rfl := Option.some.inj h
    subst e1
    clear h HH
    go_wp2
    go_ret
    exact ⟨_, rfl, Kd.R_below HU.out HJ.out.below, HJ.out.below⟩
  have k1 : (x0 == 1) = false := beq_eq_false_iff_ne.mpr e1
  by_cases e2 : x0 = 2
  · have h := HH.out
    rw [if_neg e1, if_pos e2] at h
    have HS := Aside0.mk h
    subst e2
    clear h HH e1
    go_wp2
    clear z0 z2 z3 z4
    go_loopw [7, 26] (fun s7 s26 wx => ∃ (i : Nat) (tq : List Int), s26 = .int .i64 (i : Int) ∧ i ≤ at_.length ∧ Aside0 (setL k x1 l (at_.drop i) tq = some r) ∧ Aside0 (SetR wx B tq s7) ∧ Aside0 (Own w wx [(gx, #[.int .i64 2, .slice A1 x1.length c1, .int .i64 x2, .int .i64 x3, .slice A4 x4.length c4], 25)])) (fun _ s26 _ => at_.length - (intOf s26).toNat)
    case atStart => exact ⟨0, [], rfl, by omega, by simpa using HS, ⟨Kd.R_nil _ _ _ _ _⟩, HJ⟩
    case round =>
      clear HS HJ z1
      obtain ⟨i, tq, rfl, hi, HS, HT, HJ⟩ := hrel
      by_cases hlt : i < at_.length
      · obtain ⟨ad, ee, h0⟩ := Kd.at_int (Kd.C_below (Kd.R_reads' HU.out).2.2 HJ.out.below) (i : Int) (by omega) (by omega)
        cases ee
        rw [Int.toNat_natCast] at h0
        have hh := HS.out
        rw [drop_int at_ i hlt] at hh
        obtain ⟨p, hp⟩ : ∃ p, rd at_ (i : Int) = p := ⟨_, rfl⟩
        rw [hp] at h0 hh
        simp only [setL] at hh
        have g1 : decide ((i : Int) < (at_.length : Int)) = true := decide_eq_true (by omega)
        have g2 : ((0 : Int) ≤ (i : Int)) = True := eq_true (by omega)
        have g3 : ((i : Int) < (at_.length : Int)) = True := eq_true (by omega)
        have HLI := Aside0.mk hlt
        have hw := sn_wrap i (by have := HM.out; have := HLI.out; omega)
        have hm : at_.length - (i + 1) < at_.length - i := by have := HLI.out; omega
        have z1 := blk_cell (HJ.out.blk _ _ _ (List.mem_singleton.mpr rfl)) 1
        clear hp hlt HS
        by_cases pl : p < (l.length : Int)
        rotate_left
        · rw [if_neg pl] at hh
          have HS := Aside0.mk hh
          have p1 : decide (p < (l.length : Int)) = false := decide_eq_false pl
          clear hh pl
          go_upto_region 9 with (fail)
          go_quiet (fail)
          go_wp2
          refine ⟨⟨i + 1, tq, by first | (rw [hw]; done) | rfl | simp, HLI.out, HS, ⟨Kd.R_drewN HT.out _⟩, ⟨HJ.out.more (pw_below_drewN (Below.refl _ _) _)⟩⟩, ?_⟩
          first | (rw [hw]) | skip
          show at_.length - _ < at_.length - _
          have := HLI.out
          simp only [intOf, Int.toNat_natCast]
          omega
        · rw [if_pos pl] at hh
          by_cases p0 : 0 ≤ p
          rotate_left
          · rw [if_neg p0] at hh
            cases hh
          rw [if_pos p0] at hh
          obtain ⟨al, el, hl0⟩ := Kd.at_int (Kd.C_below HL.out HJ.out.below) p p0 pl
          cases el
          have p1 : decide (p < (l.length : Int)) = true := decide_eq_true pl
          have p2 : ((0 : Int) ≤ p) = True := eq_true p0
          have p3 : (p < (l.length : Int)) = True := eq_true pl
          obtain ⟨bb, hbb⟩ : ∃ bb, hasM x1 (rd l p) = bb := ⟨_, rfl⟩
          have HCT := Aside0.mk (tree_Has.calls A1 c1 x1 (rd l p) bb wr.drew (Kd.C_below HQ.out.2.1 (below_step HJ.out.below (below_drew (Below.refl _ _)))) HQ.out.1 (by rw [tree_Has.f, hbb]))
          rw [hbb] at hh
          clear hbb pl p0
          cases bb with
          | true =>
            rw [if_pos rfl] at hh
            obtain ⟨t2, hwt, hh⟩ := Option.bind_eq_some_iff.mp hh
            have HS := Aside0.mk hh
            have HWC := Aside0.mk (fun W' (hb : Below wr.heap.size wr W') => with_calls k B tq (wrap64 (p + 1)) u7 t2 W' (Kd.R_below HT.out hb) (by have := hb.size; have := HJ.out.below.size; have := HBB.out; omega) hwt)
            clear hh hwt
            go_upto_region 9 with (fail)
            go_still_tail 11, (by kernel_rfl)
            change wpList _ _ _ _ _ wr.drew
            go_wp2_with (first
              | (go_at_call 39; (with_reducible refine (HWC.out _ HB5.out).mono ?_); rintro e_ w6 ⟨v6, rfl, hr6, hb6⟩; have HR6 := Aside0.mk hr6; have HJ6 := Aside0.mk ((HJ.out.more HB5.out).more hb6); clear hr6 hb6)
              | ((with_reducible refine HCT.out.mono ?_); rintro e_ w5 ⟨rfl, hb⟩; have HB5 := Aside0.mk (below_step (below_drew (Below.refl _ _)) hb); clear hb))
            refine ⟨⟨i + 1, t2, by first | (rw [hw]; done) | rfl | simp, HLI.out, HS, ⟨HR6.out⟩, ⟨HJ6.out⟩⟩, ?_⟩
            first | (rw [hw]) | skip
            show at_.length - _ < at_.length - _
            have := HLI.out
            simp only [intOf, Int.toNat_natCast]
            omega
          | false =>
            rw [if_neg (by simp)] at hh
            have HS := Aside0.mk hh
            clear hh
            go_upto_region 9 with (fail)
            go_still_tail 11, (by kernel_rfl)
            change wpList _ _ _ _ _ wr.drew
            go_wp2_with ((with_reducible refine HCT.out.mono ?_); rintro e_ w5 ⟨rfl, hb⟩; have HB5 := Aside0.mk (below_step (below_drew (Below.refl _ _)) hb); clear hb)
            refine ⟨⟨i + 1, tq, by first | (rw [hw]; done) | rfl | simp, HLI.out, HS, ⟨Kd.R_below HT.out HB5.out⟩, ⟨HJ.out.more HB5.out⟩⟩, ?_⟩
            first | (rw [hw]) | skip
            show at_.length - _ < at_.length - _
            have := HLI.out
            simp only [intOf, Int.toNat_natCast]
            omega
      · have hn : i = at_.length := by omega
        subst hn
        have g1 : decide ((at_.length : Int) < (at_.length : Int)) = false := decide_eq_false (by omega)
        have hh := HS.out
        rw [List.drop_length] at hh
        simp only [setL] at hh
        obtain rfl := Option.some.inj hh
        clear hh HS hi
        go_wp2
        go_ret
        exact ⟨_, rfl, HT.out, HJ.out.below⟩
  have k2 : (x0 == 2) = false := beq_eq_false_iff_ne.mpr e2
  by_cases e6 : x0 = 6
  · have h := HH.out
    rw [if_neg e1, if_neg e2, if_pos e6] at h
    obtain ⟨b, hc, hr⟩ := Option.map_eq_some_iff.mp h
    have HC := Aside0.mk (slices_Contains_deriv_set_int.calls k Au cu at_ 0 b w3 (Kd.C_below (Kd.R_reads' HU.out).2.2 HJ.out.below) (Kd.R_reads' HU.out).2.1 hc)
    subst e6
    clear h HH hc
    cases b with
    | true =>
      rw [if_pos rfl] at hr
      subst hr
      go_wp2_with (go_at_call 40; (with_reducible refine HC.out.mono ?_); rintro e_ w5 ⟨rfl, hd⟩; have HD := Aside0.mk (show Below w3.heap.size w3 w5 by obtain ⟨nq, hq⟩ := hd; subst hq; exact pw_below_drewN (Below.refl _ _) _); clear hd)
      go_ret
      have hb5 := below_step HJ.out.below HD.out
      exact ⟨_, rfl, setR_of (ys := [0]) (cap := 1) (g := w5.heap.size) (by have := hb5.size; have := HBB.out; omega) (heap_alloc_new w5 _) (Nat.le_refl _) (by decide) rfl rfl, below_alloc hb5 _⟩
    | false =>
      rw [if_neg (by simp)] at hr
      subst hr
      go_wp2_with (go_at_call 40; (with_reducible refine HC.out.mono ?_); rintro e_ w5 ⟨rfl, hd⟩; have HD := Aside0.mk (show Below w3.heap.size w3 w5 by obtain ⟨nq, hq⟩ := hd; subst hq; exact pw_below_drewN (Below.refl _ _) _); clear hd)
      go_ret
      exact ⟨_, rfl, Kd.R_nil _ _ _ _ _, below_step HJ.out.below HD.out⟩
  have k6 : (x0 == 6) = false := beq_eq_false_iff_ne.mpr e6
  by_cases e7 : x0 = 7
  · have h := HH.out
    rw [if_neg e1, if_neg e2, if_neg e6, if_pos e7] at h
    obtain ⟨b, hc, hr⟩ := Option.map_eq_some_iff.mp h
    have HC := Aside0.mk (slices_Contains_deriv_set_int.calls k Au cu at_ (l.length : Int) b w3 (Kd.C_below (Kd.R_reads' HU.out).2.2 HJ.out.below) (Kd.R_reads' HU.out).2.1 hc)
    subst e7
    clear h HH hc
    cases b with
    | true =>
      rw [if_pos rfl] at hr
      subst hr
      go_wp2_with (go_at_call 40; (with_reducible refine HC.out.mono ?_); rintro e_ w5 ⟨rfl, hd⟩; have HD := Aside0.mk (show Below w3.heap.size w3 w5 by obtain ⟨nq, hq⟩ := hd; subst hq; exact pw_below_drewN (Below.refl _ _) _); clear hd)
      go_ret
      have hb5 := below_step HJ.out.below HD.out
      exact ⟨_, rfl, setR_of (ys := [(l.length : Int)]) (cap := 1) (g := w5.heap.size) (by have := hb5.size; have := HBB.out; omega) (heap_alloc_new w5 _) (Nat.le_refl _) (by decide) rfl rfl, below_alloc hb5 _⟩
    | false =>
      rw [if_neg (by simp)] at hr
      subst hr
      go_wp2_with (go_at_call 40; (with_reducible refine HC.out.mono ?_); rintro e_ w5 ⟨rfl, hd⟩; have HD := Aside0.mk (show Below w3.heap.size w3 w5 by obtain ⟨nq, hq⟩ := hd; subst hq; exact pw_below_drewN (Below.refl _ _) _); clear hd)
      go_ret
      exact ⟨_, rfl, Kd.R_nil _ _ _ _ _, below_step HJ.out.below HD.out⟩
  have k7 : (x0 == 7) = false := beq_eq_false_iff_ne.mpr e7
  by_cases e3 : x0 = 3
  · have h := HH.out
    rw [if_neg e1, if_neg e2, if_neg e6, if_neg e7, if_pos e3] at h
    have HS := Aside0.mk h
    have HN := Aside0.mk (Kd.C_max HQ.out.2.2.2)
    subst e3
    clear h HH e1 e2 e6 e7
    go_wp2
    clear z0 z1 z2 z3 z4
    go_loopw [7, 67] (fun s7 s67 wx => ∃ (i : Nat) (tq : List Int), s67 = .int .i64 (i : Int) ∧ i ≤ x4.length ∧ Aside0 (joinRS (reachS k l n) (x4.drop i) tq = some r) ∧ Aside0 (SetR wx B tq s7) ∧ Aside0 (Own w wx [])) (fun _ s67 _ => x4.length - (intOf s67).toNat)
    case atStart => exact ⟨0, at_, rfl, by omega, by simpa using HS, ⟨Kd.R_below HU.out HJ.out.below⟩, ⟨HJ.out.sub (fun p hp => absurd hp (by simp))⟩⟩
    case round =>
      clear HS HJ
      obtain ⟨i, tq, rfl, hi, HS, HT, HJ⟩ := hrel
      by_cases hlt : i < x4.length
      · obtain ⟨ad, E1, e1, E4, e4, ee, h0, h1, h2, h3, h4, hyn⟩ := at_N (Kd.C_below HQ.out.2.2.2 HJ.out.below) i hlt
        cases ee
        have hh := HS.out
        rw [sn_drop z25 x4 i hlt] at hh
        obtain ⟨y, hyy⟩ : ∃ y, x4.getD i z25 = y := ⟨_, rfl⟩
        rw [hyy] at h0 h1 h2 h3 h4 hyn hh
        obtain ⟨y0, y1, y2, y3, y4⟩ := y
        dsimp only at h0 h1 h2 h3 h4 hyn
        have HYN := Aside0.mk hyn
        have g1 : decide ((i : Int) < (x4.length : Int)) = true := decide_eq_true (by omega)
        have g2 : ((0 : Int) ≤ (i : Int)) = True := eq_true (by omega)
        have g3 : ((i : Int) < (x4.length : Int)) = True := eq_true (by omega)
        have HLI := Aside0.mk hlt
        have hw := sn_wrap i (by have := HN.out; have := HLI.out; omega)
        have HWA := Aside0.mk (below_alloc (Below.refl wr.heap.size wr) (.cells #[.int .i64 y0, .slice E1 y1.length e1, .int .i64 y2, .int .i64 y3, .slice E4 y4.length e4] 25))
        clear hyy hyn HS
        simp only [joinRS] at hh
        obtain ⟨t2, ht2, hh⟩ := Option.bind_eq_some_iff.mp hh
        have HS := Aside0.mk hh
        have HC := Aside0.mk (HIH.out ⟨y0, y1, y2, y3, y4⟩ (.agg #[.int .i64 y0, .slice E1 y1.length e1, .int .i64 y2, .int .i64 y3, .slice E4 y4.length e4]) A c tq u7 t2 B (wr.alloc (.cells #[.int .i64 y0, .slice E1 y1.length e1, .int .i64 y2, .int .i64 y3, .slice E4 y4.length e4] 25)) (HYN.out.below HWA.out) (Kd.C_below HL.out (below_step HJ.out.below HWA.out)) HLC.out (Kd.R_below HT.out HWA.out) (by have := HJ.out.below.size; have := HBB.out; simp only [World.size_alloc]; omega) ht2)
        clear hh ht2 hlt HYN
        go_wp2_with (go_at_call 28; (with_reducible refine HC.out.mono ?_); rintro e_ w6 ⟨v6, rfl, hr6, hb6⟩; have HR6 := Aside0.mk hr6; have HJ6 := Aside0.mk ((HJ.out.more HWA.out).more hb6); clear hr6 hb6)
        refine ⟨⟨i + 1, t2, by first | (rw [hw]; done) | rfl | simp, HLI.out, HS, ⟨HR6.out⟩, ⟨HJ6.out⟩⟩, ?_⟩
        first | (rw [hw]) | skip
        show x4.length - _ < x4.length - _
        have := HLI.out
        simp only [intOf, Int.toNat_natCast]
        omega
      · have hn : i = x4.length := by omega
        subst hn
        have g1 : decide ((x4.length : Int) < (x4.length : Int)) = false := decide_eq_false (by omega)
        have hh := HS.out
        rw [List.drop_length] at hh
        simp only [joinRS] at hh
        obtain rfl := Option.some.inj hh
        clear hh HS hi
        go_wp2
        go_ret
        exact ⟨_, rfl, HT.out, HJ.out.below⟩
  have k3 : (x0 == 3) = false := beq_eq_false_iff_ne.mpr e3
  by_cases e4 : x0 = 4
  · have h := HH.out
    rw [if_neg e1, if_neg e2, if_neg e6, if_neg e7, if_neg e3, if_pos e4] at h
    have HS := Aside0.mk h
    have HN := Aside0.mk (Kd.C_max HQ.out.2.2.2)
    subst e4
    clear h HH e1 e2 e6 e7 e3
    go_wp2
    clear z0 z1 z2 z3 z4
    go_loopw [7, 81] (fun s7 s81 wx => ∃ (i : Nat) (tq : List Int), s81 = .int .i64 (i : Int) ∧ i ≤ x4.length ∧ Aside0 (orRS k (fun y => reachS k l n y at_) (x4.drop i) tq = some r) ∧ Aside0 (SetR wx B tq s7) ∧ Aside0 (Own w wx [])) (fun _ s81 _ => x4.length - (intOf s81).toNat)
    case atStart => exact ⟨0, [], rfl, by omega, by simpa using HS, ⟨Kd.R_nil _ _ _ _ _⟩, ⟨HJ.out.sub (fun p hp => absurd hp (by simp))⟩⟩
    case round =>
      clear HS HJ
      obtain ⟨i, tq, rfl, hi, HS, HT, HJ⟩ := hrel
      by_cases hlt : i < x4.length
      · obtain ⟨ad, E1, e1, E4, e4, ee, h0, h1, h2, h3, h4, hyn⟩ := at_N (Kd.C_below HQ.out.2.2.2 HJ.out.below) i hlt
        cases ee
        have hh := HS.out
        rw [sn_drop z25 x4 i hlt] at hh
        obtain ⟨y, hyy⟩ : ∃ y, x4.getD i z25 = y := ⟨_, rfl⟩
        rw [hyy] at h0 h1 h2 h3 h4 hyn hh
        obtain ⟨y0, y1, y2, y3, y4⟩ := y
        dsimp only at h0 h1 h2 h3 h4 hyn
        have HYN := Aside0.mk hyn
        have g1 : decide ((i : Int) < (x4.length : Int)) = true := decide_eq_true (by omega)
        have g2 : ((0 : Int) ≤ (i : Int)) = True := eq_true (by omega)
        have g3 : ((i : Int) < (x4.length : Int)) = True := eq_true (by omega)
        have HLI := Aside0.mk hlt
        have hw := sn_wrap i (by have := HN.out; have := HLI.out; omega)
        have HWA := Aside0.mk (below_alloc (Below.refl wr.heap.size wr) (.cells #[.int .i64 y0, .slice E1 y1.length e1, .int .i64 y2, .int .i64 y3, .slice E4 y4.length e4] 25))
        clear hyy hyn HS
        simp only [orRS] at hh
        obtain ⟨r1, hr1, hh⟩ := Option.bind_eq_some_iff.mp hh
        obtain ⟨t2, ht2, hh⟩ := Option.bind_eq_some_iff.mp hh
        have HS := Aside0.mk hh
        have HW2 := Aside0.mk ht2
        have HC := Aside0.mk (HIH.out ⟨y0, y1, y2, y3, y4⟩ (.agg #[.int .i64 y0, .slice E1 y1.length e1, .int .i64 y2, .int .i64 y3, .slice E4 y4.length e4]) A c at_ (.slice Au at_.length cu) r1 B (wr.alloc (.cells #[.int .i64 y0, .slice E1 y1.length e1, .int .i64 y2, .int .i64 y3, .slice E4 y4.length e4] 25)) (HYN.out.below HWA.out) (Kd.C_below HL.out (below_step HJ.out.below HWA.out)) HLC.out (Kd.R_below HU.out (below_step HJ.out.below HWA.out)) (by have := HJ.out.below.size; have := HBB.out; simp only [World.size_alloc]; omega) hr1)
        clear hh ht2 hlt HYN hr1
        go_wp2_with (go_at_call 28; (with_reducible refine HC.out.mono ?_); rintro e_ w6 ⟨v6, rfl, hr6, hb6⟩; have HJ6 := Aside0.mk ((HJ.out.more HWA.out).more hb6); have HT6 := Aside0.mk (Kd.R_below HT.out (below_step HWA.out hb6)); obtain ⟨A6, c6, e6⟩ := Kd.R_slice hr6; subst e6; have HM6 := Aside0.mk (setR_max hr6); have HR6 := Aside0.mk hr6; clear hr6 hb6)
        go_loopw [7, 90] (fun s7 s90 wy => ∃ (j : Nat) (tj : List Int), s90 = .int .i64 (j : Int) ∧ j ≤ r1.length ∧ Aside0 (withsS k (r1.drop j) tj = some t2) ∧ Aside0 (SetR wy B tj s7) ∧ Aside0 (SetR wy B r1 (.slice A6 r1.length c6)) ∧ Aside0 (Own w wy [])) (fun _ s90 _ => r1.length - (intOf s90).toNat)
        case atStart => exact ⟨0, tq, rfl, by omega, by simpa using HW2, HT6, HR6, HJ6⟩
        case round =>
          clear HW2 HT6 HR6 HJ6 HJ HT
          obtain ⟨j, tj, rfl, hj, HW2, HT, HR6, HJ⟩ := hrel
          by_cases hjl : j < r1.length
          · obtain ⟨ae, ee, hc0⟩ := Kd.at_int (Kd.R_reads' HR6.out).2.2 (j : Int) (by omega) (by omega)
            cases ee
            rw [Int.toNat_natCast] at hc0
            have hh := HW2.out
            rw [drop_int r1 j hjl] at hh
            obtain ⟨p, hp⟩ : ∃ p, rd r1 (j : Int) = p := ⟨_, rfl⟩
            rw [hp] at hc0 hh
            simp only [withsS] at hh
            obtain ⟨t3, ht3, hh⟩ := Option.bind_eq_some_iff.mp hh
            have HW3 := Aside0.mk hh
            have p1 : decide ((j : Int) < (r1.length : Int)) = true := decide_eq_true (by omega)
            have p2 : ((0 : Int) ≤ (j : Int)) = True := eq_true (by omega)
            have p3 : ((j : Int) < (r1.length : Int)) = True := eq_true (by omega)
            have HLJ := Aside0.mk hjl
            have hw2 := sn_wrap j (by have := HM6.out; have := HLJ.out; omega)
            have HWC := Aside0.mk (with_calls k B tj p u7 t3 wr HT.out (by have := HJ.out.below.size; have := HBB.out; omega) ht3)
            clear hp hjl hh ht3
            go_wp2_with (go_at_call 39; (with_reducible refine HWC.out.mono ?_); rintro e_ w7 ⟨v7, rfl, hr7, hb7⟩; have HR7 := Aside0.mk hr7; have HJ7 := Aside0.mk (HJ.out.more hb7); have HR67 := Aside0.mk (Kd.R_below HR6.out hb7); clear hr7 hb7)
            refine ⟨⟨j + 1, t3, by first | (rw [hw2]; done) | rfl | simp, HLJ.out, HW3, HR7, HR67, HJ7⟩, ?_⟩
            first | (rw [hw2]) | skip
            show r1.length - _ < r1.length - _
            have := HLJ.out
            simp only [intOf, Int.toNat_natCast]
            omega
          · have hn : j = r1.length := by omega
            subst hn
            have p1 : decide ((r1.length : Int) < (r1.length : Int)) = false := decide_eq_false (by omega)
            have hh := HW2.out
            rw [List.drop_length] at hh
            simp only [withsS] at hh
            obtain rfl := Option.some.inj hh
            clear hh HW2 hj
            go_wp2
            refine ⟨⟨i + 1, tj, by first | (rw [hw]; done) | rfl | simp, HLI.out, HS, ⟨HT.out⟩, ⟨HJ.out⟩⟩, ?_⟩
            first | (rw [hw]) | skip
            show x4.length - _ < x4.length - _
            have := HLI.out
            simp only [intOf, Int.toNat_natCast]
            omega
      · have hn : i = x4.length := by omega
        subst hn
        have g1 : decide ((x4.length : Int) < (x4.length : Int)) = false := decide_eq_false (by omega)
        have hh := HS.out
        rw [List.drop_length] at hh
        simp only [orRS] at hh
        obtain rfl := Option.some.inj hh
        clear hh HS hi
        go_wp2
        go_ret
        exact ⟨_, rfl, HT.out, HJ.out.below⟩
  have k4 : (x0 == 4) = false := beq_eq_false_iff_ne.mpr e4
  have h := HH.out
  rw [if_neg e1, if_neg e2, if_neg e6, if_neg e7, if_neg e3, if_neg e4] at h
  by_cases e5 : x0 = 5
  rotate_left
  · rw [if_neg e5] at h
    obtain rfl := Option.some.inj h
    have k5 : (x0 == 5) = false := beq_eq_false_iff_ne.mpr e5
    clear h HH e1 e2 e6 e7 e3 e4 e5
    go_wp2
    go_ret
    exact ⟨_, rfl, Kd.R_nil _ _ _ _ _, HJ.out.below⟩
  rw [if_pos e5] at h
  subst e5
  clear HH e1 e2 e6 e7 e3 e4 k1 k2 k6 k7 k3 k4
  by_cases a1 : x4.length = 1
  rotate_left
  · rw [if_neg (by intro hh; exact a1 hh.1)] at h
    obtain rfl := Option.some.inj h
    have p1 : ((x4.length : Int) == 1) = false := beq_eq_false_iff_ne.mpr (by omega)
    clear h a1
    go_wp2
    go_ret
    exact ⟨_, rfl, Kd.R_nil _ _ _ _ _, HJ.out.below⟩
  have p1 : ((x4.length : Int) == 1) = true := beq_iff_eq.mpr (by omega)
  by_cases a2 : x3 < 0 ∨ x3 ≥ x2
  rotate_left
  · rw [if_neg (by intro hh; exact a2 hh.2)] at h
    obtain rfl := Option.some.inj h
    have p2 : decide (x3 < 0) = false := decide_eq_false (by omega)
    have p3 : decide (x3 ≥ x2) = false := decide_eq_false (by omega)
    have p3' : decide (x2 ≤ x3) = false := decide_eq_false (by omega)
    clear h a1 a2
    go_wp2
    go_ret
    exact ⟨_, rfl, Kd.R_nil _ _ _ _ _, HJ.out.below⟩
  rw [if_pos ⟨a1, a2⟩] at h
  have HC := Aside0.mk (HAG.out ⟨5, x1, x2, x3, x4⟩ (.agg #[.int .i64 5, .slice A1 x1.length c1, .int .i64 x2, .int .i64 x3, .slice A4 x4.length c4]) A c at_ (.slice Au at_.length cu) r B w3 (NodeAt.below ⟨A1, c1, A4, c4, rfl, HQ.out.1, HQ.out.2.1, HQ.out.2.2.1, HQ.out.2.2.2⟩ HJ.out.below) a1 (Kd.C_below HL.out HJ.out.below) HLC.out (Kd.R_below HU.out HJ.out.below) (by have := HJ.out.below.size; have := HBB.out; omega) h)
  by_cases a4 : x3 < 0
  · have p2 : decide (x3 < 0) = true := decide_eq_true a4
    clear h a1 a2 a4
    go_wp2_with (go_at_call 41; (with_reducible refine HC.out.mono ?_); rintro e_ w6 ⟨v6, rfl, hr6, hb6⟩; have HR6 := Aside0.mk hr6; have HB6 := Aside0.mk hb6; clear hr6 hb6)
    go_ret
    exact ⟨_, rfl, HR6.out, below_step HJ.out.below HB6.out⟩
  · have p2 : decide (x3 < 0) = false := decide_eq_false a4
    have p3 : decide (x3 ≥ x2) = true := decide_eq_true (by omega)
    have p3' : decide (x2 ≤ x3) = true := decide_eq_true (by omega)
    clear h a1 a2 a4
    go_wp2_with (go_at_call 41; (with_reducible refine HC.out.mono ?_); rintro e_ w6 ⟨v6, rfl, hr6, hb6⟩; have HR6 := Aside0.mk hr6; have HB6 := Aside0.mk hb6; clear hr6 hb6)
    go_ret
    exact ⟨_, rfl, HR6.out, below_step HJ.out.below HB6.out⟩
end Go.Proofs.Ytaphbechnjmlgaa.P
namespace Go.Proofs.Ytaphbechnjmlgaa.P
open Go.RowKit Go.Proofs.YtaphbechnjmlgaaW.PrintWords Go.Proofs.YtaphbechnjmlgaaW.PrintLast Go.Proofs.YtaphbechnjmlgaaW.PrintMore
set_option linter.unusedVariables false
set_option linter.unusedSimpArgs false

set_option maxHeartbeats 8000000 in
set_option maxRecDepth 100000 in
theorem again_step (k : Nat) (l : List Int) (n : Nat) (ih : ReachN k l n) (x0 : Int) (A1 : Option Addr) (c1 : Nat) (x1 : List S52) (x2 x3 : Int) (A4 : Option Addr) (c4 : Nat) (y : DNode) (A : Option Addr) (c : Nat) (at_ : List Int) (u : Value) (r : List Int) (B : Nat) (w : World)
    (q4 : Kd.C k25 w A4 1 [y]) (hl : Kd.C (Kd.int .i64) w A l.length l) (hlc : l.length ≤ c) (hu : SetR w B at_ u) (hB : B ≤ w.heap.size) (h : againS k (reachS k l n y) x2 x3 at_ = some r) :
    Calls Try.prog 41 #[.agg #[.int .i64 x0, .slice A1 x1.length c1, .int .i64 x2, .int .i64 x3, .slice A4 1 c4], .slice A l.length c, u] w fun e w' => ∃ rv, e = .returned rv ∧ SetR w' B r rv ∧ Below w.heap.size w w' := by
  have hun := Try.underlying25
  have hus := Try.underlying48
  unfold againS at h
  by_cases hx2 : x2 < 9223372036854775807
  rotate_left
  · rw [if_neg hx2] at h
    cases h
  rw [if_pos hx2] at h
  obtain ⟨last9, htm, hmo⟩ := Option.bind_eq_some_iff.mp h
  have HTM := Aside0.mk htm
  have HMO := Aside0.mk hmo
  have HQ := Aside0.mk q4
  have HL := Aside0.mk hl
  have HLC := Aside0.mk hlc
  have HU := Aside0.mk hu
  have HBB := Aside0.mk hB
  have HX2 := Aside0.mk hx2
  have HIH := Aside0.mk ih
  have HB := Aside0.mk (Below.refl w.heap.size w)
  clear h q4 ih hl hlc hu hB htm hmo hx2
  go_enter Try.func41, Try.ntmps41
  go_upto_region 1 with (((with_reducible refine gate_dst (N := 3) rfl ?_); (try (refine gate_guard (by rfl) ?_; dsimp only)); refine box_event ?hg (N := 3) ?hd (cs := #[.int .i64 x0, .slice A1 x1.length c1, .int .i64 x2, .int .i64 x3, .slice A4 1 c4]) (t := 25) ?hr ?_; (case hd => rfl); (case hg => rfl); (case hr => first | (go_simp; done) | (go_simp; rfl)); intro gx hg w3 hbox hb; have HGX := Aside0.mk (by rw [hg]; exact Nat.le_refl _ : w.heap.size ≤ gx); have HJ := Aside0.mk (show Own w w3 [(gx, #[.int .i64 x0, .slice A1 x1.length c1, .int .i64 x2, .int .i64 x3, .slice A4 1 c4], 25)] from ⟨below_step HB.out hb, by intro g cs t hm; simp only [List.mem_cons, List.not_mem_nil, or_false, Prod.mk.injEq] at hm; obtain ⟨rfl, rfl, rfl⟩ := hm; exact hbox, by intro g cs t hm; simp only [List.mem_cons, List.not_mem_nil, or_false, Prod.mk.injEq] at hm; obtain ⟨rfl, rfl, rfl⟩ := hm; exact HGX.out⟩); clear hb hbox hg))
  clear HB
  (try simp only [Act.put, List.setIfInBounds_toArray, List.set_cons_zero, List.set_cons_succ])
  generalize hbl : ([(gx, #[.int .i64 x0, .slice A1 x1.length c1, .int .i64 x2, .int .i64 x3, .slice A4 1 c4], 25)] : List (Nat × Array Value × Nat)) = bl at HJ
  have HMX := Aside0.mk (show ((gx, #[.int .i64 x0, .slice A1 x1.length c1, .int .i64 x2, .int .i64 x3, .slice A4 1 c4], 25) : Nat × Array Value × Nat) ∈ bl by rw [← hbl]; simp)
  clear hbl
  -- the kid is read, and reached, in any world behind this one
  have HKID := Aside0.mk (show ∀ (wx : World) (la r2 : List Int) (v7 : Value), Own w wx bl → SetR wx B la v7 → reachS k l n y la = some r2 → ∃ ad E1 e1 E4 e4, A4 = some ad ∧ wx.cell? ad = some (.int .i64 y.f0) ∧ wx.cell? ⟨ad.block, ad.off + 1, none⟩ = some (.slice E1 y.f1.length e1) ∧ wx.cell? ⟨ad.block, ad.off + 2, none⟩ = some (.int .i64 y.f2) ∧ wx.cell? ⟨ad.block, ad.off + 3, none⟩ = some (.int .i64 y.f3) ∧ wx.cell? ⟨ad.block, ad.off + 4, none⟩ = some (.slice E4 y.f4.length e4) ∧
      Calls Try.prog 28 #[.agg #[.int .i64 y.f0, .slice E1 y.f1.length e1, .int .i64 y.f2, .int .i64 y.f3, .slice E4 y.f4.length e4], .slice A l.length c, v7] wx fun e w' => ∃ rv, e = .returned rv ∧ SetR w' B r2 rv ∧ Below wx.heap.size wx w' from by
    intro wx la r2 v7 hJ hT hr
    obtain ⟨ad, E1, e1, E4, e4, ee, h0, h1, h2, h3, h4, hyn⟩ := at_N (Kd.C_below HQ.out hJ.below) 0 (by omega)
    have hy : ([y] : List DNode).getD 0 z25 = y := rfl
    rw [hy] at h0 h1 h2 h3 h4 hyn
    have ea : ad.add (0 * 5) = ad := by
      show ad.add 0 = ad
      cases ad
      simp [Addr.add]
    rw [ea] at h0 h1 h2 h3 h4
    exact ⟨ad, E1, e1, E4, e4, ee, h0, h1, h2, h3, h4, HIH.out y _ A c la v7 r2 B wx hyn (Kd.C_below HL.out hJ.below) HLC.out hT (by have := hJ.below.size; have := HBB.out; omega) hr⟩)
  have u1 : ((0 : Int) < (1 : Int)) = True := eq_true (by omega)
  clear HIH HQ
  have z2 := blk_cell (HJ.out.blk _ _ _ HMX.out) 2
  go_wp2
  clear z2
  go_loopw [7, 16] (fun s7 s16 wx => ∃ (i : Nat) (la : List Int), s16 = .int .i64 (i : Int) ∧ i ≤ x2.toNat ∧ Aside0 (timesRS (reachS k l n y) (x2.toNat - i) la = some last9) ∧ Aside0 (SetR wx B la s7) ∧ Aside0 (Own w wx bl)) (fun _ s16 _ => x2.toNat - (intOf s16).toNat)
  case atStart => exact ⟨0, at_, rfl, by omega, by simpa using HTM, ⟨Kd.R_below HU.out HJ.out.below⟩, HJ⟩
  case round =>
    clear HTM HJ
    obtain ⟨i, la, rfl, hi, HTM, HT, HJ⟩ := hrel
    by_cases hlt : (i : Int) < x2
    · have hh := HTM.out
      rw [show x2.toNat - i = (x2.toNat - (i + 1)) + 1 by omega] at hh
      simp only [timesRS] at hh
      obtain ⟨t2, ht2, hh⟩ := Option.bind_eq_some_iff.mp hh
      have HTM := Aside0.mk hh
      obtain ⟨ad, E1, e1, E4, e4, ee, h0, h1, h2, h3, h4, hc⟩ := HKID.out wr la t2 u7 HJ.out HT.out ht2
      subst ee
      have HC := Aside0.mk hc
      have z4 := blk_cell (HJ.out.blk _ _ _ HMX.out) 4
      have g1 : decide ((i : Int) < x2) = true := decide_eq_true hlt
      have HLI := Aside0.mk hlt
      have hw : wrap64 ((i : Int) + 1) = ((i + 1 : Nat) : Int) := sn_wrap i (by have := HX2.out; omega)
      clear hh ht2 hc hlt
      go_wp2_with (go_at_call 28; (with_reducible refine HC.out.mono ?_); rintro e_ w6 ⟨v6, rfl, hr6, hb6⟩; have HR6 := Aside0.mk hr6; have HJ6 := Aside0.mk (HJ.out.more hb6); clear hr6 hb6)
      refine ⟨⟨i + 1, t2, by first | (rw [hw]; done) | rfl | simp, by have := HLI.out; omega, HTM, HR6, HJ6⟩, ?_⟩
      first | (rw [hw]) | skip
      show x2.toNat - _ < x2.toNat - _
      have := HLI.out
      simp only [intOf, Int.toNat_natCast]
      omega
    · have g1 : decide ((i : Int) < x2) = false := decide_eq_false hlt
      have hh := HTM.out
      rw [show x2.toNat - i = 0 by omega] at hh
      simp only [timesRS] at hh
      obtain rfl := Option.some.inj hh
      have z2 := blk_cell (HJ.out.blk _ _ _ HMX.out) 2
      clear hh HTM hlt hi
      go_wp2
      clear z2 g1
      go_loopg [7, 8, 9] k (fun kq s7 s8 s9 wx => ∃ (j : Int) (lb al : List Int), s9 = .int .i64 j ∧ Aside0 (moreS k (reachS k l n y) x3 kq j lb al = some r) ∧ Aside0 (SetR wx B lb s7) ∧ Aside0 (SetR wx B al s8) ∧ Aside0 (Own w wx bl))
      case atStart => exact ⟨x2, la, la, rfl, HMO, HT, HT, HJ⟩
      case round =>
        clear HMO HT HJ
        obtain ⟨j, lb, al, rfl, HMO, HT, HA, HJ⟩ := hrel
        cases gk with
        | zero => exact absurd HMO.out (by simp [moreS])
        | succ k1 =>
        have hh := HMO.out
        simp only [moreS] at hh
        have z3 := blk_cell (HJ.out.blk _ _ _ HMX.out) 3
        have z4 := blk_cell (HJ.out.blk _ _ _ HMX.out) 4
        by_cases hg : x3 < 0 ∨ j < x3
        rotate_left
        · rw [if_neg hg] at hh
          obtain rfl := Option.some.inj hh
          have p1 : decide (x3 < 0) = false := decide_eq_false (by omega)
          have p2 : decide (j < x3) = false := decide_eq_false (by omega)
          clear hh HMO hg
          go_wp2
          go_ret
          exact ⟨_, rfl, HA.out, HJ.out.below⟩
        rw [if_pos hg] at hh
        obtain ⟨l2, hl2, hh⟩ := Option.bind_eq_some_iff.mp hh
        obtain ⟨a2, ha2, hh⟩ := Option.bind_eq_some_iff.mp hh
        obtain ⟨ad, E1, e1, E4, e4, ee, h0, h1, h2, h3, h4, hc⟩ := HKID.out wr lb l2 u7 HJ.out HT.out hl2
        subst ee
        obtain ⟨A8, c8, e8⟩ := Kd.R_slice HA.out
        subst e8
        have HC := Aside0.mk hc
        have HMM := Aside0.mk hh
        have HW2 := Aside0.mk ha2
        have HG := Aside0.mk hg
        clear hh ha2 hl2 hc HMO
        by_cases hx : x3 < 0
        · have p1 : decide (x3 < 0) = true := decide_eq_true hx
          clear hg hx
          go_wp2_with (go_at_call 28; (with_reducible refine HC.out.mono ?_); rintro e_ w6 ⟨v6, rfl, hr6, hb6⟩; have HJ6 := Aside0.mk (HJ.out.more hb6); have HA6 := Aside0.mk (Kd.R_below HA.out hb6); obtain ⟨A6, c6, e6⟩ := Kd.R_slice hr6; subst e6; have HM6 := Aside0.mk (setR_max hr6); have HR6 := Aside0.mk hr6; clear hr6 hb6)
          clear z3 z4 h0 h1 h2 h3 h4
          go_loopw [8, 51] (fun s8 s51 wy => ∃ (q : Nat) (aq : List Int), s51 = .int .i64 (q : Int) ∧ q ≤ l2.length ∧ Aside0 (withsS k (l2.drop q) aq = some a2) ∧ Aside0 (SetR wy B aq s8) ∧ Aside0 (SetR wy B l2 (.slice A6 l2.length c6)) ∧ Aside0 (Own w wy bl)) (fun _ s51 _ => l2.length - (intOf s51).toNat)
          case atStart => exact ⟨0, al, rfl, by omega, by simpa using HW2, HA6, HR6, HJ6⟩
          case round =>
            clear HW2 HA6 HR6 HJ6 HJ HT HA
            obtain ⟨q, aq, rfl, hq, HW2, HA, HR6, HJ⟩ := hrel
            by_cases hql : q < l2.length
            · obtain ⟨ae, ee, hc0⟩ := Kd.at_int (Kd.R_reads' HR6.out).2.2 (q : Int) (by omega) (by omega)
              cases ee
              rw [Int.toNat_natCast] at hc0
              have hh := HW2.out
              rw [drop_int l2 q hql] at hh
              obtain ⟨p, hp⟩ : ∃ p, rd l2 (q : Int) = p := ⟨_, rfl⟩
              rw [hp] at hc0 hh
              simp only [withsS] at hh
              obtain ⟨t3, ht3, hh⟩ := Option.bind_eq_some_iff.mp hh
              have HW3 := Aside0.mk hh
              have i1 : decide ((q : Int) < (l2.length : Int)) = true := decide_eq_true (by omega)
              have i2 : ((0 : Int) ≤ (q : Int)) = True := eq_true (by omega)
              have i3 : ((q : Int) < (l2.length : Int)) = True := eq_true (by omega)
              have HLQ := Aside0.mk hql
              have hw2 := sn_wrap q (by have := HM6.out; have := HLQ.out; omega)
              have HWC := Aside0.mk (with_calls k B aq p u8 t3 wr HA.out (by have := HJ.out.below.size; have := HBB.out; omega) ht3)
              clear hp hql hh ht3
              go_wp2_with (go_at_call 39; (with_reducible refine HWC.out.mono ?_); rintro e_ w7 ⟨v7, rfl, hr7, hb7⟩; have HR7 := Aside0.mk hr7; have HJ7 := Aside0.mk (HJ.out.more hb7); have HR67 := Aside0.mk (Kd.R_below HR6.out hb7); clear hr7 hb7)
              refine ⟨⟨q + 1, t3, by first | (rw [hw2]; done) | rfl | simp, HLQ.out, HW3, HR7, HR67, HJ7⟩, ?_⟩
              first | (rw [hw2]) | skip
              show l2.length - _ < l2.length - _
              have := HLQ.out
              simp only [intOf, Int.toNat_natCast]
              omega
            · have hn : q = l2.length := by omega
              subst hn
              have i1 : decide ((l2.length : Int) < (l2.length : Int)) = false := decide_eq_false (by omega)
              have hh := HW2.out
              rw [List.drop_length] at hh
              simp only [withsS] at hh
              obtain rfl := Option.some.inj hh
              obtain ⟨A9, c9, e9⟩ := Kd.R_slice HA.out
              subst e9
              have z3 := blk_cell (HJ.out.blk _ _ _ HMX.out) 3
              clear hh HW2 hq
              have hx : x3 < 0 := of_decide_eq_true p1
              by_cases ha : aq.length = al.length
              · obtain rfl : aq = r := by have h9 := HMM.out; rw [if_pos (by exact .inl ⟨ha, hx⟩)] at h9; exact Option.some.inj h9
                have d1 : ((aq.length : Int) == (al.length : Int)) = true := beq_iff_eq.mpr (by omega)
                have d1' : (aq.length == al.length) = true := beq_iff_eq.mpr ha
                clear hx ha HMM HG
                go_wp2
                go_ret
                exact ⟨_, rfl, HA.out, HJ.out.below⟩
              · have d1 : ((aq.length : Int) == (al.length : Int)) = false := beq_eq_false_iff_ne.mpr (by omega)
                have d1' : (aq.length == al.length) = false := beq_eq_false_iff_ne.mpr ha
                by_cases hb : l2.length = 0
                · obtain rfl : aq = r := by have h9 := HMM.out; rw [if_pos (by exact .inr hb)] at h9; exact Option.some.inj h9
                  have d0 : ((l2.length : Int) == 0) = true := beq_iff_eq.mpr (by omega)
                  clear hx ha hb HMM HG
                  go_wp2
                  go_ret
                  exact ⟨_, rfl, HA.out, HJ.out.below⟩
                · have HMM2 := Aside0.mk (show moreS k (reachS k l n y) x3 k1 (wrap64 (j + 1)) l2 aq = some r from by have h9 := HMM.out; rw [if_neg (by rintro (⟨h1, _⟩ | h1); exact ha h1; exact hb h1)] at h9; exact h9)
                  have d0 : ((l2.length : Int) == 0) = false := beq_eq_false_iff_ne.mpr (by omega)
                  clear hx ha hb HMM HG
                  go_wp2
                  go_roundg k1
                  case measure => omega
                  case rel => exact ⟨wrap64 (j + 1), l2, aq, rfl, HMM2, HR6, HA, HJ⟩
        · have p1 : decide (x3 < 0) = false := decide_eq_false hx
          have p2 : decide (j < x3) = true := decide_eq_true (by omega)
          clear hg hx
          go_wp2_with (go_at_call 28; (with_reducible refine HC.out.mono ?_); rintro e_ w6 ⟨v6, rfl, hr6, hb6⟩; have HJ6 := Aside0.mk (HJ.out.more hb6); have HA6 := Aside0.mk (Kd.R_below HA.out hb6); obtain ⟨A6, c6, e6⟩ := Kd.R_slice hr6; subst e6; have HM6 := Aside0.mk (setR_max hr6); have HR6 := Aside0.mk hr6; clear hr6 hb6)
          clear z3 z4 h0 h1 h2 h3 h4
          go_loopw [8, 51] (fun s8 s51 wy => ∃ (q : Nat) (aq : List Int), s51 = .int .i64 (q : Int) ∧ q ≤ l2.length ∧ Aside0 (withsS k (l2.drop q) aq = some a2) ∧ Aside0 (SetR wy B aq s8) ∧ Aside0 (SetR wy B l2 (.slice A6 l2.length c6)) ∧ Aside0 (Own w wy bl)) (fun _ s51 _ => l2.length - (intOf s51).toNat)
          case atStart => exact ⟨0, al, rfl, by omega, by simpa using HW2, HA6, HR6, HJ6⟩
          case round =>
            clear HW2 HA6 HR6 HJ6 HJ HT HA
            obtain ⟨q, aq, rfl, hq, HW2, HA, HR6, HJ⟩ := hrel
            by_cases hql : q < l2.length
            · obtain ⟨ae, ee, hc0⟩ := Kd.at_int (Kd.R_reads' HR6.out).2.2 (q : Int) (by omega) (by omega)
              cases ee
              rw [Int.toNat_natCast] at hc0
              have hh := HW2.out
              rw [drop_int l2 q hql] at hh
              obtain ⟨p, hp⟩ : ∃ p, rd l2 (q : Int) = p := ⟨_, rfl⟩
              rw [hp] at hc0 hh
              simp only [withsS] at hh
              obtain ⟨t3, ht3, hh⟩ := Option.bind_eq_some_iff.mp hh
              have HW3 := Aside0.mk hh
              have i1 : decide ((q : Int) < (l2.length : Int)) = true := decide_eq_true (by omega)
              have i2 : ((0 : Int) ≤ (q : Int)) = True := eq_true (by omega)
              have i3 : ((q : Int) < (l2.length : Int)) = True := eq_true (by omega)
              have HLQ := Aside0.mk hql
              have hw2 := sn_wrap q (by have := HM6.out; have := HLQ.out; omega)
              have HWC := Aside0.mk (with_calls k B aq p u8 t3 wr HA.out (by have := HJ.out.below.size; have := HBB.out; omega) ht3)
              clear hp hql hh ht3
              go_wp2_with (go_at_call 39; (with_reducible refine HWC.out.mono ?_); rintro e_ w7 ⟨v7, rfl, hr7, hb7⟩; have HR7 := Aside0.mk hr7; have HJ7 := Aside0.mk (HJ.out.more hb7); have HR67 := Aside0.mk (Kd.R_below HR6.out hb7); clear hr7 hb7)
              refine ⟨⟨q + 1, t3, by first | (rw [hw2]; done) | rfl | simp, HLQ.out, HW3, HR7, HR67, HJ7⟩, ?_⟩
              first | (rw [hw2]) | skip
              show l2.length - _ < l2.length - _
              have := HLQ.out
              simp only [intOf, Int.toNat_natCast]
              omega
            · have hn : q = l2.length := by omega
              subst hn
              have i1 : decide ((l2.length : Int) < (l2.length : Int)) = false := decide_eq_false (by omega)
              have hh := HW2.out
              rw [List.drop_length] at hh
              simp only [withsS] at hh
              obtain rfl := Option.some.inj hh
              obtain ⟨A9, c9, e9⟩ := Kd.R_slice HA.out
              subst e9
              have z3 := blk_cell (HJ.out.blk _ _ _ HMX.out) 3
              clear hh HW2 hq
              have hx : ¬ x3 < 0 := of_decide_eq_false p1
              by_cases ha : aq.length = al.length
              · have d1 : ((aq.length : Int) == (al.length : Int)) = true := beq_iff_eq.mpr (by omega)
                have d1' : (aq.length == al.length) = true := beq_iff_eq.mpr ha
                clear ha
                by_cases hb : l2.length = 0
                · obtain rfl : aq = r := by have h9 := HMM.out; rw [if_pos (by exact .inr hb)] at h9; exact Option.some.inj h9
                  have d0 : ((l2.length : Int) == 0) = true := beq_iff_eq.mpr (by omega)
                  clear hb HMM HG
                  go_wp2
                  go_ret
                  exact ⟨_, rfl, HA.out, HJ.out.below⟩
                · have HMM2 := Aside0.mk (show moreS k (reachS k l n y) x3 k1 (wrap64 (j + 1)) l2 aq = some r from by have h9 := HMM.out; rw [if_neg (by rintro (⟨_, h1⟩ | h1); exact hx h1; exact hb h1)] at h9; exact h9)
                  have d0 : ((l2.length : Int) == 0) = false := beq_eq_false_iff_ne.mpr (by omega)
                  clear hx hb HMM HG
                  go_wp2
                  go_roundg k1
                  case measure => omega
                  case rel => exact ⟨wrap64 (j + 1), l2, aq, rfl, HMM2, HR6, HA, HJ⟩
              · have d1 : ((aq.length : Int) == (al.length : Int)) = false := beq_eq_false_iff_ne.mpr (by omega)
                have d1' : (aq.length == al.length) = false := beq_eq_false_iff_ne.mpr ha
                clear ha
                by_cases hb : l2.length = 0
                · obtain rfl : aq = r := by have h9 := HMM.out; rw [if_pos (by exact .inr hb)] at h9; exact Option.some.inj h9
                  have d0 : ((l2.length : Int) == 0) = true := beq_iff_eq.mpr (by omega)
                  clear hb HMM HG
                  go_wp2
                  go_ret
                  exact ⟨_, rfl, HA.out, HJ.out.below⟩
                · have HMM2 := Aside0.mk (show moreS k (reachS k l n y) x3 k1 (wrap64 (j + 1)) l2 aq = some r from by have h9 := HMM.out; rw [if_neg (by rintro (⟨_, h1⟩ | h1); exact hx h1; exact hb h1)] at h9; exact h9)
                  have d0 : ((l2.length : Int) == 0) = false := beq_eq_false_iff_ne.mpr (by omega)
                  clear hx hb HMM HG
                  go_wp2
                  go_roundg k1
                  case measure => omega
                  case rel => exact ⟨wrap64 (j + 1), l2, aq, rfl, HMM2, HR6, HA, HJ⟩
end Go.Proofs.Ytaphbechnjmlgaa.P
namespace Go.Proofs.Ytaphbechnjmlgaa.P
open Go.RowKit Go.Proofs.YtaphbechnjmlgaaW.PrintWords Go.Proofs.YtaphbechnjmlgaaW.PrintLast Go.Proofs.YtaphbechnjmlgaaW.PrintMore
set_option linter.unusedVariables false
set_option linter.unusedSimpArgs false

theorem again_of (k : Nat) (l : List Int) (n : Nat) (ih : ReachN k l n) : AgainN k l n := by
  intro x v A c at_ u r B w hN h1 hl hlc hu hB h
  obtain ⟨A1, c1, A4, c4, rfl, l1, g1, l4, g4⟩ := hN
  obtain ⟨x0, x1, x2, x3, x4⟩ := x
  dsimp only at h1 g4 l4 h ⊢
  obtain ⟨y, rfl⟩ := List.length_eq_one_iff.mp h1
  exact again_step k l n ih x0 A1 c1 x1 x2 x3 A4 c4 y A c at_ u r B w g4 hl hlc hu hB h
theorem reach_calls (k : Nat) (l : List Int) : ∀ n, ReachN k l n
  | 0 => fun x v A c at_ u r B w _ _ _ _ _ h => by simp [reachS] at h
  | n + 1 => fun x v A c at_ u r B w hN hl hlc hu hB h => by
    obtain ⟨A1, c1, A4, c4, rfl, l1, g1, l4, g4⟩ := hN
    obtain ⟨x0, x1, x2, x3, x4⟩ := x
    obtain ⟨Au, cu, rfl⟩ := Kd.R_slice hu
    exact reach_step k l n (reach_calls k l n) (again_of k l n (reach_calls k l n)) x0 A1 c1 x1 x2 x3 A4 c4 x4 A c at_ Au cu r B w l1 g1 l4 g4 hl hlc hu hB h
/-- Up to where a tree matches. -/
def endsS (k : Nat) (x : DNode) (l : List Int) (a : Int) : Option (List Int) := if a < 0 ∨ (l.length : Int) < a then some [] else reachS k l k x [a]
set_option maxHeartbeats 4000000 in
theorem ends_calls (k : Nat) (x0 : Int) (A1 : Option Addr) (c1 : Nat) (x1 : List S52) (x2 x3 : Int) (A4 : Option Addr) (c4 : Nat) (x4 : List DNode) (A : Option Addr) (c : Nat) (l : List Int) (a : Int) (r : List Int) (w : World)
    (q1 : Kd.C k52 w A1 x1.length x1) (l1 : x1.length ≤ c1) (q4 : Kd.C k25 w A4 x4.length x4) (l4 : x4.length ≤ c4) (hl : Kd.C (Kd.int .i64) w A l.length l) (hlc : l.length ≤ c) (h : endsS k ⟨x0, x1, x2, x3, x4⟩ l a = some r) :
    Calls Try.prog 14 #[.agg #[.int .i64 x0, .slice A1 x1.length c1, .int .i64 x2, .int .i64 x3, .slice A4 x4.length c4], .slice A l.length c, .int .i64 a] w fun e w' => ∃ v0_ : Value, e = .returned (v0_) ∧ SetR w' w.heap.size r v0_ ∧ Below w.heap.size w w' := by
  have hun := Try.underlying25
  have hus := Try.underlying48
  unfold endsS at h
  have HQ := Aside0.mk (And.intro l1 (And.intro q1 (And.intro l4 q4)))
  have HL := Aside0.mk (And.intro hl hlc)
  have HB := Aside0.mk (Below.refl w.heap.size w)
  by_cases ha : a < 0
  · rw [if_pos (.inl ha)] at h
    obtain rfl := Option.some.inj h
    have p1 : decide (a < 0) = true := decide_eq_true ha
    clear h l1 q1 l4 q4 hl hlc ha
    go_enter Try.func14, Try.ntmps14
    go_wp2_with (((with_reducible refine gate_dst (N := 3) rfl ?_); (try (refine gate_guard (by rfl) ?_; dsimp only)); refine box_event ?hg (N := 3) ?hd (cs := #[.int .i64 x0, .slice A1 x1.length c1, .int .i64 x2, .int .i64 x3, .slice A4 x4.length c4]) (t := 25) ?hr ?_; (case hd => rfl); (case hg => rfl); (case hr => first | (go_simp; done) | (go_simp; rfl)); intro gx hg w3 hbox hb; have HB3 := Aside0.mk (below_step HB.out hb); clear hb hbox hg))
    go_ret
    exact ⟨_, rfl, Kd.R_nil _ _ _ _ _, HB3.out⟩
  have p1 : decide (a < 0) = false := decide_eq_false ha
  by_cases hb : (l.length : Int) < a
  · rw [if_pos (.inr hb)] at h
    obtain rfl := Option.some.inj h
    have p2 : decide ((l.length : Int) < a) = true := decide_eq_true hb
    clear h l1 q1 l4 q4 hl hlc ha hb
    go_enter Try.func14, Try.ntmps14
    go_wp2_with (((with_reducible refine gate_dst (N := 3) rfl ?_); (try (refine gate_guard (by rfl) ?_; dsimp only)); refine box_event ?hg (N := 3) ?hd (cs := #[.int .i64 x0, .slice A1 x1.length c1, .int .i64 x2, .int .i64 x3, .slice A4 x4.length c4]) (t := 25) ?hr ?_; (case hd => rfl); (case hg => rfl); (case hr => first | (go_simp; done) | (go_simp; rfl)); intro gx hg w3 hbox hb; have HB3 := Aside0.mk (below_step HB.out hb); clear hb hbox hg))
    go_ret
    exact ⟨_, rfl, Kd.R_nil _ _ _ _ _, HB3.out⟩
  have p2 : decide ((l.length : Int) < a) = false := decide_eq_false hb
  rw [if_neg (by omega)] at h
  have HH := Aside0.mk h
  clear h l1 q1 l4 q4 hl hlc ha hb
  go_enter Try.func14, Try.ntmps14
  go_wp2_with (first
    | ((with_reducible refine gate_dst (N := 3) rfl ?_); (try (refine gate_guard (by rfl) ?_; dsimp only)); refine box_event ?hg (N := 3) ?hd (cs := #[.int .i64 x0, .slice A1 x1.length c1, .int .i64 x2, .int .i64 x3, .slice A4 x4.length c4]) (t := 25) ?hr ?_; (case hd => rfl); (case hg => rfl); (case hr => first | (go_simp; done) | (go_simp; rfl)); intro gx hg w3 hbox hb; have HB3 := Aside0.mk (below_step HB.out hb); have z0 := blk_cell hbox 0; have z1 := blk_cell hbox 1; have z2 := blk_cell hbox 2; have z3 := blk_cell hbox 3; have z4 := blk_cell hbox 4; have HC := Aside0.mk (reach_calls k l k ⟨x0, x1, x2, x3, x4⟩ (.agg #[.int .i64 x0, .slice A1 x1.length c1, .int .i64 x2, .int .i64 x3, .slice A4 x4.length c4]) A c [a] (.slice (some ⟨w3.heap.size, 0, none⟩) 1 1) r w.heap.size (w3.alloc (.cells #[.int .i64 a] 3)) (NodeAt.below ⟨A1, c1, A4, c4, rfl, HQ.out.1, HQ.out.2.1, HQ.out.2.2.1, HQ.out.2.2.2⟩ (below_alloc HB3.out _)) (Kd.C_below HL.out.1 (below_alloc HB3.out _)) HL.out.2 (setR_of (ys := [a]) (cap := 1) (g := w3.heap.size) HB3.out.size (heap_alloc_new w3 _) (Nat.le_refl _) (by decide) rfl rfl) (by have := HB3.out.size; simp only [World.size_alloc]; omega) HH.out); clear hb hbox hg)
    | (go_at_call 28; (with_reducible refine HC.out.mono ?_); rintro e_ w6 ⟨v6, rfl, hr6, hb6⟩; have HR6 := Aside0.mk hr6; have HB6 := Aside0.mk (below_step (below_alloc HB3.out _) hb6); clear hr6 hb6))
  go_ret
  exact ⟨_, rfl, HR6.out, HB6.out⟩
def deriv_Ends.f (k : Nat) (a0_0 : Int) (l0_1 : List (S52)) (a0_2 : Int) (a0_3 : Int) (l0_4 : List (S25)) (l1 : List Int) (a2 : Int) : Option (List Int) := endsS k ⟨a0_0, l0_1, a0_2, a0_3, l0_4⟩ l1 a2
theorem deriv_Ends.calls (k : Nat) (a0_0 : Int) (A0_1 : Option Addr) (c0_1 : Nat) (l0_1 : List (S52)) (a0_2 : Int) (a0_3 : Int) (A0_4 : Option Addr) (c0_4 : Nat) (l0_4 : List (S25)) (A1 : Option Addr) (c1 : Nat) (l1 : List Int) (a2 : Int) (r : List Int) (w : World) (hr0_1 : Kd.C k52 w A0_1 l0_1.length l0_1) (hc0_1 : l0_1.length ≤ c0_1) (hr0_4 : Kd.C k25 w A0_4 l0_4.length l0_4) (hc0_4 : l0_4.length ≤ c0_4) (hr1 : Kd.C (Kd.int .i64) w A1 l1.length l1) (hc1 : l1.length ≤ c1) (h : deriv_Ends.f k a0_0 l0_1 a0_2 a0_3 l0_4 l1 a2 = some r) :
    Calls Try.prog 14 #[.agg #[.int .i64 a0_0, .slice A0_1 l0_1.length c0_1, .int .i64 a0_2, .int .i64 a0_3, .slice A0_4 l0_4.length c0_4], .slice A1 l1.length c1, .int .i64 a2] w fun e w' => ∃ v0_ : Value, e = .returned (v0_) ∧ Kd.R (Kd.int .i64) 3 w' w.heap.size (fun _ => True) v0_ r ∧ Below w.heap.size w w' :=
  ends_calls k a0_0 A0_1 c0_1 l0_1 a0_2 a0_3 A0_4 c0_4 l0_4 A1 c1 l1 a2 r w hr0_1 hc0_1 hr0_4 hc0_4 hr1 hc1 h
end Go.Proofs.Ytaphbechnjmlgaa.P
