/- Printed by a program of this claim's own over the translation: Lean functions of the Go functions, each with its proof; no condition beyond those written. -/
import Derived.Test.YtmjipbmpapcboaaPx0
namespace Go.Proofs.Ytmjipbmpapcboaa.P
open Go.RowKit Go.Proofs.YtmjipbmpapcboaaW.PrintWords Go.Proofs.YtmjipbmpapcboaaW.PrintLast Go.Proofs.YtmjipbmpapcboaaW.PrintMore
attribute [local go_sem] max2_int min2_int max_two min_two max_three min_three max_four min_four   -- for this text's walks alone
set_option linter.unusedVariables false
set_option linter.unusedSimpArgs false

-- BY HAND: function 21 (ductusref02_Of)

/-! ### ductusref02_Opens: function 22 -/
def ductusref02_Opens.f (a0 : Int) : Option (Bool) := if a0 = 19 then (some true) else (if a0 = 20 then (some true) else (some (a0 == 21)))
set_option maxHeartbeats 8000000 in
set_option maxRecDepth 100000 in
theorem ductusref02_Opens.calls (a0 : Int) (r : Bool) (w : World) (h : ductusref02_Opens.f a0 = some r) :
    Calls Try.prog 22 #[.int .i64 a0] w fun e w' => e = .returned (.bool r) ∧ Drawn0 w w' := by
  have H : (if a0 = 19 then (some true) else (if a0 = 20 then (some true) else (some (a0 == 21)))) = some r := h
  clear h
  by_cases c2 : a0 = 19
  · rw [if_pos c2] at H
    have c2b0 : (a0 == 19) = true := beq_iff_eq.mpr c2
    have c2b1 : (a0 != 19) = false := bne_eq_false_iff_eq.mpr c2
    clear c2
    obtain rfl := Option.some.inj H
    go_enter Try.func22, Try.ntmps22
    go_wp2
    go_ret
    exact ⟨by first | rfl | (simp; done) | (simp [*]; done), by repeat (first | exact Drawn0.refl _ | apply Drawn0.step)⟩
  rw [if_neg c2] at H
  have c2b0 : (a0 == 19) = false := beq_eq_false_iff_ne.mpr c2
  have c2b1 : (a0 != 19) = true := bne_iff_ne.mpr c2
  by_cases c3 : a0 = 20
  rotate_left
  · rw [if_neg c3] at H
    have c3b0 : (a0 == 20) = false := beq_eq_false_iff_ne.mpr c3
    have c3b1 : (a0 != 20) = true := bne_iff_ne.mpr c3
    obtain rfl := Option.some.inj H
    go_enter Try.func22, Try.ntmps22
    go_wp2
    go_ret
    exact ⟨by first | rfl | (simp; done) | (simp [*]; done), by repeat (first | exact Drawn0.refl _ | apply Drawn0.step)⟩
  rw [if_pos c3] at H
  have c3b0 : (a0 == 20) = true := beq_iff_eq.mpr c3
  have c3b1 : (a0 != 20) = false := bne_eq_false_iff_eq.mpr c3
  clear c3
  obtain rfl := Option.some.inj H
  go_enter Try.func22, Try.ntmps22
  go_wp2
  go_ret
  exact ⟨by first | rfl | (simp; done) | (simp [*]; done), by repeat (first | exact Drawn0.refl _ | apply Drawn0.step)⟩

/-! ### ductusref02_Out: function 23 -/
def ductusref02_Out.f (a0 : Int) : Option (Bool) := if a0 = 9 then (some true) else (if a0 = 14 then (some true) else (if a0 = 15 then (some true) else (if a0 = 16 then (some true) else (if a0 = 17 then (some true) else (some (a0 == 18))))))
set_option maxHeartbeats 8000000 in
set_option maxRecDepth 100000 in
theorem ductusref02_Out.calls (a0 : Int) (r : Bool) (w : World) (h : ductusref02_Out.f a0 = some r) :
    Calls Try.prog 23 #[.int .i64 a0] w fun e w' => e = .returned (.bool r) ∧ Drawn0 w w' := by
  have H : (if a0 = 9 then (some true) else (if a0 = 14 then (some true) else (if a0 = 15 then (some true) else (if a0 = 16 then (some true) else (if a0 = 17 then (some true) else (some (a0 == 18))))))) = some r := h
  clear h
  by_cases c2 : a0 = 9
  · rw [if_pos c2] at H
    have c2b0 : (a0 == 9) = true := beq_iff_eq.mpr c2
    have c2b1 : (a0 != 9) = false := bne_eq_false_iff_eq.mpr c2
    clear c2
    obtain rfl := Option.some.inj H
    go_enter Try.func23, Try.ntmps23
    go_wp2
    go_ret
    exact ⟨by first | rfl | (simp; done) | (simp [*]; done), by repeat (first | exact Drawn0.refl _ | apply Drawn0.step)⟩
  rw [if_neg c2] at H
  have c2b0 : (a0 == 9) = false := beq_eq_false_iff_ne.mpr c2
  have c2b1 : (a0 != 9) = true := bne_iff_ne.mpr c2
  by_cases c3 : a0 = 14
  · rw [if_pos c3] at H
    have c3b0 : (a0 == 14) = true := beq_iff_eq.mpr c3
    have c3b1 : (a0 != 14) = false := bne_eq_false_iff_eq.mpr c3
    clear c3
    obtain rfl := Option.some.inj H
    go_enter Try.func23, Try.ntmps23
    go_wp2
    go_ret
    exact ⟨by first | rfl | (simp; done) | (simp [*]; done), by repeat (first | exact Drawn0.refl _ | apply Drawn0.step)⟩
  rw [if_neg c3] at H
  have c3b0 : (a0 == 14) = false := beq_eq_false_iff_ne.mpr c3
  have c3b1 : (a0 != 14) = true := bne_iff_ne.mpr c3
  by_cases c4 : a0 = 15
  · rw [if_pos c4] at H
    have c4b0 : (a0 == 15) = true := beq_iff_eq.mpr c4
    have c4b1 : (a0 != 15) = false := bne_eq_false_iff_eq.mpr c4
    clear c4
    obtain rfl := Option.some.inj H
    go_enter Try.func23, Try.ntmps23
    go_wp2
    go_ret
    exact ⟨by first | rfl | (simp; done) | (simp [*]; done), by repeat (first | exact Drawn0.refl _ | apply Drawn0.step)⟩
  rw [if_neg c4] at H
  have c4b0 : (a0 == 15) = false := beq_eq_false_iff_ne.mpr c4
  have c4b1 : (a0 != 15) = true := bne_iff_ne.mpr c4
  by_cases c5 : a0 = 16
  · rw [if_pos c5] at H
    have c5b0 : (a0 == 16) = true := beq_iff_eq.mpr c5
    have c5b1 : (a0 != 16) = false := bne_eq_false_iff_eq.mpr c5
    clear c5
    obtain rfl := Option.some.inj H
    go_enter Try.func23, Try.ntmps23
    go_wp2
    go_ret
    exact ⟨by first | rfl | (simp; done) | (simp [*]; done), by repeat (first | exact Drawn0.refl _ | apply Drawn0.step)⟩
  rw [if_neg c5] at H
  have c5b0 : (a0 == 16) = false := beq_eq_false_iff_ne.mpr c5
  have c5b1 : (a0 != 16) = true := bne_iff_ne.mpr c5
  by_cases c6 : a0 = 17
  rotate_left
  · rw [if_neg c6] at H
    have c6b0 : (a0 == 17) = false := beq_eq_false_iff_ne.mpr c6
    have c6b1 : (a0 != 17) = true := bne_iff_ne.mpr c6
    obtain rfl := Option.some.inj H
    go_enter Try.func23, Try.ntmps23
    go_wp2
    go_ret
    exact ⟨by first | rfl | (simp; done) | (simp [*]; done), by repeat (first | exact Drawn0.refl _ | apply Drawn0.step)⟩
  rw [if_pos c6] at H
  have c6b0 : (a0 == 17) = true := beq_iff_eq.mpr c6
  have c6b1 : (a0 != 17) = false := bne_eq_false_iff_eq.mpr c6
  clear c6
  obtain rfl := Option.some.inj H
  go_enter Try.func23, Try.ntmps23
  go_wp2
  go_ret
  exact ⟨by first | rfl | (simp; done) | (simp [*]; done), by repeat (first | exact Drawn0.refl _ | apply Drawn0.step)⟩

/-! ### ductusref13_light: function 30 -/
def ductusref13_light.f (a0 : Int) : Option (Bool) := if a0 = 12 then (some true) else ((ductusref02_Opens.f a0).bind fun t239 => (if t239 = true then (some true) else (if a0 = 22 then (some true) else ((ductusref02_Out.f a0).bind fun t240 => (some t240)))))
set_option maxHeartbeats 8000000 in
set_option maxRecDepth 100000 in
theorem ductusref13_light.calls (a0 : Int) (r : Bool) (w : World) (h : ductusref13_light.f a0 = some r) :
    Calls Try.prog 30 #[.int .i64 a0] w fun e w' => e = .returned (.bool r) ∧ Drawn0 w w' := by
  have H : (if a0 = 12 then (some true) else ((ductusref02_Opens.f a0).bind fun t239 => (if t239 = true then (some true) else (if a0 = 22 then (some true) else ((ductusref02_Out.f a0).bind fun t240 => (some t240)))))) = some r := h
  clear h
  by_cases c2 : a0 = 12
  · rw [if_pos c2] at H
    have c2b0 : (a0 == 12) = true := beq_iff_eq.mpr c2
    have c2b1 : (a0 != 12) = false := bne_eq_false_iff_eq.mpr c2
    clear c2
    obtain rfl := Option.some.inj H
    go_enter Try.func30, Try.ntmps30
    go_wp2
    go_ret
    exact ⟨by first | rfl | (simp; done) | (simp [*]; done), by repeat (first | exact Drawn0.refl _ | apply Drawn0.step)⟩
  rw [if_neg c2] at H
  have c2b0 : (a0 == 12) = false := beq_eq_false_iff_ne.mpr c2
  have c2b1 : (a0 != 12) = true := bne_iff_ne.mpr c2
  replace H := Option.bind_eq_some_iff.mp H
  obtain ⟨t239, A30, H⟩ := H
  replace H : (if t239 = true then (some true) else (if a0 = 22 then (some true) else ((ductusref02_Out.f a0).bind fun t240 => (some t240)))) = some r := H
  have A3 := Aside0.mk A30
  clear A30
  by_cases c4 : t239 = true
  · subst c4
    have H1 : (some true) = some r := by rw [if_pos rfl] at H; exact H
    clear H
    have H := H1
    clear H1
    obtain rfl := Option.some.inj H
    go_enter Try.func30, Try.ntmps30
    go_wp2_with (first | (go_at_call 22; (with_reducible refine (ductusref02_Opens.calls a0 true _ A3.out).mono ?_); rintro e w' ⟨rfl, ⟨nd, rfl⟩⟩))
    go_ret
    exact ⟨by first | rfl | (simp; done) | (simp [*]; done), by repeat (first | exact Drawn0.refl _ | apply Drawn0.step)⟩
  replace c4 := Bool.eq_false_iff.mpr c4
  subst c4
  have H1 : (if a0 = 22 then (some true) else ((ductusref02_Out.f a0).bind fun t240 => (some t240))) = some r := by rw [if_neg (show ¬ (false = true) by decide)] at H; exact H
  clear H
  have H := H1
  clear H1
  by_cases c5 : a0 = 22
  · rw [if_pos c5] at H
    have c5b0 : (a0 == 22) = true := beq_iff_eq.mpr c5
    have c5b1 : (a0 != 22) = false := bne_eq_false_iff_eq.mpr c5
    clear c5
    obtain rfl := Option.some.inj H
    go_enter Try.func30, Try.ntmps30
    go_wp2_with (first | (go_at_call 22; (with_reducible refine (ductusref02_Opens.calls a0 false _ A3.out).mono ?_); rintro e w' ⟨rfl, ⟨nd, rfl⟩⟩))
    go_ret
    exact ⟨by first | rfl | (simp; done) | (simp [*]; done), by repeat (first | exact Drawn0.refl _ | apply Drawn0.step)⟩
  rw [if_neg c5] at H
  have c5b0 : (a0 == 22) = false := beq_eq_false_iff_ne.mpr c5
  have c5b1 : (a0 != 22) = true := bne_iff_ne.mpr c5
  replace H := Option.bind_eq_some_iff.mp H
  obtain ⟨t240, A60, H⟩ := H
  replace H : (some t240) = some r := H
  have A6 := Aside0.mk A60
  clear A60
  obtain rfl := Option.some.inj H
  go_enter Try.func30, Try.ntmps30
  go_wp2_with (first | (go_at_call 22; (with_reducible refine (ductusref02_Opens.calls a0 false _ A3.out).mono ?_); rintro e w' ⟨rfl, ⟨nd, rfl⟩⟩) | (go_at_call 23; (with_reducible refine (ductusref02_Out.calls a0 t240 _ A6.out).mono ?_); rintro e w' ⟨rfl, ⟨nd, rfl⟩⟩))
  go_ret
  exact ⟨by first | rfl | (simp; done) | (simp [*]; done), by repeat (first | exact Drawn0.refl _ | apply Drawn0.step)⟩

end Go.Proofs.Ytmjipbmpapcboaa.P
