/- Printed by a program of this claim's own over the translation: Lean functions of the Go functions, each with its proof; no condition beyond those written. -/
import Derived.Test.YtgoebfeojkgimaaDoorPx0
import Derived.Test.YtgoebfeojkgimaaDoorPx4
namespace Go.Proofs.YtgoebfeojkgimaaDoor.P
open Go.RowKit Go.Proofs.YtgoebfeojkgimaaDoorW.PrintWords Go.Proofs.YtgoebfeojkgimaaDoorW.PrintLast Go.Proofs.YtgoebfeojkgimaaDoorW.PrintMore
attribute [local go_sem] max2_int min2_int max_two min_two max_three min_three max_four min_four   -- for this text's walks alone
set_option linter.unusedVariables false
set_option linter.unusedSimpArgs false

/-! ### ductuslaw09_WeakLeaves: function 3 -/
mutual
def ductuslaw09_WeakLeaves.j0 : Nat → List Int → Int → Option (Bool)
  | 0, _, _ => none
  | k + 1, x0, x5 => (weak_Of.f k x0 x5).bind fun t205 => (if (t205.length : Int) = (x0.length : Int) then (ductuslaw09_WeakLeaves.l0 k x0 x5 t205 0) else (none))
def ductuslaw09_WeakLeaves.l0 : Nat → List Int → Int → List Int → Int → Option (Bool)
  | 0, _, _, _, _ => none
  | k + 1, x0, x5, x6, x7 => if x7 < (x0.length : Int) then (if 0 ≤ x7 then (if x7 < (x6.length : Int) then (if (rd x6 x7) = 8 then (none) else (if (rd x6 x7) = 2 then (none) else (if (rd x6 x7) = 4 then (none) else (if (rd x6 x7) = 5 then (none) else (if (rd x6 x7) = 7 then (none) else (if (rd x6 x7) < 0 then (none) else (ductuslaw09_WeakLeaves.j2 k x0 x5 x6 x7 (rd x6 x7) (decide ((rd x6 x7) > 22))))))))) else (none)) else (none)) else (some true)
def ductuslaw09_WeakLeaves.j2 : Nat → List Int → Int → List Int → Int → Int → Bool → Option (Bool)
  | 0, _, _, _, _, _, _ => none
  | k + 1, x0, x5, x6, x7, x8, x58 => if x58 = true then (none) else (if 0 ≤ x7 then (if x7 < (x0.length : Int) then (if (rd x0 x7) = 0 then (if x8 = 0 then (if (rd x0 x7) = 1 then (none) else (if (rd x0 x7) = 2 then (none) else (if (rd x0 x7) ≥ 10 then (none) else (if (rd x0 x7) = 6 then (none) else (ductuslaw09_WeakLeaves.j3 k x0 x5 x6 x7 x8 false))))) else (none)) else (if (rd x0 x7) = 1 then (if x8 = 1 then (if (rd x0 x7) ≥ 10 then (none) else (if (rd x0 x7) = 6 then (none) else (ductuslaw09_WeakLeaves.j3 k x0 x5 x6 x7 x8 false))) else (none)) else (if (rd x0 x7) = 2 then (if x8 = 1 then (if (rd x0 x7) ≥ 10 then (none) else (if (rd x0 x7) = 6 then (none) else (ductuslaw09_WeakLeaves.j3 k x0 x5 x6 x7 x8 false))) else (none)) else (if (rd x0 x7) ≥ 10 then (if (rd x0 x7) ≤ 22 then (if x8 = (rd x0 x7) then (if (rd x0 x7) = 6 then (ductuslaw09_WeakLeaves.j3 k x0 x5 x6 x7 x8 (x8 != 6)) else (ductuslaw09_WeakLeaves.j3 k x0 x5 x6 x7 x8 false)) else (none)) else (if (rd x0 x7) = 6 then (ductuslaw09_WeakLeaves.j3 k x0 x5 x6 x7 x8 (x8 != 6)) else (ductuslaw09_WeakLeaves.j3 k x0 x5 x6 x7 x8 false))) else (if (rd x0 x7) = 6 then (ductuslaw09_WeakLeaves.j3 k x0 x5 x6 x7 x8 (x8 != 6)) else (ductuslaw09_WeakLeaves.j3 k x0 x5 x6 x7 x8 false)))))) else (none)) else (none))
def ductuslaw09_WeakLeaves.j3 : Nat → List Int → Int → List Int → Int → Int → Bool → Option (Bool)
  | 0, _, _, _, _, _, _ => none
  | k + 1, x0, x5, x6, x7, x8, x118 => if x118 = true then (none) else (if x8 = 3 then ((weak_Strong.f k x6 x7 x5).bind fun t226 => (if t226 = 0 then (none) else (ductuslaw09_WeakLeaves.l0 k x0 x5 x6 (wrap64 (x7 + 1))))) else (ductuslaw09_WeakLeaves.l0 k x0 x5 x6 (wrap64 (x7 + 1))))
end
def ductuslaw09_WeakLeaves.f (k : Nat) (l0 : List Int) (a1 : Bool) : Option (Bool) := (ductuslaw09_alive.f k).bind fun t204 => (if t204 = true then (if (l0.length : Int) > 200 then (some true) else (if a1 = true then (ductuslaw09_WeakLeaves.j0 k l0 1) else (ductuslaw09_WeakLeaves.j0 k l0 0))) else (none))
theorem ductuslaw09_WeakLeaves.mono_l : ∀ k, (∀ y0 y1, LeO (ductuslaw09_WeakLeaves.j0 k y0 y1) (ductuslaw09_WeakLeaves.j0 (k + 1) y0 y1)) ∧ (∀ y0 y1 y2 y3, LeO (ductuslaw09_WeakLeaves.l0 k y0 y1 y2 y3) (ductuslaw09_WeakLeaves.l0 (k + 1) y0 y1 y2 y3)) ∧ (∀ y0 y1 y2 y3 y4 y5, LeO (ductuslaw09_WeakLeaves.j2 k y0 y1 y2 y3 y4 y5) (ductuslaw09_WeakLeaves.j2 (k + 1) y0 y1 y2 y3 y4 y5)) ∧ (∀ y0 y1 y2 y3 y4 y5, LeO (ductuslaw09_WeakLeaves.j3 k y0 y1 y2 y3 y4 y5) (ductuslaw09_WeakLeaves.j3 (k + 1) y0 y1 y2 y3 y4 y5))
  | 0 => ⟨fun _ _ r h => by simp [ductuslaw09_WeakLeaves.j0] at h, fun _ _ _ _ r h => by simp [ductuslaw09_WeakLeaves.l0] at h, fun _ _ _ _ _ _ r h => by simp [ductuslaw09_WeakLeaves.j2] at h, fun _ _ _ _ _ _ r h => by simp [ductuslaw09_WeakLeaves.j3] at h⟩
  | k + 1 => by
    obtain ⟨ih0, ih1, ih2, ih3⟩ := ductuslaw09_WeakLeaves.mono_l k
    refine ⟨?_, ?_, ?_, ?_⟩
    · intro y0 y1
      unfold ductuslaw09_WeakLeaves.j0
      repeat' first
      | (with_reducible exact ih0 _ _)
      | (with_reducible exact ih1 _ _ _ _)
      | (with_reducible exact ih2 _ _ _ _ _ _)
      | (with_reducible exact ih3 _ _ _ _ _ _)
      | (with_reducible exact ductuslaw09_alive.mono _)
      | (with_reducible exact weak_Of.mono _ _ _)
      | (with_reducible exact weak_Strong.mono _ _ _ _)
      | (with_reducible exact LeO.refl _)
      | (with_reducible exact LeO.none _)
      | (with_reducible refine LeO.ite ?_ ?_)
      | (with_reducible refine LeO.bind ?_ (fun _ => ?_))
      | exact ih0 _ _
      | exact ih1 _ _ _ _
      | exact ih2 _ _ _ _ _ _
      | exact ih3 _ _ _ _ _ _
      | exact ductuslaw09_alive.mono _
      | exact weak_Of.mono _ _ _
      | exact weak_Strong.mono _ _ _ _
      | exact LeO.none _
      | refine LeO.ite ?_ ?_
      | refine LeO.bind ?_ (fun _ => ?_)
    · intro y0 y1 y2 y3
      unfold ductuslaw09_WeakLeaves.l0
      repeat' first
      | (with_reducible exact ih0 _ _)
      | (with_reducible exact ih1 _ _ _ _)
      | (with_reducible exact ih2 _ _ _ _ _ _)
      | (with_reducible exact ih3 _ _ _ _ _ _)
      | (with_reducible exact ductuslaw09_alive.mono _)
      | (with_reducible exact weak_Of.mono _ _ _)
      | (with_reducible exact weak_Strong.mono _ _ _ _)
      | (with_reducible exact LeO.refl _)
      | (with_reducible exact LeO.none _)
      | (with_reducible refine LeO.ite ?_ ?_)
      | (with_reducible refine LeO.bind ?_ (fun _ => ?_))
      | exact ih0 _ _
      | exact ih1 _ _ _ _
      | exact ih2 _ _ _ _ _ _
      | exact ih3 _ _ _ _ _ _
      | exact ductuslaw09_alive.mono _
      | exact weak_Of.mono _ _ _
      | exact weak_Strong.mono _ _ _ _
      | exact LeO.none _
      | refine LeO.ite ?_ ?_
      | refine LeO.bind ?_ (fun _ => ?_)
    · intro y0 y1 y2 y3 y4 y5
      unfold ductuslaw09_WeakLeaves.j2
      repeat' first
      | (with_reducible exact ih0 _ _)
      | (with_reducible exact ih1 _ _ _ _)
      | (with_reducible exact ih2 _ _ _ _ _ _)
      | (with_reducible exact ih3 _ _ _ _ _ _)
      | (with_reducible exact ductuslaw09_alive.mono _)
      | (with_reducible exact weak_Of.mono _ _ _)
      | (with_reducible exact weak_Strong.mono _ _ _ _)
      | (with_reducible exact LeO.refl _)
      | (with_reducible exact LeO.none _)
      | (with_reducible refine LeO.ite ?_ ?_)
      | (with_reducible refine LeO.bind ?_ (fun _ => ?_))
      | exact ih0 _ _
      | exact ih1 _ _ _ _
      | exact ih2 _ _ _ _ _ _
      | exact ih3 _ _ _ _ _ _
      | exact ductuslaw09_alive.mono _
      | exact weak_Of.mono _ _ _
      | exact weak_Strong.mono _ _ _ _
      | exact LeO.none _
      | refine LeO.ite ?_ ?_
      | refine LeO.bind ?_ (fun _ => ?_)
    · intro y0 y1 y2 y3 y4 y5
      unfold ductuslaw09_WeakLeaves.j3
      repeat' first
      | (with_reducible exact ih0 _ _)
      | (with_reducible exact ih1 _ _ _ _)
      | (with_reducible exact ih2 _ _ _ _ _ _)
      | (with_reducible exact ih3 _ _ _ _ _ _)
      | (with_reducible exact ductuslaw09_alive.mono _)
      | (with_reducible exact weak_Of.mono _ _ _)
      | (with_reducible exact weak_Strong.mono _ _ _ _)
      | (with_reducible exact LeO.refl _)
      | (with_reducible exact LeO.none _)
      | (with_reducible refine LeO.ite ?_ ?_)
      | (with_reducible refine LeO.bind ?_ (fun _ => ?_))
      | exact ih0 _ _
      | exact ih1 _ _ _ _
      | exact ih2 _ _ _ _ _ _
      | exact ih3 _ _ _ _ _ _
      | exact ductuslaw09_alive.mono _
      | exact weak_Of.mono _ _ _
      | exact weak_Strong.mono _ _ _ _
      | exact LeO.none _
      | refine LeO.ite ?_ ?_
      | refine LeO.bind ?_ (fun _ => ?_)
theorem ductuslaw09_WeakLeaves.mono : ∀ a0 a1 k, LeO (ductuslaw09_WeakLeaves.f k a0 a1) (ductuslaw09_WeakLeaves.f (k + 1) a0 a1) := by
  intro a0 a1 k
  obtain ⟨ih0, ih1, ih2, ih3⟩ := ductuslaw09_WeakLeaves.mono_l k
  unfold ductuslaw09_WeakLeaves.f
  repeat' first
      | (with_reducible exact ih0 _ _)
      | (with_reducible exact ih1 _ _ _ _)
      | (with_reducible exact ih2 _ _ _ _ _ _)
      | (with_reducible exact ih3 _ _ _ _ _ _)
      | (with_reducible exact ductuslaw09_alive.mono _)
      | (with_reducible exact weak_Of.mono _ _ _)
      | (with_reducible exact weak_Strong.mono _ _ _ _)
      | (with_reducible exact LeO.refl _)
      | (with_reducible exact LeO.none _)
      | (with_reducible refine LeO.ite ?_ ?_)
      | (with_reducible refine LeO.bind ?_ (fun _ => ?_))
      | exact ih0 _ _
      | exact ih1 _ _ _ _
      | exact ih2 _ _ _ _ _ _
      | exact ih3 _ _ _ _ _ _
      | exact ductuslaw09_alive.mono _
      | exact weak_Of.mono _ _ _
      | exact weak_Strong.mono _ _ _ _
      | exact LeO.none _
      | refine LeO.ite ?_ ?_
      | refine LeO.bind ?_ (fun _ => ?_)
set_option maxHeartbeats 8000000 in
set_option maxRecDepth 100000 in
theorem ductuslaw09_WeakLeaves.calls (k : Nat) (A0 : Option Addr) (c0 : Nat) (l0 : List Int) (a1 : Bool) (r : Bool) (w : World) (hr0 : Kd.C (Kd.int .i64) w A0 l0.length l0) (hc0 : l0.length ≤ c0) (h : ductuslaw09_WeakLeaves.f k l0 a1 = some r) (hL : WordsAt w) :
    Calls Tryd.prog 3 #[.slice A0 l0.length c0, .bool a1] w fun e w' => e = .returned (.bool r) ∧ Below w.heap.size w w' := by
  have HR0 := Aside0.mk hr0
  have HC0 := Aside0.mk hc0
  clear hr0 hc0
  have HB := Aside0.mk (Below.refl w.heap.size w)
  have H : ((ductuslaw09_alive.f k).bind fun t204 => (if t204 = true then (if (l0.length : Int) > 200 then (some true) else (if a1 = true then (ductuslaw09_WeakLeaves.j0 k l0 1) else (ductuslaw09_WeakLeaves.j0 k l0 0))) else (none))) = some r := h
  clear h
  replace H := Option.bind_eq_some_iff.mp H
  obtain ⟨t204, A30, H⟩ := H
  replace H : (if t204 = true then (if (l0.length : Int) > 200 then (some true) else (if a1 = true then (ductuslaw09_WeakLeaves.j0 k l0 1) else (ductuslaw09_WeakLeaves.j0 k l0 0))) else (none)) = some r := H
  have A3 := Aside0.mk A30
  clear A30
  by_cases c4 : t204 = true
  rotate_left
  · replace c4 := Bool.eq_false_iff.mpr c4
    subst c4
    have H1 : (none) = some r := by rw [if_neg (show ¬ (false = true) by decide)] at H; exact H
    clear H
    have H := H1
    clear H1
    exact absurd H (by simp)
  subst c4
  have H1 : (if (l0.length : Int) > 200 then (some true) else (if a1 = true then (ductuslaw09_WeakLeaves.j0 k l0 1) else (ductuslaw09_WeakLeaves.j0 k l0 0))) = some r := by rw [if_pos rfl] at H; exact H
  clear H
  have H := H1
  clear H1
  by_cases c5 : (l0.length : Int) > 200
  · rw [if_pos c5] at H
    have c5b0 : decide (200 < (l0.length : Int)) = true := decide_eq_true c5
    have c5b1 : decide (200 < l0.length) = true := decide_eq_true (by omega)
    clear c5
    obtain rfl := Option.some.inj H
    go_enter Tryd.func3, Tryd.ntmps3
    go_wp2_with (first | ((with_reducible refine gate_callee (f := 7) rfl ?_); refine goesL_ (some 9) rfl rfl Tryd.func7 (by kernel_rfl) rfl #[] rfl (by (try simp only [List.map_toArray, List.map_cons, List.map_nil]); first | done | rfl | (simp only [List.length_drop, List.length_take]; rfl)) ?_; (with_reducible refine (ductuslaw09_alive.calls k  true _ A3.out ?sideL).mono ?_); (case sideL => exact hL.at (by first | exact Below.refl _ _ | (repeat (first | (with_reducible first | exact HB.out | apply below_alloc | apply pw_below_drewN | apply below_drew1) | exact HB.out | exact Below.refl _ _)))); rintro e w6 ⟨rfl, hb⟩; refine ⟨_, rfl, ?_⟩; have n0_ := Aside0.mk (below_step (by repeat (first | (with_reducible first | exact HB.out | apply below_alloc | apply pw_below_drewN | apply below_drew1) | exact HB.out)) hb); clear HB; have HB := n0_; clear n0_; (try clear hb); (try clear hb2); (try clear hk); (try clear hi)))
    go_ret
    exact ⟨by first | rfl | (simp [errW_none, errW_some] <;> rfl) | (simp [*, errW_none, errW_some] <;> rfl), by repeat (first | (with_reducible first | exact HB.out | apply below_alloc | apply pw_below_drewN | apply below_drew1) | exact HB.out)⟩
  rw [if_neg c5] at H
  have c5b0 : decide (200 < (l0.length : Int)) = false := decide_eq_false c5
  have c5b1 : decide (200 < l0.length) = false := decide_eq_false (by omega)
  clear c5
  have HC7 := Aside0.mk H
  clear H
  go_enter Tryd.func3, Tryd.ntmps3
  go_upto_if 14 with (first | ((with_reducible refine gate_callee (f := 7) rfl ?_); refine goesL_ (some 9) rfl rfl Tryd.func7 (by kernel_rfl) rfl #[] rfl (by (try simp only [List.map_toArray, List.map_cons, List.map_nil]); first | done | rfl | (simp only [List.length_drop, List.length_take]; rfl)) ?_; (with_reducible refine (ductuslaw09_alive.calls k  true _ A3.out ?sideL).mono ?_); (case sideL => exact hL.at (by first | exact Below.refl _ _ | (repeat (first | (with_reducible first | exact HB.out | apply below_alloc | apply pw_below_drewN | apply below_drew1) | exact HB.out | exact Below.refl _ _)))); rintro e w8 ⟨rfl, hb⟩; refine ⟨_, rfl, ?_⟩; have n0_ := Aside0.mk (below_step (by repeat (first | (with_reducible first | exact HB.out | apply below_alloc | apply pw_below_drewN | apply below_drew1) | exact HB.out)) hb); clear HB; have HB := n0_; clear n0_; (try clear hb); (try clear hb2); (try clear hk); (try clear hi)))
  (try simp only [Act.put, List.setIfInBounds_toArray, List.set_cons_zero, List.set_cons_succ])
  go_cut [5] (fun v5 wc => ∃ (kq : Nat) (x5_6 : Int), v5 = .int .i64 x5_6 ∧ Aside0 (ductuslaw09_WeakLeaves.j0 kq l0 x5_6 = some r) ∧ Aside0 (kq ≤ k) ∧ Aside0 (Below w.heap.size w wc))
  case first =>
    have H := HC7.out
    clear HC7
    by_cases c9 : a1 = true
    · subst c9
      have H1 : (ductuslaw09_WeakLeaves.j0 k l0 1) = some r := by rw [if_pos rfl] at H; exact H
      clear H
      have H := H1
      clear H1
      have H' := Aside0.mk H
      clear H
      go_wp2
      go_meet
      case rel => exact ⟨_, (1), (by first | rfl | (simp; done) | (simp [*]; done)), H', ⟨by first | omega | exact Nat.le_refl _⟩, ⟨by repeat (first | (with_reducible first | exact HB.out | apply below_alloc | apply pw_below_drewN | apply below_drew1) | exact HB.out)⟩⟩
    replace c9 := Bool.eq_false_iff.mpr c9
    subst c9
    have H1 : (ductuslaw09_WeakLeaves.j0 k l0 0) = some r := by rw [if_neg (show ¬ (false = true) by decide)] at H; exact H
    clear H
    have H := H1
    clear H1
    have H' := Aside0.mk H
    clear H
    go_wp2
    go_meet
    case rel => exact ⟨_, (0), (by first | rfl | (simp; done) | (simp [*]; done)), H', ⟨by first | omega | exact Nat.le_refl _⟩, ⟨by repeat (first | (with_reducible first | exact HB.out | apply below_alloc | apply pw_below_drewN | apply below_drew1) | exact HB.out)⟩⟩
  case rest =>
    clear HC7
    try clear p2
    try clear c3
    try clear c4
    try clear c5
    try clear c5b0
    try clear c5b1
    try clear c7
    try clear c9
    obtain ⟨kq, x5_6, rfl, HA, HJ6, HB⟩ := hcut
    cases kq with
    | zero => exact absurd HA.out (by simp [ductuslaw09_WeakLeaves.j0])
    | succ kj6 =>
      have H := HA.out
      clear HA
      simp only [ductuslaw09_WeakLeaves.j0] at H
      replace H := Option.bind_eq_some_iff.mp H
      obtain ⟨t205, A100, H⟩ := H
      replace H : (if (t205.length : Int) = (l0.length : Int) then (ductuslaw09_WeakLeaves.l0 kj6 l0 x5_6 t205 0) else (none)) = some r := H
      have A10 := Aside0.mk A100
      clear A100
      by_cases c11 : (t205.length : Int) = (l0.length : Int)
      rotate_left
      · rw [if_neg c11] at H
        exact absurd H (by simp)
      rw [if_pos c11] at H
      have c11b0 : ((t205.length : Int) == (l0.length : Int)) = true := beq_iff_eq.mpr c11
      have c11b1 : ((t205.length : Int) != (l0.length : Int)) = false := bne_eq_false_iff_eq.mpr c11
      have c11b2 : (t205.length == l0.length) = true := by first | simpa using c11 | (simp at c11 ⊢; omega)
      clear c11
      have H' := Aside0.mk H
      clear H
      go_wp2_with (first | ((with_reducible refine gate_callee (f := 8) rfl ?_); refine goesL_ (some 17) rfl rfl Tryd.func8 (by kernel_rfl) rfl #[.slice A0 l0.length c0, .int .i64 x5_6] rfl (by (try simp only [List.map_toArray, List.map_cons, List.map_nil]); first | done | rfl | (simp only [List.length_drop, List.length_take]; rfl)) ?_; (with_reducible refine (weak_Of.calls kj6 _ _ l0 x5_6 t205 _ ?side1 ?side2 A10.out ?sideL).mono ?_); (case sideL => exact hL.at (by first | exact Below.refl _ _ | (repeat (first | (with_reducible first | exact HB.out | apply below_alloc | apply pw_below_drewN | apply below_drew1) | exact HB.out | exact Below.refl _ _)))); (case side1 => repeat (first | exact (Kd.C_below HR0.out HB.out) | (with_reducible refine Kd.C_alloc ?_ _) | (with_reducible refine Kd.C_drewN ?_ _) | (with_reducible refine Kd.C_drew ?_))); (case side2 => exact HC0.out); rintro e w12 ⟨v206, rfl, ho0, hb⟩; refine ⟨_, rfl, ?_⟩; have n0_ := Aside0.mk (Kd.R_lower ho0 (below_size (by repeat (first | (with_reducible first | exact HB.out | apply below_alloc | apply pw_below_drewN | apply below_drew1) | exact HB.out)))); have n1_ := Aside0.mk (below_step (by repeat (first | (with_reducible first | exact HB.out | apply below_alloc | apply pw_below_drewN | apply below_drew1) | exact HB.out)) hb); clear HB; have HO207 := n0_; have HB := n1_; clear n0_ n1_; (try clear hb); (try clear hb2); (try clear hk); (try clear hi); (try clear ho0); obtain ⟨Ao13, co13, eo13⟩ := Kd.R_slice HO207.out; subst eo13))
      go_loopg [7] kj6 (fun kq v7 w' => ∃ (x7_2 : Int), v7 = .int .i64 x7_2 ∧ Aside0 (ductuslaw09_WeakLeaves.l0 kq l0 x5_6 t205 x7_2 = some r) ∧ Aside0 (kq ≤ kj6) ∧ Aside0 (Kd.R (Kd.int .i64) 3 w' w.heap.size (fun _ => True) (.slice Ao13 t205.length co13) t205) ∧ Aside0 (Below w.heap.size w w'))
      case atStart => exact ⟨(0), (by first | rfl | (simp; done) | (simp [*]; done)), H', ⟨Nat.le_refl _⟩, ⟨by (with_reducible repeat (first | apply Kd.R_alloc | apply Kd.R_drewN | apply Kd.R_drew)); exact HO207.out⟩, ⟨by repeat (first | (with_reducible first | exact HB.out | apply below_alloc | apply pw_below_drewN | apply below_drew1) | exact HB.out)⟩⟩
      case round =>
        clear H'
        try clear c1
        try clear p2
        try clear c3
        try clear c4
        try clear c5
        try clear c5b0
        try clear c5b1
        try clear c7
        try clear c8
        try clear c9
        try clear c11
        try clear c11b0
        try clear c11b1
        try clear c11b2
        try clear p2
        obtain ⟨x7_2, rfl, HA, HK2, HO_6, HB⟩ := hrel
        cases gk with
        | zero => exact absurd HA.out (by simp [ductuslaw09_WeakLeaves.l0])
        | succ k2 =>
          have H := HA.out
          clear HA
          simp only [ductuslaw09_WeakLeaves.l0] at H
          by_cases c14 : x7_2 < (l0.length : Int)
          rotate_left
          · rw [if_neg c14] at H
            have c14b0 : decide (x7_2 < (l0.length : Int)) = false := decide_eq_false c14
            clear c14
            obtain rfl := Option.some.inj H
            go_wp2
            go_ret
            exact ⟨by first | rfl | (simp [errW_none, errW_some] <;> rfl) | (simp [*, errW_none, errW_some] <;> rfl), by repeat (first | (with_reducible first | exact HB.out | apply below_alloc | apply pw_below_drewN | apply below_drew1) | exact HB.out)⟩
          rw [if_pos c14] at H
          have c14b0 : decide (x7_2 < (l0.length : Int)) = true := decide_eq_true c14
          clear c14
          by_cases c15 : 0 ≤ x7_2
          rotate_left
          · rw [if_neg c15] at H
            exact absurd H (by simp)
          rw [if_pos c15] at H
          have c15b0 : decide (0 ≤ x7_2) = true := decide_eq_true c15
          clear c15
          by_cases c16 : x7_2 < (t205.length : Int)
          rotate_left
          · rw [if_neg c16] at H
            exact absurd H (by simp)
          rw [if_pos c16] at H
          have c16b0 : decide (x7_2 < (t205.length : Int)) = true := decide_eq_true c16
          clear c16
          have HC17 := Aside0.mk H
          clear H
          have p208 : 0 ≤ (x7_2 : Int) := of_decide_eq_true (by first | (with_reducible assumption) | assumption)
          have q208 : x7_2 < (t205.length : Int) := of_decide_eq_true (by first | (with_reducible assumption) | assumption)
          obtain ⟨ad208, e208, hx208_0⟩ := Kd.at_int (Kd.R_reads' HO_6.out).2.2 x7_2 p208 q208
          cases e208
          replace p208 := eq_true p208
          replace q208 := eq_true q208
          go_upto_region 15 with (fail)
          go_cut [58] (fun v58 wc => ∃ (kq : Nat) (x58_16 : Bool), v58 = .bool x58_16 ∧ Aside0 (ductuslaw09_WeakLeaves.j2 kq l0 x5_6 t205 x7_2 (rd t205 x7_2) x58_16 = some r) ∧ Aside0 (kq ≤ k2) ∧ Aside0 (Kd.R (Kd.int .i64) 3 wc w.heap.size (fun _ => True) (.slice (some ad208) t205.length co13) t205) ∧ Aside0 (Below w.heap.size w wc))
          case first =>
            have H := HC17.out
            clear HC17
            by_cases c18 : (rd t205 x7_2) = 8
            · rw [if_pos c18] at H
              exact absurd H (by simp)
            rw [if_neg c18] at H
            have c18b0 : ((rd t205 x7_2) == 8) = false := beq_eq_false_iff_ne.mpr c18
            have c18b1 : ((rd t205 x7_2) != 8) = true := bne_iff_ne.mpr c18
            (first | rw [c18b0] | (simp only [i64_w, i32_w]; rw [c18b0]) | skip)
            by_cases c19 : (rd t205 x7_2) = 2
            · rw [if_pos c19] at H
              exact absurd H (by simp)
            rw [if_neg c19] at H
            have c19b0 : ((rd t205 x7_2) == 2) = false := beq_eq_false_iff_ne.mpr c19
            have c19b1 : ((rd t205 x7_2) != 2) = true := bne_iff_ne.mpr c19
            by_cases c20 : (rd t205 x7_2) = 4
            · rw [if_pos c20] at H
              exact absurd H (by simp)
            rw [if_neg c20] at H
            have c20b0 : ((rd t205 x7_2) == 4) = false := beq_eq_false_iff_ne.mpr c20
            have c20b1 : ((rd t205 x7_2) != 4) = true := bne_iff_ne.mpr c20
            by_cases c21 : (rd t205 x7_2) = 5
            · rw [if_pos c21] at H
              exact absurd H (by simp)
            rw [if_neg c21] at H
            have c21b0 : ((rd t205 x7_2) == 5) = false := beq_eq_false_iff_ne.mpr c21
            have c21b1 : ((rd t205 x7_2) != 5) = true := bne_iff_ne.mpr c21
            by_cases c22 : (rd t205 x7_2) = 7
            · rw [if_pos c22] at H
              exact absurd H (by simp)
            rw [if_neg c22] at H
            have c22b0 : ((rd t205 x7_2) == 7) = false := beq_eq_false_iff_ne.mpr c22
            have c22b1 : ((rd t205 x7_2) != 7) = true := bne_iff_ne.mpr c22
            by_cases c23 : (rd t205 x7_2) < 0
            · rw [if_pos c23] at H
              exact absurd H (by simp)
            rw [if_neg c23] at H
            have c23b0 : decide ((rd t205 x7_2) < 0) = false := decide_eq_false c23
            clear c23
            have H' := Aside0.mk H
            clear H
            go_wp2
            go_meet
            case rel => exact ⟨_, (decide ((rd t205 x7_2) > 22)), (by first | rfl | (simp; done) | (simp [*]; done)), H', ⟨by have := HJ6.out; have := HK2.out; first | omega | exact Nat.le_refl _⟩, ⟨by (with_reducible repeat (first | apply Kd.R_alloc | apply Kd.R_drewN | apply Kd.R_drew)); exact HO_6.out⟩, ⟨by repeat (first | (with_reducible first | exact HB.out | apply below_alloc | apply pw_below_drewN | apply below_drew1) | exact HB.out)⟩⟩
          case rest =>
            clear HC17
            try clear c1
            try clear c2
            try clear p2
            try clear q2
            try clear hx2
            try clear c3
            try clear c4
            try clear c5
            try clear c5b0
            try clear c5b1
            try clear c7
            try clear c8
            try clear c9
            try clear c11
            try clear c11b0
            try clear c11b1
            try clear c11b2
            try clear c14
            try clear c14b0
            try clear c15
            try clear c15b0
            try clear c16
            try clear c16b0
            try clear c18
            try clear c18b0
            try clear c18b1
            try clear c19
            try clear c19b0
            try clear c19b1
            try clear c20
            try clear c20b0
            try clear c20b1
            try clear p20
            try clear q20
            try clear hx20
            try clear c21
            try clear c21b0
            try clear c21b1
            try clear c22
            try clear c22b0
            try clear c22b1
            try clear c23
            try clear c23b0
            try clear hx208_0
            try clear p2
            try clear p208
            try clear q208
            obtain ⟨kq, x58_16, rfl, HA, HJ16, HO_6, HB⟩ := hcut
            cases kq with
            | zero => exact absurd HA.out (by simp [ductuslaw09_WeakLeaves.j2])
            | succ kj16 =>
              have H := HA.out
              clear HA
              simp only [ductuslaw09_WeakLeaves.j2] at H
              by_cases c24 : x58_16 = true
              · subst c24
                have H1 : (none) = some r := by rw [if_pos rfl] at H; exact H
                clear H
                have H := H1
                clear H1
                exact absurd H (by simp)
              replace c24 := Bool.eq_false_iff.mpr c24
              subst c24
              have H1 : (if 0 ≤ x7_2 then (if x7_2 < (l0.length : Int) then (if (rd l0 x7_2) = 0 then (if (rd t205 x7_2) = 0 then (if (rd l0 x7_2) = 1 then (none) else (if (rd l0 x7_2) = 2 then (none) else (if (rd l0 x7_2) ≥ 10 then (none) else (if (rd l0 x7_2) = 6 then (none) else (ductuslaw09_WeakLeaves.j3 kj16 l0 x5_6 t205 x7_2 (rd t205 x7_2) false))))) else (none)) else (if (rd l0 x7_2) = 1 then (if (rd t205 x7_2) = 1 then (if (rd l0 x7_2) ≥ 10 then (none) else (if (rd l0 x7_2) = 6 then (none) else (ductuslaw09_WeakLeaves.j3 kj16 l0 x5_6 t205 x7_2 (rd t205 x7_2) false))) else (none)) else (if (rd l0 x7_2) = 2 then (if (rd t205 x7_2) = 1 then (if (rd l0 x7_2) ≥ 10 then (none) else (if (rd l0 x7_2) = 6 then (none) else (ductuslaw09_WeakLeaves.j3 kj16 l0 x5_6 t205 x7_2 (rd t205 x7_2) false))) else (none)) else (if (rd l0 x7_2) ≥ 10 then (if (rd l0 x7_2) ≤ 22 then (if (rd t205 x7_2) = (rd l0 x7_2) then (if (rd l0 x7_2) = 6 then (ductuslaw09_WeakLeaves.j3 kj16 l0 x5_6 t205 x7_2 (rd t205 x7_2) ((rd t205 x7_2) != 6)) else (ductuslaw09_WeakLeaves.j3 kj16 l0 x5_6 t205 x7_2 (rd t205 x7_2) false)) else (none)) else (if (rd l0 x7_2) = 6 then (ductuslaw09_WeakLeaves.j3 kj16 l0 x5_6 t205 x7_2 (rd t205 x7_2) ((rd t205 x7_2) != 6)) else (ductuslaw09_WeakLeaves.j3 kj16 l0 x5_6 t205 x7_2 (rd t205 x7_2) false))) else (if (rd l0 x7_2) = 6 then (ductuslaw09_WeakLeaves.j3 kj16 l0 x5_6 t205 x7_2 (rd t205 x7_2) ((rd t205 x7_2) != 6)) else (ductuslaw09_WeakLeaves.j3 kj16 l0 x5_6 t205 x7_2 (rd t205 x7_2) false)))))) else (none)) else (none)) = some r := by rw [if_neg (show ¬ (false = true) by decide)] at H; exact H
              clear H
              have H := H1
              clear H1
              have HC25 := Aside0.mk H
              clear H
              go_upto_region 17 with (fail)
              go_cut [118] (fun v118 wc => ∃ (kq : Nat) (x118_24 : Bool), v118 = .bool x118_24 ∧ Aside0 (ductuslaw09_WeakLeaves.j3 kq l0 x5_6 t205 x7_2 (rd t205 x7_2) x118_24 = some r) ∧ Aside0 (kq ≤ kj16) ∧ Aside0 (Kd.R (Kd.int .i64) 3 wc w.heap.size (fun _ => True) (.slice (some ad208) t205.length co13) t205) ∧ Aside0 (Below w.heap.size w wc))
              case first =>
                have H := HC25.out
                clear HC25
                by_cases c26 : 0 ≤ x7_2
                rotate_left
                · rw [if_neg c26] at H
                  exact absurd H (by simp)
                rw [if_pos c26] at H
                have c26b0 : decide (0 ≤ x7_2) = true := decide_eq_true c26
                clear c26
                (first | rw [c26b0] | (simp only [i64_w, i32_w]; rw [c26b0]) | skip)
                by_cases c27 : x7_2 < (l0.length : Int)
                rotate_left
                · rw [if_neg c27] at H
                  exact absurd H (by simp)
                rw [if_pos c27] at H
                have c27b0 : decide (x7_2 < (l0.length : Int)) = true := decide_eq_true c27
                clear c27
                by_cases c28 : (rd l0 x7_2) = 0
                · rw [if_pos c28] at H
                  have c28b0 : ((rd l0 x7_2) == 0) = true := beq_iff_eq.mpr c28
                  have c28b1 : ((rd l0 x7_2) != 0) = false := bne_eq_false_iff_eq.mpr c28
                  clear c28
                  by_cases c29 : (rd t205 x7_2) = 0
                  rotate_left
                  · rw [if_neg c29] at H
                    exact absurd H (by simp)
                  rw [if_pos c29] at H
                  have c29b0 : ((rd t205 x7_2) == 0) = true := beq_iff_eq.mpr c29
                  have c29b1 : ((rd t205 x7_2) != 0) = false := bne_eq_false_iff_eq.mpr c29
                  clear c29
                  by_cases c30 : (rd l0 x7_2) = 1
                  · rw [if_pos c30] at H
                    exact absurd H (by simp)
                  rw [if_neg c30] at H
                  have c30b0 : ((rd l0 x7_2) == 1) = false := beq_eq_false_iff_ne.mpr c30
                  have c30b1 : ((rd l0 x7_2) != 1) = true := bne_iff_ne.mpr c30
                  by_cases c31 : (rd l0 x7_2) = 2
                  · rw [if_pos c31] at H
                    exact absurd H (by simp)
                  rw [if_neg c31] at H
                  have c31b0 : ((rd l0 x7_2) == 2) = false := beq_eq_false_iff_ne.mpr c31
                  have c31b1 : ((rd l0 x7_2) != 2) = true := bne_iff_ne.mpr c31
                  by_cases c32 : (rd l0 x7_2) ≥ 10
                  · rw [if_pos c32] at H
                    exact absurd H (by simp)
                  rw [if_neg c32] at H
                  have c32b0 : decide (10 ≤ (rd l0 x7_2)) = false := decide_eq_false c32
                  clear c32
                  by_cases c33 : (rd l0 x7_2) = 6
                  · rw [if_pos c33] at H
                    exact absurd H (by simp)
                  rw [if_neg c33] at H
                  have c33b0 : ((rd l0 x7_2) == 6) = false := beq_eq_false_iff_ne.mpr c33
                  have c33b1 : ((rd l0 x7_2) != 6) = true := bne_iff_ne.mpr c33
                  have H' := Aside0.mk H
                  clear H
                  have p209 : 0 ≤ (x7_2 : Int) := of_decide_eq_true (by first | (with_reducible assumption) | assumption)
                  have q209 : x7_2 < (l0.length : Int) := of_decide_eq_true (by first | (with_reducible assumption) | assumption)
                  obtain ⟨ad209, e209, hx209_0⟩ := Kd.at_int HR0.out x7_2 p209 q209
                  cases e209
                  replace hx209_0 := (HB.out.cell (World.block_lt_of_cell? w _ hx209_0)).trans hx209_0
                  replace p209 := eq_true p209
                  replace q209 := eq_true q209
                  have p210 : 0 ≤ (x7_2 : Int) := of_decide_eq_true (by first | (with_reducible assumption) | assumption)
                  have q210 : x7_2 < (l0.length : Int) := of_decide_eq_true (by first | (with_reducible assumption) | assumption)
                  obtain ⟨ad210, e210, hx210_0⟩ := Kd.at_int HR0.out x7_2 p210 q210
                  obtain rfl : ad209 = ad210 := (by injection e210)
                  replace hx210_0 := (HB.out.cell (World.block_lt_of_cell? w _ hx210_0)).trans hx210_0
                  replace p210 := eq_true p210
                  replace q210 := eq_true q210
                  have p211 : 0 ≤ (x7_2 : Int) := of_decide_eq_true (by first | (with_reducible assumption) | assumption)
                  have q211 : x7_2 < (l0.length : Int) := of_decide_eq_true (by first | (with_reducible assumption) | assumption)
                  obtain ⟨ad211, e211, hx211_0⟩ := Kd.at_int HR0.out x7_2 p211 q211
                  obtain rfl : ad209 = ad211 := (by injection e211)
                  replace hx211_0 := (HB.out.cell (World.block_lt_of_cell? w _ hx211_0)).trans hx211_0
                  replace p211 := eq_true p211
                  replace q211 := eq_true q211
                  have p212 : 0 ≤ (x7_2 : Int) := of_decide_eq_true (by first | (with_reducible assumption) | assumption)
                  have q212 : x7_2 < (l0.length : Int) := of_decide_eq_true (by first | (with_reducible assumption) | assumption)
                  obtain ⟨ad212, e212, hx212_0⟩ := Kd.at_int HR0.out x7_2 p212 q212
                  obtain rfl : ad209 = ad212 := (by injection e212)
                  replace hx212_0 := (HB.out.cell (World.block_lt_of_cell? w _ hx212_0)).trans hx212_0
                  replace p212 := eq_true p212
                  replace q212 := eq_true q212
                  have p213 : 0 ≤ (x7_2 : Int) := of_decide_eq_true (by first | (with_reducible assumption) | assumption)
                  have q213 : x7_2 < (l0.length : Int) := of_decide_eq_true (by first | (with_reducible assumption) | assumption)
                  obtain ⟨ad213, e213, hx213_0⟩ := Kd.at_int HR0.out x7_2 p213 q213
                  obtain rfl : ad209 = ad213 := (by injection e213)
                  replace hx213_0 := (HB.out.cell (World.block_lt_of_cell? w _ hx213_0)).trans hx213_0
                  replace p213 := eq_true p213
                  replace q213 := eq_true q213
                  go_wp2
                  go_meet
                  case rel => exact ⟨_, (false), (by first | rfl | (simp; done) | (simp [*]; done)), H', ⟨by have := HJ6.out; have := HK2.out; have := HJ16.out; first | omega | exact Nat.le_refl _⟩, ⟨by (with_reducible repeat (first | apply Kd.R_alloc | apply Kd.R_drewN | apply Kd.R_drew)); exact HO_6.out⟩, ⟨by repeat (first | (with_reducible first | exact HB.out | apply below_alloc | apply pw_below_drewN | apply below_drew1) | exact HB.out)⟩⟩
                rw [if_neg c28] at H
                have c28b0 : ((rd l0 x7_2) == 0) = false := beq_eq_false_iff_ne.mpr c28
                have c28b1 : ((rd l0 x7_2) != 0) = true := bne_iff_ne.mpr c28
                by_cases c34 : (rd l0 x7_2) = 1
                · rw [if_pos c34] at H
                  have c34b0 : ((rd l0 x7_2) == 1) = true := beq_iff_eq.mpr c34
                  have c34b1 : ((rd l0 x7_2) != 1) = false := bne_eq_false_iff_eq.mpr c34
                  clear c34
                  by_cases c35 : (rd t205 x7_2) = 1
                  rotate_left
                  · rw [if_neg c35] at H
                    exact absurd H (by simp)
                  rw [if_pos c35] at H
                  have c35b0 : ((rd t205 x7_2) == 1) = true := beq_iff_eq.mpr c35
                  have c35b1 : ((rd t205 x7_2) != 1) = false := bne_eq_false_iff_eq.mpr c35
                  clear c35
                  by_cases c36 : (rd l0 x7_2) ≥ 10
                  · rw [if_pos c36] at H
                    exact absurd H (by simp)
                  rw [if_neg c36] at H
                  have c36b0 : decide (10 ≤ (rd l0 x7_2)) = false := decide_eq_false c36
                  clear c36
                  by_cases c37 : (rd l0 x7_2) = 6
                  · rw [if_pos c37] at H
                    exact absurd H (by simp)
                  rw [if_neg c37] at H
                  have c37b0 : ((rd l0 x7_2) == 6) = false := beq_eq_false_iff_ne.mpr c37
                  have c37b1 : ((rd l0 x7_2) != 6) = true := bne_iff_ne.mpr c37
                  have H' := Aside0.mk H
                  clear H
                  have p209 : 0 ≤ (x7_2 : Int) := of_decide_eq_true (by first | (with_reducible assumption) | assumption)
                  have q209 : x7_2 < (l0.length : Int) := of_decide_eq_true (by first | (with_reducible assumption) | assumption)
                  obtain ⟨ad209, e209, hx209_0⟩ := Kd.at_int HR0.out x7_2 p209 q209
                  cases e209
                  replace hx209_0 := (HB.out.cell (World.block_lt_of_cell? w _ hx209_0)).trans hx209_0
                  replace p209 := eq_true p209
                  replace q209 := eq_true q209
                  have p214 : 0 ≤ (x7_2 : Int) := of_decide_eq_true (by first | (with_reducible assumption) | assumption)
                  have q214 : x7_2 < (l0.length : Int) := of_decide_eq_true (by first | (with_reducible assumption) | assumption)
                  obtain ⟨ad214, e214, hx214_0⟩ := Kd.at_int HR0.out x7_2 p214 q214
                  obtain rfl : ad209 = ad214 := (by injection e214)
                  replace hx214_0 := (HB.out.cell (World.block_lt_of_cell? w _ hx214_0)).trans hx214_0
                  replace p214 := eq_true p214
                  replace q214 := eq_true q214
                  have p215 : 0 ≤ (x7_2 : Int) := of_decide_eq_true (by first | (with_reducible assumption) | assumption)
                  have q215 : x7_2 < (l0.length : Int) := of_decide_eq_true (by first | (with_reducible assumption) | assumption)
                  obtain ⟨ad215, e215, hx215_0⟩ := Kd.at_int HR0.out x7_2 p215 q215
                  obtain rfl : ad209 = ad215 := (by injection e215)
                  replace hx215_0 := (HB.out.cell (World.block_lt_of_cell? w _ hx215_0)).trans hx215_0
                  replace p215 := eq_true p215
                  replace q215 := eq_true q215
                  have p216 : 0 ≤ (x7_2 : Int) := of_decide_eq_true (by first | (with_reducible assumption) | assumption)
                  have q216 : x7_2 < (l0.length : Int) := of_decide_eq_true (by first | (with_reducible assumption) | assumption)
                  obtain ⟨ad216, e216, hx216_0⟩ := Kd.at_int HR0.out x7_2 p216 q216
                  obtain rfl : ad209 = ad216 := (by injection e216)
                  replace hx216_0 := (HB.out.cell (World.block_lt_of_cell? w _ hx216_0)).trans hx216_0
                  replace p216 := eq_true p216
                  replace q216 := eq_true q216
                  go_wp2
                  go_meet
                  case rel => exact ⟨_, (false), (by first | rfl | (simp; done) | (simp [*]; done)), H', ⟨by have := HJ6.out; have := HK2.out; have := HJ16.out; first | omega | exact Nat.le_refl _⟩, ⟨by (with_reducible repeat (first | apply Kd.R_alloc | apply Kd.R_drewN | apply Kd.R_drew)); exact HO_6.out⟩, ⟨by repeat (first | (with_reducible first | exact HB.out | apply below_alloc | apply pw_below_drewN | apply below_drew1) | exact HB.out)⟩⟩
                rw [if_neg c34] at H
                have c34b0 : ((rd l0 x7_2) == 1) = false := beq_eq_false_iff_ne.mpr c34
                have c34b1 : ((rd l0 x7_2) != 1) = true := bne_iff_ne.mpr c34
                by_cases c38 : (rd l0 x7_2) = 2
                · rw [if_pos c38] at H
                  have c38b0 : ((rd l0 x7_2) == 2) = true := beq_iff_eq.mpr c38
                  have c38b1 : ((rd l0 x7_2) != 2) = false := bne_eq_false_iff_eq.mpr c38
                  clear c38
                  by_cases c39 : (rd t205 x7_2) = 1
                  rotate_left
                  · rw [if_neg c39] at H
                    exact absurd H (by simp)
                  rw [if_pos c39] at H
                  have c39b0 : ((rd t205 x7_2) == 1) = true := beq_iff_eq.mpr c39
                  have c39b1 : ((rd t205 x7_2) != 1) = false := bne_eq_false_iff_eq.mpr c39
                  clear c39
                  by_cases c40 : (rd l0 x7_2) ≥ 10
                  · rw [if_pos c40] at H
                    exact absurd H (by simp)
                  rw [if_neg c40] at H
                  have c40b0 : decide (10 ≤ (rd l0 x7_2)) = false := decide_eq_false c40
                  clear c40
                  by_cases c41 : (rd l0 x7_2) = 6
                  · rw [if_pos c41] at H
                    exact absurd H (by simp)
                  rw [if_neg c41] at H
                  have c41b0 : ((rd l0 x7_2) == 6) = false := beq_eq_false_iff_ne.mpr c41
                  have c41b1 : ((rd l0 x7_2) != 6) = true := bne_iff_ne.mpr c41
                  have H' := Aside0.mk H
                  clear H
                  have p209 : 0 ≤ (x7_2 : Int) := of_decide_eq_true (by first | (with_reducible assumption) | assumption)
                  have q209 : x7_2 < (l0.length : Int) := of_decide_eq_true (by first | (with_reducible assumption) | assumption)
                  obtain ⟨ad209, e209, hx209_0⟩ := Kd.at_int HR0.out x7_2 p209 q209
                  cases e209
                  replace hx209_0 := (HB.out.cell (World.block_lt_of_cell? w _ hx209_0)).trans hx209_0
                  replace p209 := eq_true p209
                  replace q209 := eq_true q209
                  have p214 : 0 ≤ (x7_2 : Int) := of_decide_eq_true (by first | (with_reducible assumption) | assumption)
                  have q214 : x7_2 < (l0.length : Int) := of_decide_eq_true (by first | (with_reducible assumption) | assumption)
                  obtain ⟨ad214, e214, hx214_0⟩ := Kd.at_int HR0.out x7_2 p214 q214
                  obtain rfl : ad209 = ad214 := (by injection e214)
                  replace hx214_0 := (HB.out.cell (World.block_lt_of_cell? w _ hx214_0)).trans hx214_0
                  replace p214 := eq_true p214
                  replace q214 := eq_true q214
                  have p217 : 0 ≤ (x7_2 : Int) := of_decide_eq_true (by first | (with_reducible assumption) | assumption)
                  have q217 : x7_2 < (l0.length : Int) := of_decide_eq_true (by first | (with_reducible assumption) | assumption)
                  obtain ⟨ad217, e217, hx217_0⟩ := Kd.at_int HR0.out x7_2 p217 q217
                  obtain rfl : ad209 = ad217 := (by injection e217)
                  replace hx217_0 := (HB.out.cell (World.block_lt_of_cell? w _ hx217_0)).trans hx217_0
                  replace p217 := eq_true p217
                  replace q217 := eq_true q217
                  have p218 : 0 ≤ (x7_2 : Int) := of_decide_eq_true (by first | (with_reducible assumption) | assumption)
                  have q218 : x7_2 < (l0.length : Int) := of_decide_eq_true (by first | (with_reducible assumption) | assumption)
                  obtain ⟨ad218, e218, hx218_0⟩ := Kd.at_int HR0.out x7_2 p218 q218
                  obtain rfl : ad209 = ad218 := (by injection e218)
                  replace hx218_0 := (HB.out.cell (World.block_lt_of_cell? w _ hx218_0)).trans hx218_0
                  replace p218 := eq_true p218
                  replace q218 := eq_true q218
                  have p219 : 0 ≤ (x7_2 : Int) := of_decide_eq_true (by first | (with_reducible assumption) | assumption)
                  have q219 : x7_2 < (l0.length : Int) := of_decide_eq_true (by first | (with_reducible assumption) | assumption)
                  obtain ⟨ad219, e219, hx219_0⟩ := Kd.at_int HR0.out x7_2 p219 q219
                  obtain rfl : ad209 = ad219 := (by injection e219)
                  replace hx219_0 := (HB.out.cell (World.block_lt_of_cell? w _ hx219_0)).trans hx219_0
                  replace p219 := eq_true p219
                  replace q219 := eq_true q219
                  go_wp2
                  go_meet
                  case rel => exact ⟨_, (false), (by first | rfl | (simp; done) | (simp [*]; done)), H', ⟨by have := HJ6.out; have := HK2.out; have := HJ16.out; first | omega | exact Nat.le_refl _⟩, ⟨by (with_reducible repeat (first | apply Kd.R_alloc | apply Kd.R_drewN | apply Kd.R_drew)); exact HO_6.out⟩, ⟨by repeat (first | (with_reducible first | exact HB.out | apply below_alloc | apply pw_below_drewN | apply below_drew1) | exact HB.out)⟩⟩
                rw [if_neg c38] at H
                have c38b0 : ((rd l0 x7_2) == 2) = false := beq_eq_false_iff_ne.mpr c38
                have c38b1 : ((rd l0 x7_2) != 2) = true := bne_iff_ne.mpr c38
                by_cases c42 : (rd l0 x7_2) ≥ 10
                rotate_left
                · rw [if_neg c42] at H
                  have c42b0 : decide (10 ≤ (rd l0 x7_2)) = false := decide_eq_false c42
                  clear c42
                  by_cases c47 : (rd l0 x7_2) = 6
                  rotate_left
                  · rw [if_neg c47] at H
                    have c47b0 : ((rd l0 x7_2) == 6) = false := beq_eq_false_iff_ne.mpr c47
                    have c47b1 : ((rd l0 x7_2) != 6) = true := bne_iff_ne.mpr c47
                    have H' := Aside0.mk H
                    clear H
                    have p209 : 0 ≤ (x7_2 : Int) := of_decide_eq_true (by first | (with_reducible assumption) | assumption)
                    have q209 : x7_2 < (l0.length : Int) := of_decide_eq_true (by first | (with_reducible assumption) | assumption)
                    obtain ⟨ad209, e209, hx209_0⟩ := Kd.at_int HR0.out x7_2 p209 q209
                    cases e209
                    replace hx209_0 := (HB.out.cell (World.block_lt_of_cell? w _ hx209_0)).trans hx209_0
                    replace p209 := eq_true p209
                    replace q209 := eq_true q209
                    have p214 : 0 ≤ (x7_2 : Int) := of_decide_eq_true (by first | (with_reducible assumption) | assumption)
                    have q214 : x7_2 < (l0.length : Int) := of_decide_eq_true (by first | (with_reducible assumption) | assumption)
                    obtain ⟨ad214, e214, hx214_0⟩ := Kd.at_int HR0.out x7_2 p214 q214
                    obtain rfl : ad209 = ad214 := (by injection e214)
                    replace hx214_0 := (HB.out.cell (World.block_lt_of_cell? w _ hx214_0)).trans hx214_0
                    replace p214 := eq_true p214
                    replace q214 := eq_true q214
                    have p217 : 0 ≤ (x7_2 : Int) := of_decide_eq_true (by first | (with_reducible assumption) | assumption)
                    have q217 : x7_2 < (l0.length : Int) := of_decide_eq_true (by first | (with_reducible assumption) | assumption)
                    obtain ⟨ad217, e217, hx217_0⟩ := Kd.at_int HR0.out x7_2 p217 q217
                    obtain rfl : ad209 = ad217 := (by injection e217)
                    replace hx217_0 := (HB.out.cell (World.block_lt_of_cell? w _ hx217_0)).trans hx217_0
                    replace p217 := eq_true p217
                    replace q217 := eq_true q217
                    have p220 : 0 ≤ (x7_2 : Int) := of_decide_eq_true (by first | (with_reducible assumption) | assumption)
                    have q220 : x7_2 < (l0.length : Int) := of_decide_eq_true (by first | (with_reducible assumption) | assumption)
                    obtain ⟨ad220, e220, hx220_0⟩ := Kd.at_int HR0.out x7_2 p220 q220
                    obtain rfl : ad209 = ad220 := (by injection e220)
                    replace hx220_0 := (HB.out.cell (World.block_lt_of_cell? w _ hx220_0)).trans hx220_0
                    replace p220 := eq_true p220
                    replace q220 := eq_true q220
                    have p225 : 0 ≤ (x7_2 : Int) := of_decide_eq_true (by first | (with_reducible assumption) | assumption)
                    have q225 : x7_2 < (l0.length : Int) := of_decide_eq_true (by first | (with_reducible assumption) | assumption)
                    obtain ⟨ad225, e225, hx225_0⟩ := Kd.at_int HR0.out x7_2 p225 q225
                    obtain rfl : ad209 = ad225 := (by injection e225)
                    replace hx225_0 := (HB.out.cell (World.block_lt_of_cell? w _ hx225_0)).trans hx225_0
                    replace p225 := eq_true p225
                    replace q225 := eq_true q225
                    go_wp2
                    go_meet
                    case rel => exact ⟨_, (false), (by first | rfl | (simp; done) | (simp [*]; done)), H', ⟨by have := HJ6.out; have := HK2.out; have := HJ16.out; first | omega | exact Nat.le_refl _⟩, ⟨by (with_reducible repeat (first | apply Kd.R_alloc | apply Kd.R_drewN | apply Kd.R_drew)); exact HO_6.out⟩, ⟨by repeat (first | (with_reducible first | exact HB.out | apply below_alloc | apply pw_below_drewN | apply below_drew1) | exact HB.out)⟩⟩
                  rw [if_pos c47] at H
                  have c47b0 : ((rd l0 x7_2) == 6) = true := beq_iff_eq.mpr c47
                  have c47b1 : ((rd l0 x7_2) != 6) = false := bne_eq_false_iff_eq.mpr c47
                  clear c47
                  have H' := Aside0.mk H
                  clear H
                  have p209 : 0 ≤ (x7_2 : Int) := of_decide_eq_true (by first | (with_reducible assumption) | assumption)
                  have q209 : x7_2 < (l0.length : Int) := of_decide_eq_true (by first | (with_reducible assumption) | assumption)
                  obtain ⟨ad209, e209, hx209_0⟩ := Kd.at_int HR0.out x7_2 p209 q209
                  cases e209
                  replace hx209_0 := (HB.out.cell (World.block_lt_of_cell? w _ hx209_0)).trans hx209_0
                  replace p209 := eq_true p209
                  replace q209 := eq_true q209
                  have p214 : 0 ≤ (x7_2 : Int) := of_decide_eq_true (by first | (with_reducible assumption) | assumption)
                  have q214 : x7_2 < (l0.length : Int) := of_decide_eq_true (by first | (with_reducible assumption) | assumption)
                  obtain ⟨ad214, e214, hx214_0⟩ := Kd.at_int HR0.out x7_2 p214 q214
                  obtain rfl : ad209 = ad214 := (by injection e214)
                  replace hx214_0 := (HB.out.cell (World.block_lt_of_cell? w _ hx214_0)).trans hx214_0
                  replace p214 := eq_true p214
                  replace q214 := eq_true q214
                  have p217 : 0 ≤ (x7_2 : Int) := of_decide_eq_true (by first | (with_reducible assumption) | assumption)
                  have q217 : x7_2 < (l0.length : Int) := of_decide_eq_true (by first | (with_reducible assumption) | assumption)
                  obtain ⟨ad217, e217, hx217_0⟩ := Kd.at_int HR0.out x7_2 p217 q217
                  obtain rfl : ad209 = ad217 := (by injection e217)
                  replace hx217_0 := (HB.out.cell (World.block_lt_of_cell? w _ hx217_0)).trans hx217_0
                  replace p217 := eq_true p217
                  replace q217 := eq_true q217
                  have p220 : 0 ≤ (x7_2 : Int) := of_decide_eq_true (by first | (with_reducible assumption) | assumption)
                  have q220 : x7_2 < (l0.length : Int) := of_decide_eq_true (by first | (with_reducible assumption) | assumption)
                  obtain ⟨ad220, e220, hx220_0⟩ := Kd.at_int HR0.out x7_2 p220 q220
                  obtain rfl : ad209 = ad220 := (by injection e220)
                  replace hx220_0 := (HB.out.cell (World.block_lt_of_cell? w _ hx220_0)).trans hx220_0
                  replace p220 := eq_true p220
                  replace q220 := eq_true q220
                  have p225 : 0 ≤ (x7_2 : Int) := of_decide_eq_true (by first | (with_reducible assumption) | assumption)
                  have q225 : x7_2 < (l0.length : Int) := of_decide_eq_true (by first | (with_reducible assumption) | assumption)
                  obtain ⟨ad225, e225, hx225_0⟩ := Kd.at_int HR0.out x7_2 p225 q225
                  obtain rfl : ad209 = ad225 := (by injection e225)
                  replace hx225_0 := (HB.out.cell (World.block_lt_of_cell? w _ hx225_0)).trans hx225_0
                  replace p225 := eq_true p225
                  replace q225 := eq_true q225
                  go_wp2
                  go_meet
                  case rel => exact ⟨_, (((rd t205 x7_2) != 6)), (by first | rfl | (simp; done) | (simp [*]; done)), H', ⟨by have := HJ6.out; have := HK2.out; have := HJ16.out; first | omega | exact Nat.le_refl _⟩, ⟨by (with_reducible repeat (first | apply Kd.R_alloc | apply Kd.R_drewN | apply Kd.R_drew)); exact HO_6.out⟩, ⟨by repeat (first | (with_reducible first | exact HB.out | apply below_alloc | apply pw_below_drewN | apply below_drew1) | exact HB.out)⟩⟩
                rw [if_pos c42] at H
                have c42b0 : decide (10 ≤ (rd l0 x7_2)) = true := decide_eq_true c42
                clear c42
                by_cases c43 : (rd l0 x7_2) ≤ 22
                rotate_left
                · rw [if_neg c43] at H
                  have c43b0 : decide ((rd l0 x7_2) ≤ 22) = false := decide_eq_false c43
                  clear c43
                  by_cases c46 : (rd l0 x7_2) = 6
                  rotate_left
                  · rw [if_neg c46] at H
                    have c46b0 : ((rd l0 x7_2) == 6) = false := beq_eq_false_iff_ne.mpr c46
                    have c46b1 : ((rd l0 x7_2) != 6) = true := bne_iff_ne.mpr c46
                    have H' := Aside0.mk H
                    clear H
                    have p209 : 0 ≤ (x7_2 : Int) := of_decide_eq_true (by first | (with_reducible assumption) | assumption)
                    have q209 : x7_2 < (l0.length : Int) := of_decide_eq_true (by first | (with_reducible assumption) | assumption)
                    obtain ⟨ad209, e209, hx209_0⟩ := Kd.at_int HR0.out x7_2 p209 q209
                    cases e209
                    replace hx209_0 := (HB.out.cell (World.block_lt_of_cell? w _ hx209_0)).trans hx209_0
                    replace p209 := eq_true p209
                    replace q209 := eq_true q209
                    have p214 : 0 ≤ (x7_2 : Int) := of_decide_eq_true (by first | (with_reducible assumption) | assumption)
                    have q214 : x7_2 < (l0.length : Int) := of_decide_eq_true (by first | (with_reducible assumption) | assumption)
                    obtain ⟨ad214, e214, hx214_0⟩ := Kd.at_int HR0.out x7_2 p214 q214
                    obtain rfl : ad209 = ad214 := (by injection e214)
                    replace hx214_0 := (HB.out.cell (World.block_lt_of_cell? w _ hx214_0)).trans hx214_0
                    replace p214 := eq_true p214
                    replace q214 := eq_true q214
                    have p217 : 0 ≤ (x7_2 : Int) := of_decide_eq_true (by first | (with_reducible assumption) | assumption)
                    have q217 : x7_2 < (l0.length : Int) := of_decide_eq_true (by first | (with_reducible assumption) | assumption)
                    obtain ⟨ad217, e217, hx217_0⟩ := Kd.at_int HR0.out x7_2 p217 q217
                    obtain rfl : ad209 = ad217 := (by injection e217)
                    replace hx217_0 := (HB.out.cell (World.block_lt_of_cell? w _ hx217_0)).trans hx217_0
                    replace p217 := eq_true p217
                    replace q217 := eq_true q217
                    have p220 : 0 ≤ (x7_2 : Int) := of_decide_eq_true (by first | (with_reducible assumption) | assumption)
                    have q220 : x7_2 < (l0.length : Int) := of_decide_eq_true (by first | (with_reducible assumption) | assumption)
                    obtain ⟨ad220, e220, hx220_0⟩ := Kd.at_int HR0.out x7_2 p220 q220
                    obtain rfl : ad209 = ad220 := (by injection e220)
                    replace hx220_0 := (HB.out.cell (World.block_lt_of_cell? w _ hx220_0)).trans hx220_0
                    replace p220 := eq_true p220
                    replace q220 := eq_true q220
                    have p221 : 0 ≤ (x7_2 : Int) := of_decide_eq_true (by first | (with_reducible assumption) | assumption)
                    have q221 : x7_2 < (l0.length : Int) := of_decide_eq_true (by first | (with_reducible assumption) | assumption)
                    obtain ⟨ad221, e221, hx221_0⟩ := Kd.at_int HR0.out x7_2 p221 q221
                    obtain rfl : ad209 = ad221 := (by injection e221)
                    replace hx221_0 := (HB.out.cell (World.block_lt_of_cell? w _ hx221_0)).trans hx221_0
                    replace p221 := eq_true p221
                    replace q221 := eq_true q221
                    have p224 : 0 ≤ (x7_2 : Int) := of_decide_eq_true (by first | (with_reducible assumption) | assumption)
                    have q224 : x7_2 < (l0.length : Int) := of_decide_eq_true (by first | (with_reducible assumption) | assumption)
                    obtain ⟨ad224, e224, hx224_0⟩ := Kd.at_int HR0.out x7_2 p224 q224
                    obtain rfl : ad209 = ad224 := (by injection e224)
                    replace hx224_0 := (HB.out.cell (World.block_lt_of_cell? w _ hx224_0)).trans hx224_0
                    replace p224 := eq_true p224
                    replace q224 := eq_true q224
                    go_wp2
                    go_meet
                    case rel => exact ⟨_, (false), (by first | rfl | (simp; done) | (simp [*]; done)), H', ⟨by have := HJ6.out; have := HK2.out; have := HJ16.out; first | omega | exact Nat.le_refl _⟩, ⟨by (with_reducible repeat (first | apply Kd.R_alloc | apply Kd.R_drewN | apply Kd.R_drew)); exact HO_6.out⟩, ⟨by repeat (first | (with_reducible first | exact HB.out | apply below_alloc | apply pw_below_drewN | apply below_drew1) | exact HB.out)⟩⟩
                  rw [if_pos c46] at H
                  have c46b0 : ((rd l0 x7_2) == 6) = true := beq_iff_eq.mpr c46
                  have c46b1 : ((rd l0 x7_2) != 6) = false := bne_eq_false_iff_eq.mpr c46
                  clear c46
                  have H' := Aside0.mk H
                  clear H
                  have p209 : 0 ≤ (x7_2 : Int) := of_decide_eq_true (by first | (with_reducible assumption) | assumption)
                  have q209 : x7_2 < (l0.length : Int) := of_decide_eq_true (by first | (with_reducible assumption) | assumption)
                  obtain ⟨ad209, e209, hx209_0⟩ := Kd.at_int HR0.out x7_2 p209 q209
                  cases e209
                  replace hx209_0 := (HB.out.cell (World.block_lt_of_cell? w _ hx209_0)).trans hx209_0
                  replace p209 := eq_true p209
                  replace q209 := eq_true q209
                  have p214 : 0 ≤ (x7_2 : Int) := of_decide_eq_true (by first | (with_reducible assumption) | assumption)
                  have q214 : x7_2 < (l0.length : Int) := of_decide_eq_true (by first | (with_reducible assumption) | assumption)
                  obtain ⟨ad214, e214, hx214_0⟩ := Kd.at_int HR0.out x7_2 p214 q214
                  obtain rfl : ad209 = ad214 := (by injection e214)
                  replace hx214_0 := (HB.out.cell (World.block_lt_of_cell? w _ hx214_0)).trans hx214_0
                  replace p214 := eq_true p214
                  replace q214 := eq_true q214
                  have p217 : 0 ≤ (x7_2 : Int) := of_decide_eq_true (by first | (with_reducible assumption) | assumption)
                  have q217 : x7_2 < (l0.length : Int) := of_decide_eq_true (by first | (with_reducible assumption) | assumption)
                  obtain ⟨ad217, e217, hx217_0⟩ := Kd.at_int HR0.out x7_2 p217 q217
                  obtain rfl : ad209 = ad217 := (by injection e217)
                  replace hx217_0 := (HB.out.cell (World.block_lt_of_cell? w _ hx217_0)).trans hx217_0
                  replace p217 := eq_true p217
                  replace q217 := eq_true q217
                  have p220 : 0 ≤ (x7_2 : Int) := of_decide_eq_true (by first | (with_reducible assumption) | assumption)
                  have q220 : x7_2 < (l0.length : Int) := of_decide_eq_true (by first | (with_reducible assumption) | assumption)
                  obtain ⟨ad220, e220, hx220_0⟩ := Kd.at_int HR0.out x7_2 p220 q220
                  obtain rfl : ad209 = ad220 := (by injection e220)
                  replace hx220_0 := (HB.out.cell (World.block_lt_of_cell? w _ hx220_0)).trans hx220_0
                  replace p220 := eq_true p220
                  replace q220 := eq_true q220
                  have p221 : 0 ≤ (x7_2 : Int) := of_decide_eq_true (by first | (with_reducible assumption) | assumption)
                  have q221 : x7_2 < (l0.length : Int) := of_decide_eq_true (by first | (with_reducible assumption) | assumption)
                  obtain ⟨ad221, e221, hx221_0⟩ := Kd.at_int HR0.out x7_2 p221 q221
                  obtain rfl : ad209 = ad221 := (by injection e221)
                  replace hx221_0 := (HB.out.cell (World.block_lt_of_cell? w _ hx221_0)).trans hx221_0
                  replace p221 := eq_true p221
                  replace q221 := eq_true q221
                  have p224 : 0 ≤ (x7_2 : Int) := of_decide_eq_true (by first | (with_reducible assumption) | assumption)
                  have q224 : x7_2 < (l0.length : Int) := of_decide_eq_true (by first | (with_reducible assumption) | assumption)
                  obtain ⟨ad224, e224, hx224_0⟩ := Kd.at_int HR0.out x7_2 p224 q224
                  obtain rfl : ad209 = ad224 := (by injection e224)
                  replace hx224_0 := (HB.out.cell (World.block_lt_of_cell? w _ hx224_0)).trans hx224_0
                  replace p224 := eq_true p224
                  replace q224 := eq_true q224
                  go_wp2
                  go_meet
                  case rel => exact ⟨_, (((rd t205 x7_2) != 6)), (by first | rfl | (simp; done) | (simp [*]; done)), H', ⟨by have := HJ6.out; have := HK2.out; have := HJ16.out; first | omega | exact Nat.le_refl _⟩, ⟨by (with_reducible repeat (first | apply Kd.R_alloc | apply Kd.R_drewN | apply Kd.R_drew)); exact HO_6.out⟩, ⟨by repeat (first | (with_reducible first | exact HB.out | apply below_alloc | apply pw_below_drewN | apply below_drew1) | exact HB.out)⟩⟩
                rw [if_pos c43] at H
                have c43b0 : decide ((rd l0 x7_2) ≤ 22) = true := decide_eq_true c43
                clear c43
                by_cases c44 : (rd t205 x7_2) = (rd l0 x7_2)
                rotate_left
                · rw [if_neg c44] at H
                  exact absurd H (by simp)
                rw [if_pos c44] at H
                have c44b0 : ((rd t205 x7_2) == (rd l0 x7_2)) = true := beq_iff_eq.mpr c44
                have c44b1 : ((rd t205 x7_2) != (rd l0 x7_2)) = false := bne_eq_false_iff_eq.mpr c44
                clear c44
                by_cases c45 : (rd l0 x7_2) = 6
                rotate_left
                · rw [if_neg c45] at H
                  have c45b0 : ((rd l0 x7_2) == 6) = false := beq_eq_false_iff_ne.mpr c45
                  have c45b1 : ((rd l0 x7_2) != 6) = true := bne_iff_ne.mpr c45
                  have H' := Aside0.mk H
                  clear H
                  have p209 : 0 ≤ (x7_2 : Int) := of_decide_eq_true (by first | (with_reducible assumption) | assumption)
                  have q209 : x7_2 < (l0.length : Int) := of_decide_eq_true (by first | (with_reducible assumption) | assumption)
                  obtain ⟨ad209, e209, hx209_0⟩ := Kd.at_int HR0.out x7_2 p209 q209
                  cases e209
                  replace hx209_0 := (HB.out.cell (World.block_lt_of_cell? w _ hx209_0)).trans hx209_0
                  replace p209 := eq_true p209
                  replace q209 := eq_true q209
                  have p214 : 0 ≤ (x7_2 : Int) := of_decide_eq_true (by first | (with_reducible assumption) | assumption)
                  have q214 : x7_2 < (l0.length : Int) := of_decide_eq_true (by first | (with_reducible assumption) | assumption)
                  obtain ⟨ad214, e214, hx214_0⟩ := Kd.at_int HR0.out x7_2 p214 q214
                  obtain rfl : ad209 = ad214 := (by injection e214)
                  replace hx214_0 := (HB.out.cell (World.block_lt_of_cell? w _ hx214_0)).trans hx214_0
                  replace p214 := eq_true p214
                  replace q214 := eq_true q214
                  have p217 : 0 ≤ (x7_2 : Int) := of_decide_eq_true (by first | (with_reducible assumption) | assumption)
                  have q217 : x7_2 < (l0.length : Int) := of_decide_eq_true (by first | (with_reducible assumption) | assumption)
                  obtain ⟨ad217, e217, hx217_0⟩ := Kd.at_int HR0.out x7_2 p217 q217
                  obtain rfl : ad209 = ad217 := (by injection e217)
                  replace hx217_0 := (HB.out.cell (World.block_lt_of_cell? w _ hx217_0)).trans hx217_0
                  replace p217 := eq_true p217
                  replace q217 := eq_true q217
                  have p220 : 0 ≤ (x7_2 : Int) := of_decide_eq_true (by first | (with_reducible assumption) | assumption)
                  have q220 : x7_2 < (l0.length : Int) := of_decide_eq_true (by first | (with_reducible assumption) | assumption)
                  obtain ⟨ad220, e220, hx220_0⟩ := Kd.at_int HR0.out x7_2 p220 q220
                  obtain rfl : ad209 = ad220 := (by injection e220)
                  replace hx220_0 := (HB.out.cell (World.block_lt_of_cell? w _ hx220_0)).trans hx220_0
                  replace p220 := eq_true p220
                  replace q220 := eq_true q220
                  have p221 : 0 ≤ (x7_2 : Int) := of_decide_eq_true (by first | (with_reducible assumption) | assumption)
                  have q221 : x7_2 < (l0.length : Int) := of_decide_eq_true (by first | (with_reducible assumption) | assumption)
                  obtain ⟨ad221, e221, hx221_0⟩ := Kd.at_int HR0.out x7_2 p221 q221
                  obtain rfl : ad209 = ad221 := (by injection e221)
                  replace hx221_0 := (HB.out.cell (World.block_lt_of_cell? w _ hx221_0)).trans hx221_0
                  replace p221 := eq_true p221
                  replace q221 := eq_true q221
                  have p222 : 0 ≤ (x7_2 : Int) := of_decide_eq_true (by first | (with_reducible assumption) | assumption)
                  have q222 : x7_2 < (l0.length : Int) := of_decide_eq_true (by first | (with_reducible assumption) | assumption)
                  obtain ⟨ad222, e222, hx222_0⟩ := Kd.at_int HR0.out x7_2 p222 q222
                  obtain rfl : ad209 = ad222 := (by injection e222)
                  replace hx222_0 := (HB.out.cell (World.block_lt_of_cell? w _ hx222_0)).trans hx222_0
                  replace p222 := eq_true p222
                  replace q222 := eq_true q222
                  have p223 : 0 ≤ (x7_2 : Int) := of_decide_eq_true (by first | (with_reducible assumption) | assumption)
                  have q223 : x7_2 < (l0.length : Int) := of_decide_eq_true (by first | (with_reducible assumption) | assumption)
                  obtain ⟨ad223, e223, hx223_0⟩ := Kd.at_int HR0.out x7_2 p223 q223
                  obtain rfl : ad209 = ad223 := (by injection e223)
                  replace hx223_0 := (HB.out.cell (World.block_lt_of_cell? w _ hx223_0)).trans hx223_0
                  replace p223 := eq_true p223
                  replace q223 := eq_true q223
                  go_wp2
                  go_meet
                  case rel => exact ⟨_, (false), (by first | rfl | (simp; done) | (simp [*]; done)), H', ⟨by have := HJ6.out; have := HK2.out; have := HJ16.out; first | omega | exact Nat.le_refl _⟩, ⟨by (with_reducible repeat (first | apply Kd.R_alloc | apply Kd.R_drewN | apply Kd.R_drew)); exact HO_6.out⟩, ⟨by repeat (first | (with_reducible first | exact HB.out | apply below_alloc | apply pw_below_drewN | apply below_drew1) | exact HB.out)⟩⟩
                rw [if_pos c45] at H
                have c45b0 : ((rd l0 x7_2) == 6) = true := beq_iff_eq.mpr c45
                have c45b1 : ((rd l0 x7_2) != 6) = false := bne_eq_false_iff_eq.mpr c45
                clear c45
                have H' := Aside0.mk H
                clear H
                have p209 : 0 ≤ (x7_2 : Int) := of_decide_eq_true (by first | (with_reducible assumption) | assumption)
                have q209 : x7_2 < (l0.length : Int) := of_decide_eq_true (by first | (with_reducible assumption) | assumption)
                obtain ⟨ad209, e209, hx209_0⟩ := Kd.at_int HR0.out x7_2 p209 q209
                cases e209
                replace hx209_0 := (HB.out.cell (World.block_lt_of_cell? w _ hx209_0)).trans hx209_0
                replace p209 := eq_true p209
                replace q209 := eq_true q209
                have p214 : 0 ≤ (x7_2 : Int) := of_decide_eq_true (by first | (with_reducible assumption) | assumption)
                have q214 : x7_2 < (l0.length : Int) := of_decide_eq_true (by first | (with_reducible assumption) | assumption)
                obtain ⟨ad214, e214, hx214_0⟩ := Kd.at_int HR0.out x7_2 p214 q214
                obtain rfl : ad209 = ad214 := (by injection e214)
                replace hx214_0 := (HB.out.cell (World.block_lt_of_cell? w _ hx214_0)).trans hx214_0
                replace p214 := eq_true p214
                replace q214 := eq_true q214
                have p217 : 0 ≤ (x7_2 : Int) := of_decide_eq_true (by first | (with_reducible assumption) | assumption)
                have q217 : x7_2 < (l0.length : Int) := of_decide_eq_true (by first | (with_reducible assumption) | assumption)
                obtain ⟨ad217, e217, hx217_0⟩ := Kd.at_int HR0.out x7_2 p217 q217
                obtain rfl : ad209 = ad217 := (by injection e217)
                replace hx217_0 := (HB.out.cell (World.block_lt_of_cell? w _ hx217_0)).trans hx217_0
                replace p217 := eq_true p217
                replace q217 := eq_true q217
                have p220 : 0 ≤ (x7_2 : Int) := of_decide_eq_true (by first | (with_reducible assumption) | assumption)
                have q220 : x7_2 < (l0.length : Int) := of_decide_eq_true (by first | (with_reducible assumption) | assumption)
                obtain ⟨ad220, e220, hx220_0⟩ := Kd.at_int HR0.out x7_2 p220 q220
                obtain rfl : ad209 = ad220 := (by injection e220)
                replace hx220_0 := (HB.out.cell (World.block_lt_of_cell? w _ hx220_0)).trans hx220_0
                replace p220 := eq_true p220
                replace q220 := eq_true q220
                have p221 : 0 ≤ (x7_2 : Int) := of_decide_eq_true (by first | (with_reducible assumption) | assumption)
                have q221 : x7_2 < (l0.length : Int) := of_decide_eq_true (by first | (with_reducible assumption) | assumption)
                obtain ⟨ad221, e221, hx221_0⟩ := Kd.at_int HR0.out x7_2 p221 q221
                obtain rfl : ad209 = ad221 := (by injection e221)
                replace hx221_0 := (HB.out.cell (World.block_lt_of_cell? w _ hx221_0)).trans hx221_0
                replace p221 := eq_true p221
                replace q221 := eq_true q221
                have p222 : 0 ≤ (x7_2 : Int) := of_decide_eq_true (by first | (with_reducible assumption) | assumption)
                have q222 : x7_2 < (l0.length : Int) := of_decide_eq_true (by first | (with_reducible assumption) | assumption)
                obtain ⟨ad222, e222, hx222_0⟩ := Kd.at_int HR0.out x7_2 p222 q222
                obtain rfl : ad209 = ad222 := (by injection e222)
                replace hx222_0 := (HB.out.cell (World.block_lt_of_cell? w _ hx222_0)).trans hx222_0
                replace p222 := eq_true p222
                replace q222 := eq_true q222
                have p223 : 0 ≤ (x7_2 : Int) := of_decide_eq_true (by first | (with_reducible assumption) | assumption)
                have q223 : x7_2 < (l0.length : Int) := of_decide_eq_true (by first | (with_reducible assumption) | assumption)
                obtain ⟨ad223, e223, hx223_0⟩ := Kd.at_int HR0.out x7_2 p223 q223
                obtain rfl : ad209 = ad223 := (by injection e223)
                replace hx223_0 := (HB.out.cell (World.block_lt_of_cell? w _ hx223_0)).trans hx223_0
                replace p223 := eq_true p223
                replace q223 := eq_true q223
                go_wp2
                go_meet
                case rel => exact ⟨_, (((rd t205 x7_2) != 6)), (by first | rfl | (simp; done) | (simp [*]; done)), H', ⟨by have := HJ6.out; have := HK2.out; have := HJ16.out; first | omega | exact Nat.le_refl _⟩, ⟨by (with_reducible repeat (first | apply Kd.R_alloc | apply Kd.R_drewN | apply Kd.R_drew)); exact HO_6.out⟩, ⟨by repeat (first | (with_reducible first | exact HB.out | apply below_alloc | apply pw_below_drewN | apply below_drew1) | exact HB.out)⟩⟩
              case rest =>
                clear HC25
                try clear c1
                try clear c2
                try clear p2
                try clear q2
                try clear hx2
                try clear c3
                try clear c4
                try clear c16
                try clear c16b0
                try clear c18
                try clear c18b0
                try clear c18b1
                try clear c19
                try clear c19b0
                try clear c19b1
                try clear c20
                try clear c20b0
                try clear c20b1
                try clear p20
                try clear q20
                try clear hx20
                try clear c21
                try clear c21b0
                try clear c21b1
                try clear p21
                try clear q21
                try clear hx21
                try clear c22
                try clear c22b0
                try clear c22b1
                try clear p22
                try clear q22
                try clear hx22
                try clear c23
                try clear c23b0
                try clear c24
                try clear c26
                try clear c26b0
                try clear c27
                try clear c27b0
                try clear c28
                try clear c28b0
                try clear c28b1
                try clear c29
                try clear c29b0
                try clear c29b1
                try clear c30
                try clear c30b0
                try clear c30b1
                try clear c31
                try clear c31b0
                try clear c31b1
                try clear c32
                try clear c32b0
                try clear c33
                try clear c33b0
                try clear c33b1
                try clear c34
                try clear c34b0
                try clear c34b1
                try clear c35
                try clear c35b0
                try clear c35b1
                try clear c36
                try clear c36b0
                try clear c37
                try clear c37b0
                try clear c37b1
                try clear c38
                try clear c38b0
                try clear c38b1
                try clear c39
                try clear c39b0
                try clear c39b1
                try clear c40
                try clear c40b0
                try clear c41
                try clear c41b0
                try clear c41b1
                try clear c42
                try clear c42b0
                try clear c43
                try clear c43b0
                try clear c44
                try clear c44b0
                try clear c44b1
                try clear c45
                try clear c45b0
                try clear c45b1
                try clear c46
                try clear c46b0
                try clear c46b1
                try clear c47
                try clear c47b0
                try clear c47b1
                try clear hx208_0
                try clear hx209_0
                try clear hx210_0
                try clear hx211_0
                try clear hx212_0
                try clear hx213_0
                try clear hx214_0
                try clear hx215_0
                try clear hx216_0
                try clear hx217_0
                try clear hx218_0
                try clear hx219_0
                try clear hx220_0
                try clear hx221_0
                try clear hx222_0
                try clear hx223_0
                try clear hx224_0
                try clear hx225_0
                try clear p2
                try clear p20
                try clear p208
                try clear p209
                try clear p210
                try clear p211
                try clear p212
                try clear p213
                try clear p214
                try clear p215
                try clear p216
                try clear p217
                try clear p218
                try clear p219
                try clear p220
                try clear p221
                try clear p222
                try clear p223
                try clear p224
                try clear p225
                try clear q20
                try clear q208
                try clear q209
                try clear q210
                try clear q211
                try clear q212
                try clear q213
                try clear q214
                try clear q215
                try clear q216
                try clear q217
                try clear q218
                try clear q219
                try clear q220
                try clear q221
                try clear q222
                try clear q223
                try clear q224
                try clear q225
                obtain ⟨kq, x118_24, rfl, HA, HJ24, HO_6, HB⟩ := hcut
                cases kq with
                | zero => exact absurd HA.out (by simp [ductuslaw09_WeakLeaves.j3])
                | succ kj24 =>
                  have H := HA.out
                  clear HA
                  simp only [ductuslaw09_WeakLeaves.j3] at H
                  by_cases c48 : x118_24 = true
                  · subst c48
                    have H1 : (none) = some r := by rw [if_pos rfl] at H; exact H
                    clear H
                    have H := H1
                    clear H1
                    exact absurd H (by simp)
                  replace c48 := Bool.eq_false_iff.mpr c48
                  subst c48
                  have H1 : (if (rd t205 x7_2) = 3 then ((weak_Strong.f kj24 t205 x7_2 x5_6).bind fun t226 => (if t226 = 0 then (none) else (ductuslaw09_WeakLeaves.l0 kj24 l0 x5_6 t205 (wrap64 (x7_2 + 1))))) else (ductuslaw09_WeakLeaves.l0 kj24 l0 x5_6 t205 (wrap64 (x7_2 + 1)))) = some r := by rw [if_neg (show ¬ (false = true) by decide)] at H; exact H
                  clear H
                  have H := H1
                  clear H1
                  by_cases c49 : (rd t205 x7_2) = 3
                  rotate_left
                  · rw [if_neg c49] at H
                    have c49b0 : ((rd t205 x7_2) == 3) = false := beq_eq_false_iff_ne.mpr c49
                    have c49b1 : ((rd t205 x7_2) != 3) = true := bne_iff_ne.mpr c49
                    have H' := Aside0.mk H
                    clear H
                    go_wp2
                    go_roundg kj24
                    case measure => have := HJ6.out; have := HK2.out; have := HJ16.out; have := HJ24.out; omega
                    case rel => exact ⟨(wrap64 (x7_2 + 1)), (by first | rfl | (simp; done) | (simp [*]; done)), H', ⟨by have := HJ6.out; have := HK2.out; have := HJ16.out; have := HJ24.out; omega⟩, ⟨by (with_reducible repeat (first | apply Kd.R_alloc | apply Kd.R_drewN | apply Kd.R_drew)); exact HO_6.out⟩, ⟨by repeat (first | (with_reducible first | exact HB.out | apply below_alloc | apply pw_below_drewN | apply below_drew1) | exact HB.out)⟩⟩
                  rw [if_pos c49] at H
                  have c49b0 : ((rd t205 x7_2) == 3) = true := beq_iff_eq.mpr c49
                  have c49b1 : ((rd t205 x7_2) != 3) = false := bne_eq_false_iff_eq.mpr c49
                  clear c49
                  replace H := Option.bind_eq_some_iff.mp H
                  obtain ⟨t226, A500, H⟩ := H
                  replace H : (if t226 = 0 then (none) else (ductuslaw09_WeakLeaves.l0 kj24 l0 x5_6 t205 (wrap64 (x7_2 + 1)))) = some r := H
                  have A50 := Aside0.mk A500
                  clear A500
                  by_cases c51 : t226 = 0
                  · rw [if_pos c51] at H
                    exact absurd H (by simp)
                  rw [if_neg c51] at H
                  have c51b0 : (t226 == 0) = false := beq_eq_false_iff_ne.mpr c51
                  have c51b1 : (t226 != 0) = true := bne_iff_ne.mpr c51
                  have H' := Aside0.mk H
                  clear H
                  go_wp2_with (first | (go_at_call 9; (with_reducible refine (weak_Strong.calls kj24 _ _ t205 x7_2 x5_6 t226 _ ?side1 ?side2 A50.out ?sideL).mono ?_); (case sideL => exact hL.at (by first | exact Below.refl _ _ | (repeat (first | (with_reducible first | exact HB.out | apply below_alloc | apply pw_below_drewN | apply below_drew1) | exact HB.out | exact Below.refl _ _)))); (case side1 => repeat (first | exact (Kd.R_reads' HO_6.out).2.2 | (with_reducible refine Kd.C_alloc ?_ _) | (with_reducible refine Kd.C_drewN ?_ _) | (with_reducible refine Kd.C_drew ?_))); (case side2 => exact (Kd.R_reads' HO_6.out).2.1); rintro e w52 ⟨rfl, hb⟩; have n0_ := Aside0.mk (Kd.R_below (by (with_reducible repeat (first | apply Kd.R_alloc | apply Kd.R_drewN | apply Kd.R_drew)); exact HO_6.out) hb); have n1_ := Aside0.mk (below_step (by repeat (first | (with_reducible first | exact HB.out | apply below_alloc | apply pw_below_drewN | apply below_drew1) | exact HB.out)) hb); clear HO_6; clear HB; have HO_6 := n0_; have HB := n1_; clear n0_ n1_; (try clear hb); (try clear hb2); (try clear hk); (try clear hi)))
                  go_roundg kj24
                  case measure => have := HJ6.out; have := HK2.out; have := HJ16.out; have := HJ24.out; omega
                  case rel => exact ⟨(wrap64 (x7_2 + 1)), (by first | rfl | (simp; done) | (simp [*]; done)), H', ⟨by have := HJ6.out; have := HK2.out; have := HJ16.out; have := HJ24.out; omega⟩, ⟨by (with_reducible repeat (first | apply Kd.R_alloc | apply Kd.R_drewN | apply Kd.R_drew)); exact HO_6.out⟩, ⟨by repeat (first | (with_reducible first | exact HB.out | apply below_alloc | apply pw_below_drewN | apply below_drew1) | exact HB.out)⟩⟩

/-- THE ONE PURE STATEMENT of ductuslaw09_WeakLeaves: yours. -/
def ductuslaw09_WeakLeaves.Pure : Prop := ∀ (l0 : List Int) (a1 : Bool), l0.length ≤ maxLen → l0.length * 8 ≤ 140737488351232 → (∀ x ∈ l0, (Lit.int .i64 x).wf = true) → ∃ k, ductuslaw09_WeakLeaves.f k l0 a1 = some true
theorem ductuslaw09_WeakLeaves.walk (P : ductuslaw09_WeakLeaves.Pure) (a0 : Option Addr) (len0 cap0 : Nat) (z0 : List Int) (a1 : Bool) (w : World) (w0 : (a0 = none ∧ len0 = 0 ∧ cap0 = 0 ∧ z0 = []) ∨ ∃ x, a0 = some x ∧ len0 ≤ cap0 ∧ cap0 ≤ maxLen ∧ z0.length = cap0 ∧ (∀ i, i < z0.length → w.cell? (x.add i) = some (.int .i64 (z0.getD i 0))) ∧ ∀ n ∈ z0, (Lit.int .i64 n).wf = true) (y0 : len0 * 8 ≤ 140737488351232) (hL : WordsAt w) :
    Calls Tryd.prog 3 #[.slice a0 len0 cap0, .bool a1] w fun e w' => e = .returned (.bool true) ∧ Below w.heap.size w w' := by
  obtain ⟨l0, rfl, hr0, hm0, hw0, hc0⟩ := ReadsInt.ofRowC w0
  obtain ⟨k, h⟩ := P l0 a1 hm0 y0 hw0
  refine (ductuslaw09_WeakLeaves.calls k _ _ l0 a1 true w (Kd.C_of_reads (d := (0 : Int)) (h1 := fun _ => rfl) hr0) hc0 h hL).mono ?_
  rintro e w' ⟨rfl, hd⟩
  exact ⟨rfl, hd⟩

end Go.Proofs.YtgoebfeojkgimaaDoor.P
