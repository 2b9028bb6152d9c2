/- Proved: a call of the Go function ductuslaw09.WeakSteps answers what the Lean function told here answers; condition: the table of classes' names stands in its cells. -/
import Derived.Test.YtgoebfeojkgimaaDoorPx4
import Derived.WalkKit
import Derived.ProofKit
namespace Go.Proofs.YtgoebfeojkgimaaDoor.P
open Go.RowKit Go.Proofs.YtgoebfeojkgimaaDoorW.PrintWords Go.Proofs.YtgoebfeojkgimaaDoorW.PrintLast Go.Proofs.YtgoebfeojkgimaaDoorW.PrintMore
set_option linter.unusedVariables false
set_option linter.unusedSimpArgs false

def ductuslaw09_WeakSteps.l0 : Nat → List Int → Int → List Int → Int → Option (Bool)
  | 0, _, _, _, _ => none
  | k + 1, x0, x1, x5, x6 => if x6 ≤ 7 then ((weak_Rule.f k x5 x1 x6).bind fun t => (if (t.length : Int) = (x0.length : Int) then (ductuslaw09_WeakSteps.l0 k x0 x1 t (wrap64 (x6 + 1))) else (none))) else ((weak_Of.f k x0 x1).bind fun t => ((ductusref01_Ints.f k x5 t).bind fun b => (some b)))
def ductuslaw09_WeakSteps.f (k : Nat) (l0 : List Int) (a1 : Int) : Option (Bool) := (ductuslaw09_alive.f k).bind fun t => (if t = true then (if (l0.length : Int) > 200 then (some true) else (ductuslaw09_WeakSteps.l0 k l0 a1 l0 1)) else (none))
set_option maxHeartbeats 4000000 in
set_option maxRecDepth 100000 in
theorem ductuslaw09_WeakSteps.calls (k : Nat) (A0 : Option Addr) (c0 : Nat) (l0 : List Int) (a1 : Int) (r : Bool) (w : World) (hr0 : Kd.C (Kd.int .i64) w A0 l0.length l0) (hc0 : l0.length ≤ c0) (h : ductuslaw09_WeakSteps.f k l0 a1 = some r) (hL : WordsAt w) :
    Calls Tryd.prog 4 #[.slice A0 l0.length c0, .int .i64 a1] w fun e w' => e = .returned (.bool r) ∧ Below w.heap.size w w' := by
  have HR0 := Aside0.mk hr0
  have HC0 := Aside0.mk hc0
  clear hr0 hc0
  have HB := Aside0.mk (Below.refl w.heap.size w)
  unfold ductuslaw09_WeakSteps.f at h
  obtain ⟨t, A40, H⟩ := Option.bind_eq_some_iff.mp h
  clear h
  have A4 := Aside0.mk A40
  clear A40
  by_cases c5 : t = true
  rotate_left
  · rw [if_neg c5] at H
    exact absurd H (by simp)
  subst c5
  rw [if_pos rfl] at H
  by_cases c6 : (l0.length : Int) > 200
  · rw [if_pos c6] at H
    have c6b0 : decide (200 < (l0.length : Int)) = true := decide_eq_true c6
    clear c6
    obtain rfl := Option.some.inj H
    go_enter Tryd.func4, Tryd.ntmps4
    go_wp2_with (first | ((with_reducible refine (ductuslaw09_alive.calls k true _ A4.out ?sideL).mono ?_); (case sideL => exact hL.at (by first | exact Below.refl _ _ | (repeat (first | (with_reducible first | exact HB.out | apply below_alloc | apply pw_below_drewN | apply below_drew1) | exact HB.out | exact Below.refl _ _)))); rintro e w7 ⟨rfl, hb⟩; have n0_ := Aside0.mk (below_step (by repeat (first | (with_reducible first | exact HB.out | apply below_alloc | apply pw_below_drewN | apply below_drew1) | exact HB.out)) hb); clear HB; have HB := n0_; clear n0_; (try clear hb)))
    go_ret
    exact ⟨by first | rfl | (simp [*] <;> rfl), by repeat (first | (with_reducible first | exact HB.out | apply below_alloc | apply pw_below_drewN | apply below_drew1) | exact HB.out)⟩
  rw [if_neg c6] at H
  have c6b0 : decide (200 < (l0.length : Int)) = false := decide_eq_false c6
  clear c6
  have H' := Aside0.mk H
  clear H
  go_enter Tryd.func4, Tryd.ntmps4
  go_wp2_with (first | ((with_reducible refine (ductuslaw09_alive.calls k true _ A4.out ?sideL).mono ?_); (case sideL => exact hL.at (by first | exact Below.refl _ _ | (repeat (first | (with_reducible first | exact HB.out | apply below_alloc | apply pw_below_drewN | apply below_drew1) | exact HB.out | exact Below.refl _ _)))); rintro e w7 ⟨rfl, hb⟩; have n0_ := Aside0.mk (below_step (by repeat (first | (with_reducible first | exact HB.out | apply below_alloc | apply pw_below_drewN | apply below_drew1) | exact HB.out)) hb); clear HB; have HB := n0_; clear n0_; (try clear hb)))
  go_loopg [5, 6] k (fun kq v5 v6 w' => ∃ (A : Option Addr) (c : Nat) (xs : List Int) (x6 : Int), v5 = .slice A xs.length c ∧ v6 = .int .i64 x6 ∧ Aside0 (ductuslaw09_WeakSteps.l0 kq l0 a1 xs x6 = some r) ∧ Aside0 (kq ≤ k) ∧ Aside0 (Kd.C (Kd.int .i64) w' A xs.length xs) ∧ Aside0 (xs.length ≤ c) ∧ Aside0 (Below w.heap.size w w'))
  case atStart => exact ⟨_, _, l0, 1, rfl, rfl, H', ⟨Nat.le_refl _⟩, ⟨Kd.C_below HR0.out (by repeat (first | (with_reducible first | exact HB.out | apply below_alloc | apply pw_below_drewN | apply below_drew1) | exact HB.out))⟩, HC0, ⟨by repeat (first | (with_reducible first | exact HB.out | apply below_alloc | apply pw_below_drewN | apply below_drew1) | exact HB.out)⟩⟩
  case round =>
    clear H'
    try clear c6b0
    obtain ⟨A, c, xs, x6, rfl, rfl, HA, HK, HX, HXC, HB⟩ := hrel
    cases gk with
    | zero => exact absurd HA.out (by simp [ductuslaw09_WeakSteps.l0])
    | succ k2 =>
      have H := HA.out
      clear HA
      simp only [ductuslaw09_WeakSteps.l0] at H
      by_cases c14 : x6 ≤ 7
      · rw [if_pos c14] at H
        have c14b0 : decide (x6 ≤ 7) = true := decide_eq_true c14
        clear c14
        obtain ⟨t, A50, H⟩ := Option.bind_eq_some_iff.mp H
        have A5 := Aside0.mk A50
        clear A50
        by_cases c7 : (t.length : Int) = (l0.length : Int)
        rotate_left
        · rw [if_neg c7] at H
          exact absurd H (by simp)
        rw [if_pos c7] at H
        have c7b1 : ((t.length : Int) != (l0.length : Int)) = false := bne_eq_false_iff_eq.mpr c7
        clear c7
        have H' := Aside0.mk H
        clear H
        go_wp2_with (first | ((with_reducible refine (weak_Rule.calls k2 _ _ xs a1 x6 t _ ?side1 ?side2 A5.out ?sideL).mono ?_); (case sideL => exact hL.at (by first | exact Below.refl _ _ | (repeat (first | (with_reducible first | exact HB.out | apply below_alloc | apply pw_below_drewN | apply below_drew1) | exact HB.out | exact Below.refl _ _)))); (case side1 => repeat (first | exact HX.out | (with_reducible refine Kd.C_alloc ?_ _) | (with_reducible refine Kd.C_drewN ?_ _) | (with_reducible refine Kd.C_drew ?_))); (case side2 => exact HXC.out); rintro e w13 ⟨v, rfl, ho, hb⟩; have n0_ := Aside0.mk (below_step (by repeat (first | (with_reducible first | exact HB.out | apply below_alloc | apply pw_below_drewN | apply below_drew1) | exact HB.out)) hb); clear HB; have HB := n0_; clear n0_; (try clear hb); have HO := Aside0.mk ho; clear ho; obtain ⟨Ao, co, eo⟩ := Kd.R_slice HO.out; subst eo))
        go_roundg k2
        case measure => have := HK.out; omega
        case rel => exact ⟨_, _, t, _, rfl, rfl, H', ⟨by have := HK.out; omega⟩, ⟨by repeat (first | exact (Kd.R_reads' HO.out).2.2 | (with_reducible refine Kd.C_alloc ?_ _) | (with_reducible refine Kd.C_drewN ?_ _) | (with_reducible refine Kd.C_drew ?_))⟩, ⟨(Kd.R_reads' HO.out).2.1⟩, ⟨by repeat (first | (with_reducible first | exact HB.out | apply below_alloc | apply pw_below_drewN | apply below_drew1) | exact HB.out)⟩⟩
      · rw [if_neg c14] at H
        have c14b0 : decide (x6 ≤ 7) = false := decide_eq_false c14
        clear c14
        obtain ⟨t, A50, H⟩ := Option.bind_eq_some_iff.mp H
        obtain ⟨b, A60, H⟩ := Option.bind_eq_some_iff.mp H
        obtain rfl := Option.some.inj H
        clear H
        have A5 := Aside0.mk A50
        have A6 := Aside0.mk A60
        clear A50 A60
        go_wp2_with (first | ((with_reducible refine (weak_Of.calls k2 _ _ l0 a1 t _ ?side1 ?side2 A5.out ?sideL).mono ?_); (case sideL => exact hL.at (by first | exact Below.refl _ _ | (repeat (first | (with_reducible first | exact HB.out | apply below_alloc | apply pw_below_drewN | apply below_drew1) | exact HB.out | exact Below.refl _ _)))); (case side1 => repeat (first | exact (Kd.C_below HR0.out HB.out) | (with_reducible refine Kd.C_alloc ?_ _) | (with_reducible refine Kd.C_drewN ?_ _) | (with_reducible refine Kd.C_drew ?_))); (case side2 => exact HC0.out); rintro e w13 ⟨v, rfl, ho, hb⟩; have n0_ := Aside0.mk (below_step (by repeat (first | (with_reducible first | exact HB.out | apply below_alloc | apply pw_below_drewN | apply below_drew1) | exact HB.out)) hb); have n1_ := Aside0.mk (Kd.C_below (by repeat (first | exact HX.out | (with_reducible refine Kd.C_alloc ?_ _) | (with_reducible refine Kd.C_drewN ?_ _) | (with_reducible refine Kd.C_drew ?_))) hb); clear HB HX; have HB := n0_; have HX := n1_; clear n0_ n1_; (try clear hb); have HO := Aside0.mk ho; clear ho; obtain ⟨Ao, co, eo⟩ := Kd.R_slice HO.out; subst eo) | ((with_reducible refine (ductusref01_Ints.calls k2 _ _ xs _ _ t b _ ?side1 ?side2 ?side3 ?side4 A6.out).mono ?_); (case side1 => repeat (first | exact HX.out | (with_reducible refine Kd.C_alloc ?_ _) | (with_reducible refine Kd.C_drewN ?_ _) | (with_reducible refine Kd.C_drew ?_))); (case side2 => exact HXC.out); (case side3 => repeat (first | exact (Kd.R_reads' HO.out).2.2 | (with_reducible refine Kd.C_alloc ?_ _) | (with_reducible refine Kd.C_drewN ?_ _) | (with_reducible refine Kd.C_drew ?_))); (case side4 => exact (Kd.R_reads' HO.out).2.1); rintro e w14 ⟨rfl, ⟨nd, rfl⟩⟩))
        go_ret
        exact ⟨by first | rfl | (simp [*] <;> rfl), by repeat (first | (with_reducible first | exact HB.out | apply below_alloc | apply pw_below_drewN | apply below_drew1) | exact HB.out)⟩
def ductuslaw09_WeakSteps.Pure : Prop := ∀ (l0 : List Int) (a1 : Int), l0.length ≤ maxLen → l0.length * 8 ≤ 140737488351232 → (∀ x ∈ l0, (Lit.int .i64 x).wf = true) → (Lit.int .i64 a1).wf = true → ∃ k, ductuslaw09_WeakSteps.f k l0 a1 = some true
theorem ductuslaw09_WeakSteps.walk (P : ductuslaw09_WeakSteps.Pure) (a0 : Option Addr) (len0 cap0 : Nat) (z0 : List Int) (a1 : Int) (w : World) (w0 : (a0 = none ∧ len0 = 0 ∧ cap0 = 0 ∧ z0 = []) ∨ ∃ x, a0 = some x ∧ len0 ≤ cap0 ∧ cap0 ≤ maxLen ∧ z0.length = cap0 ∧ (∀ i, i < z0.length → w.cell? (x.add i) = some (.int .i64 (z0.getD i 0))) ∧ ∀ n ∈ z0, (Lit.int .i64 n).wf = true) (y0 : len0 * 8 ≤ 140737488351232) (w1 : (Lit.int .i64 a1).wf = true) (hL : WordsAt w) :
    Calls Tryd.prog 4 #[.slice a0 len0 cap0, .int .i64 a1] w fun e w' => e = .returned (.bool true) ∧ Below w.heap.size w w' := by
  obtain ⟨l0, rfl, hr0, hm0, hw0, hc0⟩ := ReadsInt.ofRowC w0
  obtain ⟨k, h⟩ := P l0 a1 hm0 y0 hw0 w1
  refine (ductuslaw09_WeakSteps.calls k _ _ l0 a1 true w (Kd.C_of_reads (d := (0 : Int)) (h1 := fun _ => rfl) hr0) hc0 h hL).mono ?_
  rintro e w' ⟨rfl, hd⟩
  exact ⟨rfl, hd⟩
end Go.Proofs.YtgoebfeojkgimaaDoor.P
