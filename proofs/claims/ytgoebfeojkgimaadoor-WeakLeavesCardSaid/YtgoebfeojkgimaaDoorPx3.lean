/- Printed by a program of this claim's own over the translation: Lean functions of the Go functions, each with its proof; no condition beyond those written. -/
import Derived.Test.YtgoebfeojkgimaaDoorPx0
import Derived.Test.YtgoebfeojkgimaaDoorPx1
import Derived.Test.YtgoebfeojkgimaaDoorPx2
import Derived.Test.YtgoebfeojkgimaaDoorSBecome
namespace Go.Proofs.YtgoebfeojkgimaaDoor.P
open Go.RowKit Go.Proofs.YtgoebfeojkgimaaDoorW.PrintWords Go.Proofs.YtgoebfeojkgimaaDoorW.PrintLast Go.Proofs.YtgoebfeojkgimaaDoorW.PrintMore
attribute [local go_sem] max2_int min2_int max_two min_two max_three min_three max_four min_four   -- for this text's walks alone
set_option linter.unusedVariables false
set_option linter.unusedSimpArgs false

/-! ### weak_ends: function 21 -/
mutual
def weak_ends.l0 : Nat → List Int → Int → Option (List Int)
  | 0, _, _ => none
  | k + 1, x0, x2 => if x2 < (x0.length : Int) then (if 0 ≤ x2 then (if (rd x0 x2) = 5 then (weak_ends.l1 k x0 x2 x2) else (weak_ends.l0 k x0 (wrap64 (x2 + 1)))) else (none)) else (some x0)
def weak_ends.j2 : Nat → List Int → Int → Int → Option (List Int)
  | 0, _, _, _ => none
  | k + 1, x0, x2, x3 => if x2 > 0 then (if 0 ≤ (wrap64 (x2 - 1)) then (if (wrap64 (x2 - 1)) < (x0.length : Int) then (if (rd x0 (wrap64 (x2 - 1))) = 3 then (weak_ends.j3 k x0 x2 x3 true) else (if x3 < (x0.length : Int) then (if 0 ≤ x3 then (weak_ends.j3 k x0 x2 x3 ((rd x0 x3) == 3)) else (none)) else (weak_ends.j3 k x0 x2 x3 false))) else (none)) else (none)) else (if x3 < (x0.length : Int) then (if 0 ≤ x3 then (weak_ends.j3 k x0 x2 x3 ((rd x0 x3) == 3)) else (none)) else (weak_ends.j3 k x0 x2 x3 false))
def weak_ends.j3 : Nat → List Int → Int → Int → Bool → Option (List Int)
  | 0, _, _, _, _ => none
  | k + 1, x0, x2, x3, x4 => weak_ends.l2 k x0 x2 x3 x4
def weak_ends.l2 : Nat → List Int → Int → Int → Bool → Option (List Int)
  | 0, _, _, _, _ => none
  | k + 1, x0, x2, x3, x4 => if x2 < x3 then (if x4 = true then (if 0 ≤ x2 then (if x2 < (x0.length : Int) then (weak_ends.l2 k (x0.set (x2 : Int).toNat 3) (wrap64 (x2 + 1)) x3 x4) else (none)) else (none)) else (weak_ends.l0 k x0 x3)) else (weak_ends.l0 k x0 x2)
def weak_ends.l1 : Nat → List Int → Int → Int → Option (List Int)
  | 0, _, _, _ => none
  | k + 1, x0, x2, x3 => if x3 < (x0.length : Int) then (if 0 ≤ x3 then (if (rd x0 x3) = 5 then (weak_ends.l1 k x0 x2 (wrap64 (x3 + 1))) else (weak_ends.j2 k x0 x2 x3)) else (none)) else (weak_ends.j2 k x0 x2 x3)
end
def weak_ends.f (k : Nat) (l0 : List Int) : Option (List Int) := weak_ends.l0 k l0 0
theorem weak_ends.mono_l : ∀ k, (∀ y0 y1, LeO (weak_ends.l0 k y0 y1) (weak_ends.l0 (k + 1) y0 y1)) ∧ (∀ y0 y1 y2, LeO (weak_ends.j2 k y0 y1 y2) (weak_ends.j2 (k + 1) y0 y1 y2)) ∧ (∀ y0 y1 y2 y3, LeO (weak_ends.j3 k y0 y1 y2 y3) (weak_ends.j3 (k + 1) y0 y1 y2 y3)) ∧ (∀ y0 y1 y2 y3, LeO (weak_ends.l2 k y0 y1 y2 y3) (weak_ends.l2 (k + 1) y0 y1 y2 y3)) ∧ (∀ y0 y1 y2, LeO (weak_ends.l1 k y0 y1 y2) (weak_ends.l1 (k + 1) y0 y1 y2))
  | 0 => ⟨fun _ _ r h => by simp [weak_ends.l0] at h, fun _ _ _ r h => by simp [weak_ends.j2] at h, fun _ _ _ _ r h => by simp [weak_ends.j3] at h, fun _ _ _ _ r h => by simp [weak_ends.l2] at h, fun _ _ _ r h => by simp [weak_ends.l1] at h⟩
  | k + 1 => by
    obtain ⟨ih0, ih1, ih2, ih3, ih4⟩ := weak_ends.mono_l k
    refine ⟨?_, ?_, ?_, ?_, ?_⟩
    · intro y0 y1
      unfold weak_ends.l0
      repeat' first
      | (with_reducible exact ih0 _ _)
      | (with_reducible exact ih1 _ _ _)
      | (with_reducible exact ih2 _ _ _ _)
      | (with_reducible exact ih3 _ _ _ _)
      | (with_reducible exact ih4 _ _ _)
      | (with_reducible exact LeO.refl _)
      | (with_reducible exact LeO.none _)
      | (with_reducible refine LeO.ite ?_ ?_)
      | (with_reducible refine LeO.bind ?_ (fun _ => ?_))
      | exact ih0 _ _
      | exact ih1 _ _ _
      | exact ih2 _ _ _ _
      | exact ih3 _ _ _ _
      | exact ih4 _ _ _
      | exact LeO.none _
      | refine LeO.ite ?_ ?_
      | refine LeO.bind ?_ (fun _ => ?_)
    · intro y0 y1 y2
      unfold weak_ends.j2
      repeat' first
      | (with_reducible exact ih0 _ _)
      | (with_reducible exact ih1 _ _ _)
      | (with_reducible exact ih2 _ _ _ _)
      | (with_reducible exact ih3 _ _ _ _)
      | (with_reducible exact ih4 _ _ _)
      | (with_reducible exact LeO.refl _)
      | (with_reducible exact LeO.none _)
      | (with_reducible refine LeO.ite ?_ ?_)
      | (with_reducible refine LeO.bind ?_ (fun _ => ?_))
      | exact ih0 _ _
      | exact ih1 _ _ _
      | exact ih2 _ _ _ _
      | exact ih3 _ _ _ _
      | exact ih4 _ _ _
      | exact LeO.none _
      | refine LeO.ite ?_ ?_
      | refine LeO.bind ?_ (fun _ => ?_)
    · intro y0 y1 y2 y3
      unfold weak_ends.j3
      repeat' first
      | (with_reducible exact ih0 _ _)
      | (with_reducible exact ih1 _ _ _)
      | (with_reducible exact ih2 _ _ _ _)
      | (with_reducible exact ih3 _ _ _ _)
      | (with_reducible exact ih4 _ _ _)
      | (with_reducible exact LeO.refl _)
      | (with_reducible exact LeO.none _)
      | (with_reducible refine LeO.ite ?_ ?_)
      | (with_reducible refine LeO.bind ?_ (fun _ => ?_))
      | exact ih0 _ _
      | exact ih1 _ _ _
      | exact ih2 _ _ _ _
      | exact ih3 _ _ _ _
      | exact ih4 _ _ _
      | exact LeO.none _
      | refine LeO.ite ?_ ?_
      | refine LeO.bind ?_ (fun _ => ?_)
    · intro y0 y1 y2 y3
      unfold weak_ends.l2
      repeat' first
      | (with_reducible exact ih0 _ _)
      | (with_reducible exact ih1 _ _ _)
      | (with_reducible exact ih2 _ _ _ _)
      | (with_reducible exact ih3 _ _ _ _)
      | (with_reducible exact ih4 _ _ _)
      | (with_reducible exact LeO.refl _)
      | (with_reducible exact LeO.none _)
      | (with_reducible refine LeO.ite ?_ ?_)
      | (with_reducible refine LeO.bind ?_ (fun _ => ?_))
      | exact ih0 _ _
      | exact ih1 _ _ _
      | exact ih2 _ _ _ _
      | exact ih3 _ _ _ _
      | exact ih4 _ _ _
      | exact LeO.none _
      | refine LeO.ite ?_ ?_
      | refine LeO.bind ?_ (fun _ => ?_)
    · intro y0 y1 y2
      unfold weak_ends.l1
      repeat' first
      | (with_reducible exact ih0 _ _)
      | (with_reducible exact ih1 _ _ _)
      | (with_reducible exact ih2 _ _ _ _)
      | (with_reducible exact ih3 _ _ _ _)
      | (with_reducible exact ih4 _ _ _)
      | (with_reducible exact LeO.refl _)
      | (with_reducible exact LeO.none _)
      | (with_reducible refine LeO.ite ?_ ?_)
      | (with_reducible refine LeO.bind ?_ (fun _ => ?_))
      | exact ih0 _ _
      | exact ih1 _ _ _
      | exact ih2 _ _ _ _
      | exact ih3 _ _ _ _
      | exact ih4 _ _ _
      | exact LeO.none _
      | refine LeO.ite ?_ ?_
      | refine LeO.bind ?_ (fun _ => ?_)
theorem weak_ends.mono : ∀ a0 k, LeO (weak_ends.f k a0) (weak_ends.f (k + 1) a0) := by
  intro a0 k
  obtain ⟨ih0, ih1, ih2, ih3, ih4⟩ := weak_ends.mono_l k
  unfold weak_ends.f
  repeat' first
      | (with_reducible exact ih0 _ _)
      | (with_reducible exact ih1 _ _ _)
      | (with_reducible exact ih2 _ _ _ _)
      | (with_reducible exact ih3 _ _ _ _)
      | (with_reducible exact ih4 _ _ _)
      | (with_reducible exact LeO.refl _)
      | (with_reducible exact LeO.none _)
      | (with_reducible refine LeO.ite ?_ ?_)
      | (with_reducible refine LeO.bind ?_ (fun _ => ?_))
      | exact ih0 _ _
      | exact ih1 _ _ _
      | exact ih2 _ _ _ _
      | exact ih3 _ _ _ _
      | exact ih4 _ _ _
      | exact LeO.none _
      | refine LeO.ite ?_ ?_
      | refine LeO.bind ?_ (fun _ => ?_)
set_option maxHeartbeats 8000000 in
set_option maxRecDepth 100000 in
theorem weak_ends.calls (k : Nat) (P0_ : Nat → Prop) (u9000_ : Value) (l0 : List Int) (r : List Int) (w0 w : World) (hB : Below w0.heap.size w0 w) (ho0 : Kd.R (Kd.int .i64) 3 w w0.heap.size P0_ u9000_ l0) (h : weak_ends.f k l0 = some r) :
    Calls Tryd.prog 21 #[u9000_] w fun e w' => e = .returned (.tuple #[]) ∧ Kd.R (Kd.int .i64) 3 w' w0.heap.size (fun k_ => (P0_ k_ ∨ w.heap.size ≤ k_)) u9000_ r ∧ Below w0.heap.size w0 w' ∧ Kept w w' (fun k_ => P0_ k_) := by
  have HO0 := Aside0.mk (show Kd.R (Kd.int .i64) 3 w w0.heap.size (fun k_ => (P0_ k_ ∨ w.heap.size ≤ k_)) u9000_ l0 from Kd.R_mono ho0 (fun k_ hk => (.inl hk)))
  have HK := Aside0.mk (Kept.refl w (fun k_ => P0_ k_))
  have HW0 := Aside0.mk hB.size
  have HB := Aside0.mk hB
  clear hB
  have H : (weak_ends.l0 k l0 0) = some r := h
  clear h
  have H' := Aside0.mk H
  clear H
  go_enter Tryd.func21, Tryd.ntmps21
  go_wp2
  go_step3
  go_wp2
  go_step3
  go_wp2
  go_loopg [2] k (fun kq v2 w' => ∃ (x0_1 : List Int) (x2_1 : Int), v2 = .int .i64 x2_1 ∧ Aside0 (weak_ends.l0 kq x0_1 x2_1 = some r) ∧ Aside0 (kq ≤ k) ∧ Aside0 (Kd.R (Kd.int .i64) 3 w' w0.heap.size (fun k_ => (P0_ k_ ∨ w.heap.size ≤ k_)) u9000_ x0_1) ∧ Aside0 (Kept w w' (fun k_ => P0_ k_)) ∧ Aside0 (Below w0.heap.size w0 w'))
  case atStart => exact ⟨(l0), (0), (by first | rfl | (simp; done) | (simp [*]; done)), H', ⟨Nat.le_refl _⟩, ⟨by (with_reducible repeat (first | apply Kd.R_alloc | apply Kd.R_drewN | apply Kd.R_drew)); exact HO0.out⟩, ⟨by repeat (first | (with_reducible first | exact HK.out | apply Kept.alloc | apply Kept.drewN | apply Kept.drew) | exact HK.out)⟩, ⟨by repeat (first | (with_reducible first | exact HB.out | apply below_alloc | apply pw_below_drewN | apply below_drew1) | exact HB.out)⟩⟩
  case round =>
    clear H'
    obtain ⟨x0_1, x2_1, rfl, HA, HK1, HO_0, HK, HB⟩ := hrel
    cases gk with
    | zero => exact absurd HA.out (by simp [weak_ends.l0])
    | succ k1 =>
      have H := HA.out
      clear HA
      simp only [weak_ends.l0] at H
      by_cases c2 : x2_1 < (x0_1.length : Int)
      rotate_left
      · rw [if_neg c2] at H
        have c2b0 : decide (x2_1 < (x0_1.length : Int)) = false := decide_eq_false c2
        clear c2
        obtain rfl := Option.some.inj H
        obtain ⟨Ao28, co28, eo28⟩ := Kd.R_slice HO_0.out
        subst eo28
        go_wp2
        first | go_end0 | ((try simp only [Exit.inBlock, Exit.then]); refine bodyPost_ret (results_none rfl _ _ _) rfl ?_)
        exact ⟨by first | rfl | (simp [errW_none, errW_some] <;> rfl) | (simp [*, errW_none, errW_some] <;> rfl), by (with_reducible repeat (first | apply Kd.R_alloc | apply Kd.R_drewN | apply Kd.R_drew)); exact HO_0.out, by repeat (first | (with_reducible first | exact HB.out | apply below_alloc | apply pw_below_drewN | apply below_drew1) | exact HB.out), by repeat (first | (with_reducible first | exact HK.out | apply Kept.alloc | apply Kept.drewN | apply Kept.drew) | exact HK.out)⟩
      rw [if_pos c2] at H
      have c2b0 : decide (x2_1 < (x0_1.length : Int)) = true := decide_eq_true c2
      clear c2
      by_cases c3 : 0 ≤ x2_1
      rotate_left
      · rw [if_neg c3] at H
        exact absurd H (by simp)
      rw [if_pos c3] at H
      have c3b0 : decide (0 ≤ x2_1) = true := decide_eq_true c3
      clear c3
      by_cases c4 : (rd x0_1 x2_1) = 5
      rotate_left
      · rw [if_neg c4] at H
        have c4b0 : ((rd x0_1 x2_1) == 5) = false := beq_eq_false_iff_ne.mpr c4
        have c4b1 : ((rd x0_1 x2_1) != 5) = true := bne_iff_ne.mpr c4
        have H' := Aside0.mk H
        clear H
        obtain ⟨Ao27, co27, eo27⟩ := Kd.R_slice HO_0.out
        subst eo27
        have p134 : 0 ≤ (x2_1 : Int) := of_decide_eq_true (by first | (with_reducible assumption) | assumption)
        have q134 : x2_1 < (x0_1.length : Int) := of_decide_eq_true (by first | (with_reducible assumption) | assumption)
        obtain ⟨ad134, e134, hx134_0⟩ := Kd.at_int (Kd.R_reads' HO_0.out).2.2 x2_1 p134 q134
        cases e134
        replace p134 := eq_true p134
        replace q134 := eq_true q134
        go_wp2
        go_roundg k1
        case measure => have := HK1.out; omega
        case rel => exact ⟨(x0_1), (wrap64 (x2_1 + 1)), (by first | rfl | (simp; done) | (simp [*]; done)), H', ⟨by have := HK1.out; omega⟩, ⟨by (with_reducible repeat (first | apply Kd.R_alloc | apply Kd.R_drewN | apply Kd.R_drew)); exact HO_0.out⟩, ⟨by repeat (first | (with_reducible first | exact HK.out | apply Kept.alloc | apply Kept.drewN | apply Kept.drew) | exact HK.out)⟩, ⟨by repeat (first | (with_reducible first | exact HB.out | apply below_alloc | apply pw_below_drewN | apply below_drew1) | exact HB.out)⟩⟩
      rw [if_pos c4] at H
      have c4b0 : ((rd x0_1 x2_1) == 5) = true := beq_iff_eq.mpr c4
      have c4b1 : ((rd x0_1 x2_1) != 5) = false := bne_eq_false_iff_eq.mpr c4
      clear c4
      have HC5 := Aside0.mk H
      clear H
      obtain ⟨Ao6, co6, eo6⟩ := Kd.R_slice HO_0.out
      subst eo6
      have p134 : 0 ≤ (x2_1 : Int) := of_decide_eq_true (by first | (with_reducible assumption) | assumption)
      have q134 : x2_1 < (x0_1.length : Int) := of_decide_eq_true (by first | (with_reducible assumption) | assumption)
      obtain ⟨ad134, e134, hx134_0⟩ := Kd.at_int (Kd.R_reads' HO_0.out).2.2 x2_1 p134 q134
      cases e134
      replace p134 := eq_true p134
      replace q134 := eq_true q134
      go_upto_block 2 with (fail)
      go_cut [3] (fun v3 wc => ∃ (kq : Nat) (x3_4 : Int), v3 = .int .i64 x3_4 ∧ Aside0 (weak_ends.j2 kq x0_1 x2_1 x3_4 = some r) ∧ Aside0 (kq ≤ k1) ∧ Aside0 (Kd.R (Kd.int .i64) 3 wc w0.heap.size (fun k_ => (P0_ k_ ∨ w.heap.size ≤ k_)) (.slice (some ad134) x0_1.length co6) x0_1) ∧ Aside0 (Kept w wc (fun k_ => P0_ k_)) ∧ Aside0 (Below w0.heap.size w0 wc))
      case first =>
        have H := HC5.out
        clear HC5
        have H' := Aside0.mk H
        clear H
        go_wp2
        go_loopg [3] k1 (fun kq v3 w' => ∃ (x3_2 : Int), v3 = .int .i64 x3_2 ∧ Aside0 (weak_ends.l1 kq x0_1 x2_1 x3_2 = some r) ∧ Aside0 (kq ≤ k1) ∧ Aside0 (Kd.R (Kd.int .i64) 3 w' w0.heap.size (fun k_ => (P0_ k_ ∨ w.heap.size ≤ k_)) (.slice (some ad134) x0_1.length co6) x0_1) ∧ Aside0 (Kept w w' (fun k_ => P0_ k_)) ∧ Aside0 (Below w0.heap.size w0 w'))
        case atStart => exact ⟨(x2_1), (by first | rfl | (simp; done) | (simp [*]; done)), H', ⟨Nat.le_refl _⟩, ⟨by (with_reducible repeat (first | apply Kd.R_alloc | apply Kd.R_drewN | apply Kd.R_drew)); exact HO_0.out⟩, ⟨by repeat (first | (with_reducible first | exact HK.out | apply Kept.alloc | apply Kept.drewN | apply Kept.drew) | exact HK.out)⟩, ⟨by repeat (first | (with_reducible first | exact HB.out | apply below_alloc | apply pw_below_drewN | apply below_drew1) | exact HB.out)⟩⟩
        case round =>
          clear H'
          try clear p1
          try clear q1
          try clear hx1
          try clear c2
          try clear c2b0
          try clear p2
          try clear c3
          try clear c3b0
          try clear c4
          try clear c4b0
          try clear c4b1
          try clear hx134_0
          try clear p134
          try clear q134
          obtain ⟨x3_2, rfl, HA, HK2, HO_0, HK, HB⟩ := hrel
          cases gk with
          | zero => exact absurd HA.out (by simp [weak_ends.l1])
          | succ k2 =>
            have H := HA.out
            clear HA
            simp only [weak_ends.l1] at H
            by_cases c7 : x3_2 < (x0_1.length : Int)
            rotate_left
            · rw [if_neg c7] at H
              have c7b0 : decide (x3_2 < (x0_1.length : Int)) = false := decide_eq_false c7
              clear c7
              (first | rw [c7b0] | (simp only [i64_w, i32_w]; rw [c7b0]) | skip)
              have H' := Aside0.mk H
              clear H
              go_wp2
              go_meet
              case rel => exact ⟨_, (x3_2), (by first | rfl | (simp; done) | (simp [*]; done)), H', ⟨by have := HK1.out; have := HK2.out; first | omega | exact Nat.le_refl _⟩, ⟨by (with_reducible repeat (first | apply Kd.R_alloc | apply Kd.R_drewN | apply Kd.R_drew)); exact HO_0.out⟩, ⟨by repeat (first | (with_reducible first | exact HK.out | apply Kept.alloc | apply Kept.drewN | apply Kept.drew) | exact HK.out)⟩, ⟨by repeat (first | (with_reducible first | exact HB.out | apply below_alloc | apply pw_below_drewN | apply below_drew1) | exact HB.out)⟩⟩
            rw [if_pos c7] at H
            have c7b0 : decide (x3_2 < (x0_1.length : Int)) = true := decide_eq_true c7
            clear c7
            (first | rw [c7b0] | (simp only [i64_w, i32_w]; rw [c7b0]) | skip)
            by_cases c8 : 0 ≤ x3_2
            rotate_left
            · rw [if_neg c8] at H
              exact absurd H (by simp)
            rw [if_pos c8] at H
            have c8b0 : decide (0 ≤ x3_2) = true := decide_eq_true c8
            clear c8
            by_cases c9 : (rd x0_1 x3_2) = 5
            rotate_left
            · rw [if_neg c9] at H
              have c9b0 : ((rd x0_1 x3_2) == 5) = false := beq_eq_false_iff_ne.mpr c9
              have c9b1 : ((rd x0_1 x3_2) != 5) = true := bne_iff_ne.mpr c9
              have H' := Aside0.mk H
              clear H
              have p135 : 0 ≤ (x3_2 : Int) := of_decide_eq_true (by first | (with_reducible assumption) | assumption)
              have q135 : x3_2 < (x0_1.length : Int) := of_decide_eq_true (by first | (with_reducible assumption) | assumption)
              obtain ⟨ad135, e135, hx135_0⟩ := Kd.at_int (Kd.R_reads' HO_0.out).2.2 x3_2 p135 q135
              obtain rfl : ad134 = ad135 := (by injection e135)
              replace p135 := eq_true p135
              replace q135 := eq_true q135
              go_wp2
              go_meet
              case rel => exact ⟨_, (x3_2), (by first | rfl | (simp; done) | (simp [*]; done)), H', ⟨by have := HK1.out; have := HK2.out; first | omega | exact Nat.le_refl _⟩, ⟨by (with_reducible repeat (first | apply Kd.R_alloc | apply Kd.R_drewN | apply Kd.R_drew)); exact HO_0.out⟩, ⟨by repeat (first | (with_reducible first | exact HK.out | apply Kept.alloc | apply Kept.drewN | apply Kept.drew) | exact HK.out)⟩, ⟨by repeat (first | (with_reducible first | exact HB.out | apply below_alloc | apply pw_below_drewN | apply below_drew1) | exact HB.out)⟩⟩
            rw [if_pos c9] at H
            have c9b0 : ((rd x0_1 x3_2) == 5) = true := beq_iff_eq.mpr c9
            have c9b1 : ((rd x0_1 x3_2) != 5) = false := bne_eq_false_iff_eq.mpr c9
            clear c9
            have H' := Aside0.mk H
            clear H
            have p135 : 0 ≤ (x3_2 : Int) := of_decide_eq_true (by first | (with_reducible assumption) | assumption)
            have q135 : x3_2 < (x0_1.length : Int) := of_decide_eq_true (by first | (with_reducible assumption) | assumption)
            obtain ⟨ad135, e135, hx135_0⟩ := Kd.at_int (Kd.R_reads' HO_0.out).2.2 x3_2 p135 q135
            obtain rfl : ad134 = ad135 := (by injection e135)
            replace p135 := eq_true p135
            replace q135 := eq_true q135
            go_wp2
            go_roundg k2
            case measure => have := HK1.out; have := HK2.out; omega
            case rel => exact ⟨(wrap64 (x3_2 + 1)), (by first | rfl | (simp; done) | (simp [*]; done)), H', ⟨by have := HK1.out; have := HK2.out; omega⟩, ⟨by (with_reducible repeat (first | apply Kd.R_alloc | apply Kd.R_drewN | apply Kd.R_drew)); exact HO_0.out⟩, ⟨by repeat (first | (with_reducible first | exact HK.out | apply Kept.alloc | apply Kept.drewN | apply Kept.drew) | exact HK.out)⟩, ⟨by repeat (first | (with_reducible first | exact HB.out | apply below_alloc | apply pw_below_drewN | apply below_drew1) | exact HB.out)⟩⟩
      case rest =>
        clear HC5
        try clear p1
        try clear q1
        try clear hx1
        try clear c2
        try clear c2b0
        try clear p2
        try clear c3
        try clear c3b0
        try clear c4
        try clear c4b0
        try clear c4b1
        try clear p6
        try clear c7
        try clear c7b0
        try clear c8
        try clear c8b0
        try clear c9
        try clear c9b0
        try clear c9b1
        try clear hx134_0
        try clear hx135_0
        try clear p1
        try clear p134
        try clear p135
        try clear p2
        try clear q1
        try clear q134
        try clear q135
        obtain ⟨kq, x3_4, rfl, HA, HJ4, HO_0, HK, HB⟩ := hcut
        cases kq with
        | zero => exact absurd HA.out (by simp [weak_ends.j2])
        | succ kj4 =>
          have H := HA.out
          clear HA
          simp only [weak_ends.j2] at H
          have HC10 := Aside0.mk H
          clear H
          go_upto_region 7 with (fail)
          go_cut [4] (fun v4 wc => ∃ (kq : Nat) (x4_9 : Bool), v4 = .bool x4_9 ∧ Aside0 (weak_ends.j3 kq x0_1 x2_1 x3_4 x4_9 = some r) ∧ Aside0 (kq ≤ kj4) ∧ Aside0 (Kd.R (Kd.int .i64) 3 wc w0.heap.size (fun k_ => (P0_ k_ ∨ w.heap.size ≤ k_)) (.slice (some ad134) x0_1.length co6) x0_1) ∧ Aside0 (Kept w wc (fun k_ => P0_ k_)) ∧ Aside0 (Below w0.heap.size w0 wc))
          case first =>
            have H := HC10.out
            clear HC10
            by_cases c11 : x2_1 > 0
            rotate_left
            · rw [if_neg c11] at H
              have c11b0 : decide (0 < x2_1) = false := decide_eq_false c11
              clear c11
              (first | rw [c11b0] | (simp only [i64_w, i32_w]; rw [c11b0]) | skip)
              by_cases c18 : x3_4 < (x0_1.length : Int)
              rotate_left
              · rw [if_neg c18] at H
                have c18b0 : decide (x3_4 < (x0_1.length : Int)) = false := decide_eq_false c18
                clear c18
                have H' := Aside0.mk H
                clear H
                go_wp2
                go_meet
                case rel => exact ⟨_, (false), (by first | rfl | (simp; done) | (simp [*]; done)), H', ⟨by have := HK1.out; have := HJ4.out; first | omega | exact Nat.le_refl _⟩, ⟨by (with_reducible repeat (first | apply Kd.R_alloc | apply Kd.R_drewN | apply Kd.R_drew)); exact HO_0.out⟩, ⟨by repeat (first | (with_reducible first | exact HK.out | apply Kept.alloc | apply Kept.drewN | apply Kept.drew) | exact HK.out)⟩, ⟨by repeat (first | (with_reducible first | exact HB.out | apply below_alloc | apply pw_below_drewN | apply below_drew1) | exact HB.out)⟩⟩
              rw [if_pos c18] at H
              have c18b0 : decide (x3_4 < (x0_1.length : Int)) = true := decide_eq_true c18
              clear c18
              by_cases c19 : 0 ≤ x3_4
              rotate_left
              · rw [if_neg c19] at H
                exact absurd H (by simp)
              rw [if_pos c19] at H
              have c19b0 : decide (0 ≤ x3_4) = true := decide_eq_true c19
              clear c19
              have H' := Aside0.mk H
              clear H
              have p138 : 0 ≤ (x3_4 : Int) := of_decide_eq_true (by first | (with_reducible assumption) | assumption)
              have q138 : x3_4 < (x0_1.length : Int) := of_decide_eq_true (by first | (with_reducible assumption) | assumption)
              obtain ⟨ad138, e138, hx138_0⟩ := Kd.at_int (Kd.R_reads' HO_0.out).2.2 x3_4 p138 q138
              obtain rfl : ad134 = ad138 := (by injection e138)
              replace p138 := eq_true p138
              replace q138 := eq_true q138
              go_wp2
              go_meet
              case rel => exact ⟨_, (((rd x0_1 x3_4) == 3)), (by first | rfl | (simp; done) | (simp [*]; done)), H', ⟨by have := HK1.out; have := HJ4.out; first | omega | exact Nat.le_refl _⟩, ⟨by (with_reducible repeat (first | apply Kd.R_alloc | apply Kd.R_drewN | apply Kd.R_drew)); exact HO_0.out⟩, ⟨by repeat (first | (with_reducible first | exact HK.out | apply Kept.alloc | apply Kept.drewN | apply Kept.drew) | exact HK.out)⟩, ⟨by repeat (first | (with_reducible first | exact HB.out | apply below_alloc | apply pw_below_drewN | apply below_drew1) | exact HB.out)⟩⟩
            rw [if_pos c11] at H
            have c11b0 : decide (0 < x2_1) = true := decide_eq_true c11
            clear c11
            (first | rw [c11b0] | (simp only [i64_w, i32_w]; rw [c11b0]) | skip)
            obtain ⟨ji12, hji12⟩ : ∃ j_ : Int, (wrap64 (x2_1 - 1)) = j_ := ⟨_, rfl⟩
            replace H : (if 0 ≤ (ji12) then (if (ji12) < (x0_1.length : Int) then (if (rd x0_1 (ji12)) = 3 then (weak_ends.j3 kj4 x0_1 x2_1 x3_4 true) else (if x3_4 < (x0_1.length : Int) then (if 0 ≤ x3_4 then (weak_ends.j3 kj4 x0_1 x2_1 x3_4 ((rd x0_1 x3_4) == 3)) else (none)) else (weak_ends.j3 kj4 x0_1 x2_1 x3_4 false))) else (none)) else (none)) = some r := by first | (rw [hji12] at H; exact H) | (simp only [hji12] at H ⊢; exact H)
            have hji12w : (IntKind.i64.wrap (x2_1 - 1)) = ji12 := (i64_w _).trans hji12
            by_cases c13 : 0 ≤ (ji12)
            rotate_left
            · rw [if_neg c13] at H
              exact absurd H (by simp)
            rw [if_pos c13] at H
            have c13b0 : decide (0 ≤ (ji12)) = true := decide_eq_true c13
            clear c13
            by_cases c14 : (ji12) < (x0_1.length : Int)
            rotate_left
            · rw [if_neg c14] at H
              exact absurd H (by simp)
            rw [if_pos c14] at H
            have c14b0 : decide ((ji12) < (x0_1.length : Int)) = true := decide_eq_true c14
            clear c14
            by_cases c15 : (rd x0_1 (ji12)) = 3
            · rw [if_pos c15] at H
              have c15b0 : ((rd x0_1 (ji12)) == 3) = true := beq_iff_eq.mpr c15
              have c15b1 : ((rd x0_1 (ji12)) != 3) = false := bne_eq_false_iff_eq.mpr c15
              clear c15
              have H' := Aside0.mk H
              clear H
              have p136 : 0 ≤ ((ji12) : Int) := of_decide_eq_true (by first | (with_reducible assumption) | assumption)
              have q136 : (ji12) < (x0_1.length : Int) := of_decide_eq_true (by first | (with_reducible assumption) | assumption)
              obtain ⟨ad136, e136, hx136_0⟩ := Kd.at_int (Kd.R_reads' HO_0.out).2.2 (ji12) p136 q136
              obtain rfl : ad134 = ad136 := (by injection e136)
              replace p136 := eq_true p136
              replace q136 := eq_true q136
              go_wp2
              go_meet
              case rel => exact ⟨_, (true), (by first | rfl | (simp; done) | (simp [*]; done)), H', ⟨by have := HK1.out; have := HJ4.out; first | omega | exact Nat.le_refl _⟩, ⟨by (with_reducible repeat (first | apply Kd.R_alloc | apply Kd.R_drewN | apply Kd.R_drew)); exact HO_0.out⟩, ⟨by repeat (first | (with_reducible first | exact HK.out | apply Kept.alloc | apply Kept.drewN | apply Kept.drew) | exact HK.out)⟩, ⟨by repeat (first | (with_reducible first | exact HB.out | apply below_alloc | apply pw_below_drewN | apply below_drew1) | exact HB.out)⟩⟩
            rw [if_neg c15] at H
            have c15b0 : ((rd x0_1 (ji12)) == 3) = false := beq_eq_false_iff_ne.mpr c15
            have c15b1 : ((rd x0_1 (ji12)) != 3) = true := bne_iff_ne.mpr c15
            by_cases c16 : x3_4 < (x0_1.length : Int)
            rotate_left
            · rw [if_neg c16] at H
              have c16b0 : decide (x3_4 < (x0_1.length : Int)) = false := decide_eq_false c16
              clear c16
              have H' := Aside0.mk H
              clear H
              have p136 : 0 ≤ ((ji12) : Int) := of_decide_eq_true (by first | (with_reducible assumption) | assumption)
              have q136 : (ji12) < (x0_1.length : Int) := of_decide_eq_true (by first | (with_reducible assumption) | assumption)
              obtain ⟨ad136, e136, hx136_0⟩ := Kd.at_int (Kd.R_reads' HO_0.out).2.2 (ji12) p136 q136
              obtain rfl : ad134 = ad136 := (by injection e136)
              replace p136 := eq_true p136
              replace q136 := eq_true q136
              go_wp2
              go_meet
              case rel => exact ⟨_, (false), (by first | rfl | (simp; done) | (simp [*]; done)), H', ⟨by have := HK1.out; have := HJ4.out; first | omega | exact Nat.le_refl _⟩, ⟨by (with_reducible repeat (first | apply Kd.R_alloc | apply Kd.R_drewN | apply Kd.R_drew)); exact HO_0.out⟩, ⟨by repeat (first | (with_reducible first | exact HK.out | apply Kept.alloc | apply Kept.drewN | apply Kept.drew) | exact HK.out)⟩, ⟨by repeat (first | (with_reducible first | exact HB.out | apply below_alloc | apply pw_below_drewN | apply below_drew1) | exact HB.out)⟩⟩
            rw [if_pos c16] at H
            have c16b0 : decide (x3_4 < (x0_1.length : Int)) = true := decide_eq_true c16
            clear c16
            by_cases c17 : 0 ≤ x3_4
            rotate_left
            · rw [if_neg c17] at H
              exact absurd H (by simp)
            rw [if_pos c17] at H
            have c17b0 : decide (0 ≤ x3_4) = true := decide_eq_true c17
            clear c17
            have H' := Aside0.mk H
            clear H
            have p136 : 0 ≤ ((ji12) : Int) := of_decide_eq_true (by first | (with_reducible assumption) | assumption)
            have q136 : (ji12) < (x0_1.length : Int) := of_decide_eq_true (by first | (with_reducible assumption) | assumption)
            obtain ⟨ad136, e136, hx136_0⟩ := Kd.at_int (Kd.R_reads' HO_0.out).2.2 (ji12) p136 q136
            obtain rfl : ad134 = ad136 := (by injection e136)
            replace p136 := eq_true p136
            replace q136 := eq_true q136
            have p137 : 0 ≤ (x3_4 : Int) := of_decide_eq_true (by first | (with_reducible assumption) | assumption)
            have q137 : x3_4 < (x0_1.length : Int) := of_decide_eq_true (by first | (with_reducible assumption) | assumption)
            obtain ⟨ad137, e137, hx137_0⟩ := Kd.at_int (Kd.R_reads' HO_0.out).2.2 x3_4 p137 q137
            obtain rfl : ad134 = ad137 := (by injection e137)
            replace p137 := eq_true p137
            replace q137 := eq_true q137
            go_wp2
            go_meet
            case rel => exact ⟨_, (((rd x0_1 x3_4) == 3)), (by first | rfl | (simp; done) | (simp [*]; done)), H', ⟨by have := HK1.out; have := HJ4.out; first | omega | exact Nat.le_refl _⟩, ⟨by (with_reducible repeat (first | apply Kd.R_alloc | apply Kd.R_drewN | apply Kd.R_drew)); exact HO_0.out⟩, ⟨by repeat (first | (with_reducible first | exact HK.out | apply Kept.alloc | apply Kept.drewN | apply Kept.drew) | exact HK.out)⟩, ⟨by repeat (first | (with_reducible first | exact HB.out | apply below_alloc | apply pw_below_drewN | apply below_drew1) | exact HB.out)⟩⟩
          case rest =>
            clear HC10
            try clear c1
            try clear p1
            try clear q1
            try clear hx1
            try clear c2
            try clear c2b0
            try clear p2
            try clear c3
            try clear c3b0
            try clear c4
            try clear c4b0
            try clear c4b1
            try clear p6
            try clear c7
            try clear c7b0
            try clear c8
            try clear c8b0
            try clear c9
            try clear c9b0
            try clear c9b1
            try clear c11
            try clear c11b0
            try clear c13
            try clear c13b0
            try clear p13
            try clear q13
            try clear hx13
            try clear c14
            try clear c14b0
            try clear c15
            try clear c15b0
            try clear c15b1
            try clear c16
            try clear c16b0
            try clear c17
            try clear c17b0
            try clear c18
            try clear c18b0
            try clear c19
            try clear c19b0
            try clear hx134_0
            try clear hx135_0
            try clear hx136_0
            try clear hx137_0
            try clear hx138_0
            try clear p1
            try clear p134
            try clear p135
            try clear p136
            try clear p137
            try clear p138
            try clear p2
            try clear p6
            try clear q1
            try clear q134
            try clear q135
            try clear q136
            try clear q137
            try clear q138
            obtain ⟨kq, x4_9, rfl, HA, HJ9, HO_0, HK, HB⟩ := hcut
            cases kq with
            | zero => exact absurd HA.out (by simp [weak_ends.j3])
            | succ kj9 =>
              have H := HA.out
              clear HA
              simp only [weak_ends.j3] at H
              have H' := Aside0.mk H
              clear H
              go_wp2
              go_loopg [2] kj9 (fun kq v2 w' => ∃ (x0_4 : List Int) (x2_4 : Int), v2 = .int .i64 x2_4 ∧ Aside0 (weak_ends.l2 kq x0_4 x2_4 x3_4 x4_9 = some r) ∧ Aside0 (kq ≤ kj9) ∧ Aside0 (Kd.R (Kd.int .i64) 3 w' w0.heap.size (fun k_ => (P0_ k_ ∨ w.heap.size ≤ k_)) (.slice (some ad134) x0_1.length co6) x0_4) ∧ Aside0 (Kept w w' (fun k_ => P0_ k_)) ∧ Aside0 (Below w0.heap.size w0 w'))
              case atStart => exact ⟨(x0_1), (x2_1), (by first | rfl | (simp; done) | (simp [*]; done)), H', ⟨Nat.le_refl _⟩, ⟨by (with_reducible repeat (first | apply Kd.R_alloc | apply Kd.R_drewN | apply Kd.R_drew)); exact HO_0.out⟩, ⟨by repeat (first | (with_reducible first | exact HK.out | apply Kept.alloc | apply Kept.drewN | apply Kept.drew) | exact HK.out)⟩, ⟨by repeat (first | (with_reducible first | exact HB.out | apply below_alloc | apply pw_below_drewN | apply below_drew1) | exact HB.out)⟩⟩
              case round =>
                clear H'
                try clear c1
                try clear p1
                try clear q1
                try clear hx1
                try clear c2
                try clear c2b0
                try clear p2
                try clear c3
                try clear c3b0
                try clear c4
                try clear c4b0
                try clear c4b1
                try clear p6
                try clear c7
                try clear c7b0
                try clear c8
                try clear c8b0
                try clear c9
                try clear c9b0
                try clear c9b1
                try clear c11
                try clear c11b0
                try clear c13
                try clear c13b0
                try clear p13
                try clear q13
                try clear hx13
                try clear c14
                try clear c14b0
                try clear c15
                try clear c15b0
                try clear c15b1
                try clear c16
                try clear c16b0
                try clear c17
                try clear c17b0
                try clear c18
                try clear c18b0
                try clear c19
                try clear c19b0
                try clear hx134_0
                try clear hx135_0
                try clear hx136_0
                try clear hx137_0
                try clear hx138_0
                try clear p1
                try clear p13
                try clear p134
                try clear p135
                try clear p136
                try clear p137
                try clear p138
                try clear p2
                try clear p6
                try clear q1
                try clear q13
                try clear q134
                try clear q135
                try clear q136
                try clear q137
                try clear q138
                obtain ⟨x0_4, x2_4, rfl, HA, HK4, HO_0, HK, HB⟩ := hrel
                have hl0_4 := (Kd.R_reads' HO_0.out).1
                rw [hl0_4] at HO_0
                (try simp only [hl0_4])
                cases gk with
                | zero => exact absurd HA.out (by simp [weak_ends.l2])
                | succ k4 =>
                  have H := HA.out
                  clear HA
                  simp only [weak_ends.l2] at H
                  by_cases c20 : x2_4 < x3_4
                  rotate_left
                  · rw [if_neg c20] at H
                    have c20b0 : decide (x2_4 < x3_4) = false := decide_eq_false c20
                    clear c20
                    have H' := Aside0.mk H
                    clear H
                    go_wp2
                    (try simp only [← hl0_4])
                    go_roundg k4
                    case measure => have := HK1.out; have := HJ4.out; have := HJ9.out; have := HK4.out; omega
                    case rel => exact ⟨(x0_4), (x2_4), (by first | rfl | (simp; done) | (simp [*]; done)), H', ⟨by have := HK1.out; have := HJ4.out; have := HJ9.out; have := HK4.out; omega⟩, ⟨by (try simp only [hl0_4]); (with_reducible repeat (first | apply Kd.R_alloc | apply Kd.R_drewN | apply Kd.R_drew)); exact HO_0.out⟩, ⟨by repeat (first | (with_reducible first | exact HK.out | apply Kept.alloc | apply Kept.drewN | apply Kept.drew) | exact HK.out)⟩, ⟨by repeat (first | (with_reducible first | exact HB.out | apply below_alloc | apply pw_below_drewN | apply below_drew1) | exact HB.out)⟩⟩
                  rw [if_pos c20] at H
                  have c20b0 : decide (x2_4 < x3_4) = true := decide_eq_true c20
                  clear c20
                  by_cases c21 : x4_9 = true
                  rotate_left
                  · replace c21 := Bool.eq_false_iff.mpr c21
                    subst c21
                    have H1 : (weak_ends.l0 k4 x0_4 x3_4) = some r := by rw [if_neg (show ¬ (false = true) by decide)] at H; exact H
                    clear H
                    have H := H1
                    clear H1
                    have H' := Aside0.mk H
                    clear H
                    go_wp2
                    (try simp only [← hl0_4])
                    go_roundg k4
                    case measure => have := HK1.out; have := HJ4.out; have := HJ9.out; have := HK4.out; omega
                    case rel => exact ⟨(x0_4), (x3_4), (by first | rfl | (simp; done) | (simp [*]; done)), H', ⟨by have := HK1.out; have := HJ4.out; have := HJ9.out; have := HK4.out; omega⟩, ⟨by (try simp only [hl0_4]); (with_reducible repeat (first | apply Kd.R_alloc | apply Kd.R_drewN | apply Kd.R_drew)); exact HO_0.out⟩, ⟨by repeat (first | (with_reducible first | exact HK.out | apply Kept.alloc | apply Kept.drewN | apply Kept.drew) | exact HK.out)⟩, ⟨by repeat (first | (with_reducible first | exact HB.out | apply below_alloc | apply pw_below_drewN | apply below_drew1) | exact HB.out)⟩⟩
                  subst c21
                  have H1 : (if 0 ≤ x2_4 then (if x2_4 < (x0_4.length : Int) then (weak_ends.l2 k4 (x0_4.set (x2_4 : Int).toNat 3) (wrap64 (x2_4 + 1)) x3_4 true) else (none)) else (none)) = some r := by rw [if_pos rfl] at H; exact H
                  clear H
                  have H := H1
                  clear H1
                  by_cases c22 : 0 ≤ x2_4
                  rotate_left
                  · rw [if_neg c22] at H
                    exact absurd H (by simp)
                  rw [if_pos c22] at H
                  have c22b0 : decide (0 ≤ x2_4) = true := decide_eq_true c22
                  clear c22
                  by_cases c23 : x2_4 < (x0_4.length : Int)
                  rotate_left
                  · rw [if_neg c23] at H
                    exact absurd H (by simp)
                  rw [if_pos c23] at H
                  have c23b0 : decide (x2_4 < (x0_4.length : Int)) = true := decide_eq_true c23
                  clear c23
                  obtain ⟨y139, hy139⟩ : ∃ y_ : List Int, y_ = (x0_4.set (x2_4 : Int).toNat 3) := ⟨_, rfl⟩
                  replace H : (weak_ends.l2 k4 y139 (wrap64 (x2_4 + 1)) x3_4 true) = some r := by first | (rw [hy139]; with_reducible exact H) | (have H2_ := (Option.bind_some _ _).symm.trans H; rw [hy139]; with_reducible exact H2_) | (have H2_ := (Option.bind_some _ _).symm.trans H; with_reducible exact H2_) | with_reducible exact H | (rw [hy139]; exact H) | exact H
                  have Ny139 := Aside0.mk hy139
                  clear hy139
                  have H' := Aside0.mk H
                  clear H
                  have p24 : 0 ≤ (x2_4 : Int) := of_decide_eq_true (by first | (with_reducible assumption) | assumption)
                  have q24 : (x2_4 : Int) < ((x0_4.length : Int) : Int) := of_decide_eq_true (by first | (with_reducible assumption) | assumption)
                  obtain ⟨go24, co24, eo24, gb24, gl24, cl24, HG24⟩ := Kd.R_form HO_0.out (by omega)
                  (first | cases eo24 | (injection eo24 with ea_ en_ ec_; (first | subst ea_ | (injection ea_ with ea_; subst ea_)); subst ec_; clear en_))
                  have GB24 := Aside0.mk gb24
                  have GG24 := Aside0.mk HG24
                  clear gb24 gl24 HG24
                  have HMgo24 := Aside0.mk (show (P0_ go24 ∨ w.heap.size ≤ go24) from (HO_0.out.1 _ rfl))
                  (first | simp only [add_plain] at hx134_0 | skip)
                  (first | simp only [add_plain] at hx135_0 | skip)
                  (first | simp only [add_plain] at hx136_0 | skip)
                  (first | simp only [add_plain] at hx137_0 | skip)
                  (first | simp only [add_plain] at hx138_0 | skip)
                  obtain ⟨hx24_0, hf24_0⟩ := Kd.R_celln 0 HO_0.out (x2_4 : Int) p24 q24
                  replace p24 := eq_true p24
                  replace q24 := eq_true q24
                  have HP25 := Kd.R_putg HO_0.out (x2_4 : Int) 3
                  go_wp2_with (first | ((with_reducible refine gate_store (t := 3) (p := 63) rfl ?_); refine store_event (t := 3) (p := 63) (v := ?vo_w26) (w1 := (wr.setCell ⟨go24, (x2_4 : Int).toNat, none⟩ (.int .i64 3))) ?hg ?ho ?hn ?hr ?_; (case ho => rfl); (case hg => rfl); (case hn => rfl); (case hr => first | (go_simp; done) | (go_simp; rfl)); intro w26 hw; have hg : wr.grownBy w26 (some go24) := (by rw [hw]; exact HP25.2); have hp_ : Kd.R (Kd.int .i64) 3 w26 w0.heap.size (fun k_ => (P0_ k_ ∨ w.heap.size ≤ k_)) (.slice (some ⟨go24, 0, none⟩) x0_4.length co6) y139 := (by rw [hw, Ny139.out]; exact HP25.1); clear HP25; have n0_ := Aside0.mk (hp_); have n1_ := Aside0.mk ((by rw [hw]; exact below_set (HB.out) GB24.out : Below w0.heap.size w0 w26)); have n2_ := Aside0.mk (Kept.of_grown (S := (fun k_ => P0_ k_)) hg (by repeat (first | (with_reducible first | exact HK.out | apply Kept.alloc | apply Kept.drewN | apply Kept.drew) | exact HK.out)) (fun k_ e_ => (HO_0.out.1 k_ e_))); clear HO_0; clear HB; clear HK; have HO_0 := n0_; have HB := n1_; have HK := n2_; clear n0_ n1_ n2_; clear hg hw hp_))
                  (try simp only [← hl0_4])
                  go_roundg k4
                  case measure => have := HK1.out; have := HJ4.out; have := HJ9.out; have := HK4.out; omega
                  case rel => exact ⟨(y139), (wrap64 (x2_4 + 1)), (by first | rfl | (simp; done) | (simp [*]; done)), H', ⟨by have := HK1.out; have := HJ4.out; have := HJ9.out; have := HK4.out; omega⟩, ⟨by (try simp only [hl0_4]); (with_reducible repeat (first | apply Kd.R_alloc | apply Kd.R_drewN | apply Kd.R_drew)); exact HO_0.out⟩, ⟨by repeat (first | (with_reducible first | exact HK.out | apply Kept.alloc | apply Kept.drewN | apply Kept.drew) | exact HK.out)⟩, ⟨by repeat (first | (with_reducible first | exact HB.out | apply below_alloc | apply pw_below_drewN | apply below_drew1) | exact HB.out)⟩⟩

/-! ### weak_apply: function 13 -/
def weak_apply.f (k : Nat) (l0 : List Int) (a1 : Int) (a2 : Int) : Option (List Int) := if a2 = 1 then ((weak_marks.f k l0 a1).bind fun t140 => (some t140)) else (if a2 = 2 then ((weak_become.f l0 a1 3 6 2).bind fun t141 => (some t141)) else (if a2 = 3 then ((weak_swap.f k l0 1 (([2] : List Int))).bind fun t145 => (some t145)) else (if a2 = 4 then ((weak_parts.f k l0).bind fun t146 => (some t146)) else (if a2 = 5 then ((weak_ends.f k l0).bind fun t147 => (some t147)) else (if a2 = 6 then ((weak_swap.f k l0 13 (([4, 5, 7] : List Int))).bind fun t151 => (some t151)) else (if a2 = 7 then ((weak_become.f l0 a1 3 0 0).bind fun t152 => (some t152)) else (some l0)))))))
theorem weak_apply.mono : ∀ a0 a1 a2 k, LeO (weak_apply.f k a0 a1 a2) (weak_apply.f (k + 1) a0 a1 a2) := by
  intro a0 a1 a2 k
  unfold weak_apply.f
  repeat' first
      | (with_reducible exact weak_ends.mono _ _)
      | (with_reducible exact weak_marks.mono _ _ _)
      | (with_reducible exact weak_parts.mono _ _)
      | (with_reducible exact weak_swap.mono _ _ _ _)
      | (with_reducible exact LeO.refl _)
      | (with_reducible exact LeO.none _)
      | (with_reducible refine LeO.ite ?_ ?_)
      | (with_reducible refine LeO.bind ?_ (fun _ => ?_))
      | exact weak_ends.mono _ _
      | exact weak_marks.mono _ _ _
      | exact weak_parts.mono _ _
      | exact weak_swap.mono _ _ _ _
      | exact LeO.none _
      | refine LeO.ite ?_ ?_
      | refine LeO.bind ?_ (fun _ => ?_)
set_option maxHeartbeats 8000000 in
set_option maxRecDepth 100000 in
theorem weak_apply.calls (k : Nat) (P0_ : Nat → Prop) (u9000_ : Value) (l0 : List Int) (a1 : Int) (a2 : Int) (r : List Int) (w0 w : World) (hB : Below w0.heap.size w0 w) (ho0 : Kd.R (Kd.int .i64) 3 w w0.heap.size P0_ u9000_ l0) (h : weak_apply.f k l0 a1 a2 = some r) :
    Calls Tryd.prog 13 #[u9000_, .int .i64 a1, .int .i64 a2] w fun e w' => e = .returned (.tuple #[]) ∧ Kd.R (Kd.int .i64) 3 w' w0.heap.size (fun k_ => (P0_ k_ ∨ w.heap.size ≤ k_)) u9000_ r ∧ Below w0.heap.size w0 w' ∧ Kept w w' (fun k_ => P0_ k_) := by
  have HO0 := Aside0.mk (show Kd.R (Kd.int .i64) 3 w w0.heap.size (fun k_ => (P0_ k_ ∨ w.heap.size ≤ k_)) u9000_ l0 from Kd.R_mono ho0 (fun k_ hk => (.inl hk)))
  have HK := Aside0.mk (Kept.refl w (fun k_ => P0_ k_))
  have HW0 := Aside0.mk hB.size
  have HB := Aside0.mk hB
  clear hB
  have H : (if a2 = 1 then ((weak_marks.f k l0 a1).bind fun t140 => (some t140)) else (if a2 = 2 then ((weak_become.f l0 a1 3 6 2).bind fun t141 => (some t141)) else (if a2 = 3 then ((weak_swap.f k l0 1 (([2] : List Int))).bind fun t145 => (some t145)) else (if a2 = 4 then ((weak_parts.f k l0).bind fun t146 => (some t146)) else (if a2 = 5 then ((weak_ends.f k l0).bind fun t147 => (some t147)) else (if a2 = 6 then ((weak_swap.f k l0 13 (([4, 5, 7] : List Int))).bind fun t151 => (some t151)) else (if a2 = 7 then ((weak_become.f l0 a1 3 0 0).bind fun t152 => (some t152)) else (some l0)))))))) = some r := h
  clear h
  by_cases c4 : a2 = 1
  · rw [if_pos c4] at H
    have c4b0 : (a2 == 1) = true := beq_iff_eq.mpr c4
    have c4b1 : (a2 != 1) = false := bne_eq_false_iff_eq.mpr c4
    clear c4
    replace H := Option.bind_eq_some_iff.mp H
    obtain ⟨t140, A50, H⟩ := H
    replace H : (some t140) = some r := H
    have A5 := Aside0.mk A50
    clear A50
    obtain rfl := Option.some.inj H
    obtain ⟨Ao6, co6, eo6⟩ := Kd.R_slice HO0.out
    subst eo6
    go_enter Tryd.func13, Tryd.ntmps13
    go_wp2_with (first | ((with_reducible refine gate_callee (f := 17) rfl ?_); refine goesL_ (some 11) rfl rfl Tryd.func17 (by kernel_rfl) rfl #[.slice Ao6 l0.length co6, .int .i64 a1] rfl (by (try simp only [List.map_toArray, List.map_cons, List.map_nil]); first | done | rfl | (simp only [List.length_drop, List.length_take]; rfl)) ?_; (with_reducible refine (weak_marks.calls k (fun k_ => some k_ = (.slice Ao6 l0.length co6 : Value).ownBlock) (.slice Ao6 l0.length co6) l0 a1 t140 w0 _ ?side1 ?side2 A5.out).mono ?_); (case side1 => repeat (first | (with_reducible first | exact HB.out | apply below_alloc | apply pw_below_drewN | apply below_drew1) | exact HB.out)); (case side2 => exact Kd.R_tight rfl HO0.out); rintro e w7 ⟨rfl, hy0, hb, hkp⟩; refine ⟨_, rfl, ?_⟩; have n0_ := Aside0.mk (Kd.R_reok rfl hy0 (fun k_ e_ => HO0.out.1 k_ e_)); have n1_ := Aside0.mk (Kept.then_ (S := (fun k_ => P0_ k_)) (by repeat (first | (with_reducible first | exact HK.out | apply Kept.alloc | apply Kept.drewN | apply Kept.drew) | exact HK.out)) hkp (fun k_ hs_ => (fun e_ => (HO0.out.1 k_ e_.symm)) hs_)); have n2_ := Aside0.mk (hb); clear HO0; clear HK; clear HB; have HO0 := n0_; have HK := n1_; have HB := n2_; clear n0_ n1_ n2_; (try clear hb); (try clear hkp); (try clear hy0)))
    first | go_end0 | ((try simp only [Exit.inBlock, Exit.then]); refine bodyPost_ret (results_none rfl _ _ _) rfl ?_)
    exact ⟨by first | rfl | (simp [errW_none, errW_some] <;> rfl) | (simp [*, errW_none, errW_some] <;> rfl), by (with_reducible repeat (first | apply Kd.R_alloc | apply Kd.R_drewN | apply Kd.R_drew)); exact HO0.out, by repeat (first | (with_reducible first | exact HB.out | apply below_alloc | apply pw_below_drewN | apply below_drew1) | exact HB.out), by repeat (first | (with_reducible first | exact HK.out | apply Kept.alloc | apply Kept.drewN | apply Kept.drew) | exact HK.out)⟩
  rw [if_neg c4] at H
  have c4b0 : (a2 == 1) = false := beq_eq_false_iff_ne.mpr c4
  have c4b1 : (a2 != 1) = true := bne_iff_ne.mpr c4
  by_cases c8 : a2 = 2
  · rw [if_pos c8] at H
    have c8b0 : (a2 == 2) = true := beq_iff_eq.mpr c8
    have c8b1 : (a2 != 2) = false := bne_eq_false_iff_eq.mpr c8
    clear c8
    replace H := Option.bind_eq_some_iff.mp H
    obtain ⟨t141, A90, H⟩ := H
    replace H : (some t141) = some r := H
    have A9 := Aside0.mk A90
    clear A90
    obtain rfl := Option.some.inj H
    obtain ⟨Ao10, co10, eo10⟩ := Kd.R_slice HO0.out
    subst eo10
    go_enter Tryd.func13, Tryd.ntmps13
    go_wp2_with (first | ((with_reducible refine gate_callee (f := 18) rfl ?_); refine goesL_ (some 16) rfl rfl Tryd.func18 (by kernel_rfl) rfl #[.slice Ao10 l0.length co10, .int .i64 a1, .int .i64 3, .int .i64 6, .int .i64 2] rfl (by (try simp only [List.map_toArray, List.map_cons, List.map_nil]); first | done | rfl | (simp only [List.length_drop, List.length_take]; rfl)) ?_; (with_reducible refine (weak_become.calls (fun k_ => some k_ = (.slice Ao10 l0.length co10 : Value).ownBlock) (.slice Ao10 l0.length co10) l0 a1 3 6 2 t141 w0 _ ?side1 ?side2 A9.out).mono ?_); (case side1 => repeat (first | (with_reducible first | exact HB.out | apply below_alloc | apply pw_below_drewN | apply below_drew1) | exact HB.out)); (case side2 => exact Kd.R_tight rfl HO0.out); rintro e w11 ⟨rfl, hy0, hb, hkp⟩; refine ⟨_, rfl, ?_⟩; have n0_ := Aside0.mk (Kd.R_reok rfl hy0 (fun k_ e_ => HO0.out.1 k_ e_)); have n1_ := Aside0.mk (Kept.then_ (S := (fun k_ => P0_ k_)) (by repeat (first | (with_reducible first | exact HK.out | apply Kept.alloc | apply Kept.drewN | apply Kept.drew) | exact HK.out)) hkp (fun k_ hs_ => (fun e_ => (HO0.out.1 k_ e_.symm)) hs_)); have n2_ := Aside0.mk (hb); clear HO0; clear HK; clear HB; have HO0 := n0_; have HK := n1_; have HB := n2_; clear n0_ n1_ n2_; (try clear hb); (try clear hkp); (try clear hy0)))
    first | go_end0 | ((try simp only [Exit.inBlock, Exit.then]); refine bodyPost_ret (results_none rfl _ _ _) rfl ?_)
    exact ⟨by first | rfl | (simp [errW_none, errW_some] <;> rfl) | (simp [*, errW_none, errW_some] <;> rfl), by (with_reducible repeat (first | apply Kd.R_alloc | apply Kd.R_drewN | apply Kd.R_drew)); exact HO0.out, by repeat (first | (with_reducible first | exact HB.out | apply below_alloc | apply pw_below_drewN | apply below_drew1) | exact HB.out), by repeat (first | (with_reducible first | exact HK.out | apply Kept.alloc | apply Kept.drewN | apply Kept.drew) | exact HK.out)⟩
  rw [if_neg c8] at H
  have c8b0 : (a2 == 2) = false := beq_eq_false_iff_ne.mpr c8
  have c8b1 : (a2 != 2) = true := bne_iff_ne.mpr c8
  by_cases c12 : a2 = 3
  · rw [if_pos c12] at H
    have c12b0 : (a2 == 3) = true := beq_iff_eq.mpr c12
    have c12b1 : (a2 != 3) = false := bne_eq_false_iff_eq.mpr c12
    clear c12
    obtain ⟨y142, hy142⟩ : ∃ y_ : List Int, y_ = (([2] : List Int)) := ⟨_, rfl⟩
    replace H : ((weak_swap.f k l0 1 y142).bind fun t145 => (some t145)) = some r := by first | (rw [hy142]; with_reducible exact H) | (have H2_ := (Option.bind_some _ _).symm.trans H; rw [hy142]; with_reducible exact H2_) | (have H2_ := (Option.bind_some _ _).symm.trans H; with_reducible exact H2_) | with_reducible exact H | (rw [hy142]; exact H) | exact H
    have Ny142 := Aside0.mk hy142
    clear hy142
    replace H := Option.bind_eq_some_iff.mp H
    obtain ⟨t145, A130, H⟩ := H
    replace H : (some t145) = some r := H
    have A13 := Aside0.mk A130
    clear A130
    obtain rfl := Option.some.inj H
    go_enter Tryd.func13, Tryd.ntmps13
    go_wp2_with (first | ((with_reducible refine gate_dst (N := 20) rfl ?_); refine Kd.R_lit (Kd.int .i64) _ 3 ?hg (N := 20) ?hd (xs := ([2] : List Int)) (inner := [.int .i64 2]) (ok := fun _ => True) (okp := fun _ => True) ?hr ?hp (fun _ hk => hk) trivial (Below.refl _ _) (Nat.le_refl _) (by simp) ?_; (case hd => rfl); (case hg => rfl); (case hr => first | (go_simp; done) | (go_simp; rfl)); (case hp => exact (Reps.one (show Kd.M (Kd.int .i64) _ _ _ 2 [.int .i64 2] from rfl) (Reps.none _ _))); intro v143 w14 ho15 hb hg_ hnew_; clear hg_ hnew_; (first | rw [← Ny142.out] at ho15 | (simp only [Int.reduceToNat] at ho15; rw [← Ny142.out] at ho15)); have n0_ := Aside0.mk (Kd.R_elder' (by (with_reducible repeat (first | apply Kd.R_alloc | apply Kd.R_drewN | apply Kd.R_drew)); exact HO0.out) (Kd.R_base ho15) hb); have n1_ := Aside0.mk (Kd.R_lower (Kd.R_new' (Kd.R_newM (M := fun k_ => (P0_ k_ ∨ w.heap.size ≤ k_)) ho15 (by first | exact HK.out.1 | exact (show Kept w _ (fun k_ => P0_ k_) from by repeat (first | (with_reducible first | exact HK.out | apply Kept.alloc | apply Kept.drewN | apply Kept.drew) | exact HK.out)).1) (fun k_ h_ => .inr h_)) (Kd.R_lt (by (with_reducible repeat (first | apply Kd.R_alloc | apply Kd.R_drewN | apply Kd.R_drew)); exact HO0.out))) (below_size (by repeat (first | (with_reducible first | exact HB.out | apply below_alloc | apply pw_below_drewN | apply below_drew1) | exact HB.out)))); have n2_ := Aside0.mk (Kept.below (S := (fun k_ => P0_ k_)) (by repeat (first | (with_reducible first | exact HK.out | apply Kept.alloc | apply Kept.drewN | apply Kept.drew) | exact HK.out)) hb); have n3_ := Aside0.mk (below_step (by repeat (first | (with_reducible first | exact HB.out | apply below_alloc | apply pw_below_drewN | apply below_drew1) | exact HB.out)) hb); clear HO0; clear HK; clear HB; have HO0 := n0_; have HO144 := n1_; have HK := n2_; have HB := n3_; clear n0_ n1_ n2_ n3_; clear hb ho15; obtain ⟨Ao16, co16, eo16⟩ := Kd.R_slice HO0.out; subst eo16; obtain ⟨Ao17, co17, eo17⟩ := Kd.R_slice HO144.out; subst eo17) | ((with_reducible refine gate_callee (f := 19) rfl ?_); refine goesL_ (some 21) rfl rfl Tryd.func19 (by kernel_rfl) rfl #[.slice Ao16 l0.length co16, .int .i64 1, .slice Ao17 y142.length co17] rfl (by (try simp only [List.map_toArray, List.map_cons, List.map_nil]); first | done | rfl | (simp only [List.length_drop, List.length_take]; rfl)) ?_; (with_reducible refine (weak_swap.calls k (fun k_ => some k_ = (.slice Ao16 l0.length co16 : Value).ownBlock) (.slice Ao16 l0.length co16) l0 1 _ _ y142 t145 w0 _ ?side1 ?side2 ?side3 ?side4 A13.out).mono ?_); (case side1 => repeat (first | (with_reducible first | exact HB.out | apply below_alloc | apply pw_below_drewN | apply below_drew1) | exact HB.out)); (case side2 => exact Kd.R_tight rfl HO0.out); (case side3 => exact Kd.C_kept_own (HO144.out) (fun k_ hk_ hs_ => (hk_.2) hs_)); (case side4 => exact (Kd.R_reads' HO144.out).2.1); rintro e w18 ⟨rfl, hy0, hb, hkp⟩; refine ⟨_, rfl, ?_⟩; have n0_ := Aside0.mk (Kd.R_reok rfl hy0 (fun k_ e_ => HO0.out.1 k_ e_)); have n1_ := Aside0.mk (Kd.R_mono (ok' := fun k_ => (P0_ k_ ∨ w.heap.size ≤ k_) ∧ some k_ ≠ (.slice Ao16 l0.length co16 : Value).ownBlock) (Kd.R_keptB (HO144.out) hkp (fun k_ hk_ hs_ => (hk_.2) hs_)) (fun k_ hk_ => ⟨hk_.1.1.1, hk_.1.2⟩)); have n2_ := Aside0.mk (Kept.then_ (S := (fun k_ => P0_ k_)) (by repeat (first | (with_reducible first | exact HK.out | apply Kept.alloc | apply Kept.drewN | apply Kept.drew) | exact HK.out)) hkp (fun k_ hs_ => (fun e_ => (HO0.out.1 k_ e_.symm).1) hs_)); have n3_ := Aside0.mk (hb); clear HO0; clear HO144; clear HK; clear HB; have HO0 := n0_; have HO144 := n1_; have HK := n2_; have HB := n3_; clear n0_ n1_ n2_ n3_; (try clear hb); (try clear hkp); (try clear hy0)))
    first | go_end0 | ((try simp only [Exit.inBlock, Exit.then]); refine bodyPost_ret (results_none rfl _ _ _) rfl ?_)
    exact ⟨by first | rfl | (simp [errW_none, errW_some] <;> rfl) | (simp [*, errW_none, errW_some] <;> rfl), by (with_reducible repeat (first | apply Kd.R_alloc | apply Kd.R_drewN | apply Kd.R_drew)); exact Kd.R_mono HO0.out (fun _ hk => hk.1), by repeat (first | (with_reducible first | exact HB.out | apply below_alloc | apply pw_below_drewN | apply below_drew1) | exact HB.out), by repeat (first | (with_reducible first | exact HK.out | apply Kept.alloc | apply Kept.drewN | apply Kept.drew) | exact HK.out)⟩
  rw [if_neg c12] at H
  have c12b0 : (a2 == 3) = false := beq_eq_false_iff_ne.mpr c12
  have c12b1 : (a2 != 3) = true := bne_iff_ne.mpr c12
  by_cases c19 : a2 = 4
  · rw [if_pos c19] at H
    have c19b0 : (a2 == 4) = true := beq_iff_eq.mpr c19
    have c19b1 : (a2 != 4) = false := bne_eq_false_iff_eq.mpr c19
    clear c19
    replace H := Option.bind_eq_some_iff.mp H
    obtain ⟨t146, A200, H⟩ := H
    replace H : (some t146) = some r := H
    have A20 := Aside0.mk A200
    clear A200
    obtain rfl := Option.some.inj H
    obtain ⟨Ao21, co21, eo21⟩ := Kd.R_slice HO0.out
    subst eo21
    go_enter Tryd.func13, Tryd.ntmps13
    go_wp2_with (first | ((with_reducible refine gate_callee (f := 20) rfl ?_); refine goesL_ (some 25) rfl rfl Tryd.func20 (by kernel_rfl) rfl #[.slice Ao21 l0.length co21] rfl (by (try simp only [List.map_toArray, List.map_cons, List.map_nil]); first | done | rfl | (simp only [List.length_drop, List.length_take]; rfl)) ?_; (with_reducible refine (weak_parts.calls k (fun k_ => some k_ = (.slice Ao21 l0.length co21 : Value).ownBlock) (.slice Ao21 l0.length co21) l0 t146 w0 _ ?side1 ?side2 A20.out).mono ?_); (case side1 => repeat (first | (with_reducible first | exact HB.out | apply below_alloc | apply pw_below_drewN | apply below_drew1) | exact HB.out)); (case side2 => exact Kd.R_tight rfl HO0.out); rintro e w22 ⟨rfl, hy0, hb, hkp⟩; refine ⟨_, rfl, ?_⟩; have n0_ := Aside0.mk (Kd.R_reok rfl hy0 (fun k_ e_ => HO0.out.1 k_ e_)); have n1_ := Aside0.mk (Kept.then_ (S := (fun k_ => P0_ k_)) (by repeat (first | (with_reducible first | exact HK.out | apply Kept.alloc | apply Kept.drewN | apply Kept.drew) | exact HK.out)) hkp (fun k_ hs_ => (fun e_ => (HO0.out.1 k_ e_.symm)) hs_)); have n2_ := Aside0.mk (hb); clear HO0; clear HK; clear HB; have HO0 := n0_; have HK := n1_; have HB := n2_; clear n0_ n1_ n2_; (try clear hb); (try clear hkp); (try clear hy0)))
    first | go_end0 | ((try simp only [Exit.inBlock, Exit.then]); refine bodyPost_ret (results_none rfl _ _ _) rfl ?_)
    exact ⟨by first | rfl | (simp [errW_none, errW_some] <;> rfl) | (simp [*, errW_none, errW_some] <;> rfl), by (with_reducible repeat (first | apply Kd.R_alloc | apply Kd.R_drewN | apply Kd.R_drew)); exact HO0.out, by repeat (first | (with_reducible first | exact HB.out | apply below_alloc | apply pw_below_drewN | apply below_drew1) | exact HB.out), by repeat (first | (with_reducible first | exact HK.out | apply Kept.alloc | apply Kept.drewN | apply Kept.drew) | exact HK.out)⟩
  rw [if_neg c19] at H
  have c19b0 : (a2 == 4) = false := beq_eq_false_iff_ne.mpr c19
  have c19b1 : (a2 != 4) = true := bne_iff_ne.mpr c19
  by_cases c23 : a2 = 5
  · rw [if_pos c23] at H
    have c23b0 : (a2 == 5) = true := beq_iff_eq.mpr c23
    have c23b1 : (a2 != 5) = false := bne_eq_false_iff_eq.mpr c23
    clear c23
    replace H := Option.bind_eq_some_iff.mp H
    obtain ⟨t147, A240, H⟩ := H
    replace H : (some t147) = some r := H
    have A24 := Aside0.mk A240
    clear A240
    obtain rfl := Option.some.inj H
    obtain ⟨Ao25, co25, eo25⟩ := Kd.R_slice HO0.out
    subst eo25
    go_enter Tryd.func13, Tryd.ntmps13
    go_wp2_with (first | ((with_reducible refine gate_callee (f := 21) rfl ?_); refine goesL_ (some 29) rfl rfl Tryd.func21 (by kernel_rfl) rfl #[.slice Ao25 l0.length co25] rfl (by (try simp only [List.map_toArray, List.map_cons, List.map_nil]); first | done | rfl | (simp only [List.length_drop, List.length_take]; rfl)) ?_; (with_reducible refine (weak_ends.calls k (fun k_ => some k_ = (.slice Ao25 l0.length co25 : Value).ownBlock) (.slice Ao25 l0.length co25) l0 t147 w0 _ ?side1 ?side2 A24.out).mono ?_); (case side1 => repeat (first | (with_reducible first | exact HB.out | apply below_alloc | apply pw_below_drewN | apply below_drew1) | exact HB.out)); (case side2 => exact Kd.R_tight rfl HO0.out); rintro e w26 ⟨rfl, hy0, hb, hkp⟩; refine ⟨_, rfl, ?_⟩; have n0_ := Aside0.mk (Kd.R_reok rfl hy0 (fun k_ e_ => HO0.out.1 k_ e_)); have n1_ := Aside0.mk (Kept.then_ (S := (fun k_ => P0_ k_)) (by repeat (first | (with_reducible first | exact HK.out | apply Kept.alloc | apply Kept.drewN | apply Kept.drew) | exact HK.out)) hkp (fun k_ hs_ => (fun e_ => (HO0.out.1 k_ e_.symm)) hs_)); have n2_ := Aside0.mk (hb); clear HO0; clear HK; clear HB; have HO0 := n0_; have HK := n1_; have HB := n2_; clear n0_ n1_ n2_; (try clear hb); (try clear hkp); (try clear hy0)))
    first | go_end0 | ((try simp only [Exit.inBlock, Exit.then]); refine bodyPost_ret (results_none rfl _ _ _) rfl ?_)
    exact ⟨by first | rfl | (simp [errW_none, errW_some] <;> rfl) | (simp [*, errW_none, errW_some] <;> rfl), by (with_reducible repeat (first | apply Kd.R_alloc | apply Kd.R_drewN | apply Kd.R_drew)); exact HO0.out, by repeat (first | (with_reducible first | exact HB.out | apply below_alloc | apply pw_below_drewN | apply below_drew1) | exact HB.out), by repeat (first | (with_reducible first | exact HK.out | apply Kept.alloc | apply Kept.drewN | apply Kept.drew) | exact HK.out)⟩
  rw [if_neg c23] at H
  have c23b0 : (a2 == 5) = false := beq_eq_false_iff_ne.mpr c23
  have c23b1 : (a2 != 5) = true := bne_iff_ne.mpr c23
  by_cases c27 : a2 = 6
  rotate_left
  · rw [if_neg c27] at H
    have c27b0 : (a2 == 6) = false := beq_eq_false_iff_ne.mpr c27
    have c27b1 : (a2 != 6) = true := bne_iff_ne.mpr c27
    by_cases c34 : a2 = 7
    rotate_left
    · rw [if_neg c34] at H
      have c34b0 : (a2 == 7) = false := beq_eq_false_iff_ne.mpr c34
      have c34b1 : (a2 != 7) = true := bne_iff_ne.mpr c34
      obtain rfl := Option.some.inj H
      go_enter Tryd.func13, Tryd.ntmps13
      go_wp2
      first | go_end0 | ((try simp only [Exit.inBlock, Exit.then]); refine bodyPost_ret (results_none rfl _ _ _) rfl ?_)
      exact ⟨by first | rfl | (simp [errW_none, errW_some] <;> rfl) | (simp [*, errW_none, errW_some] <;> rfl), by (with_reducible repeat (first | apply Kd.R_alloc | apply Kd.R_drewN | apply Kd.R_drew)); exact HO0.out, by repeat (first | (with_reducible first | exact HB.out | apply below_alloc | apply pw_below_drewN | apply below_drew1) | exact HB.out), by repeat (first | (with_reducible first | exact HK.out | apply Kept.alloc | apply Kept.drewN | apply Kept.drew) | exact HK.out)⟩
    rw [if_pos c34] at H
    have c34b0 : (a2 == 7) = true := beq_iff_eq.mpr c34
    have c34b1 : (a2 != 7) = false := bne_eq_false_iff_eq.mpr c34
    clear c34
    replace H := Option.bind_eq_some_iff.mp H
    obtain ⟨t152, A350, H⟩ := H
    replace H : (some t152) = some r := H
    have A35 := Aside0.mk A350
    clear A350
    obtain rfl := Option.some.inj H
    obtain ⟨Ao36, co36, eo36⟩ := Kd.R_slice HO0.out
    subst eo36
    go_enter Tryd.func13, Tryd.ntmps13
    go_wp2_with (first | ((with_reducible refine gate_callee (f := 18) rfl ?_); refine goesL_ (some 39) rfl rfl Tryd.func18 (by kernel_rfl) rfl #[.slice Ao36 l0.length co36, .int .i64 a1, .int .i64 3, .int .i64 0, .int .i64 0] rfl (by (try simp only [List.map_toArray, List.map_cons, List.map_nil]); first | done | rfl | (simp only [List.length_drop, List.length_take]; rfl)) ?_; (with_reducible refine (weak_become.calls (fun k_ => some k_ = (.slice Ao36 l0.length co36 : Value).ownBlock) (.slice Ao36 l0.length co36) l0 a1 3 0 0 t152 w0 _ ?side1 ?side2 A35.out).mono ?_); (case side1 => repeat (first | (with_reducible first | exact HB.out | apply below_alloc | apply pw_below_drewN | apply below_drew1) | exact HB.out)); (case side2 => exact Kd.R_tight rfl HO0.out); rintro e w37 ⟨rfl, hy0, hb, hkp⟩; refine ⟨_, rfl, ?_⟩; have n0_ := Aside0.mk (Kd.R_reok rfl hy0 (fun k_ e_ => HO0.out.1 k_ e_)); have n1_ := Aside0.mk (Kept.then_ (S := (fun k_ => P0_ k_)) (by repeat (first | (with_reducible first | exact HK.out | apply Kept.alloc | apply Kept.drewN | apply Kept.drew) | exact HK.out)) hkp (fun k_ hs_ => (fun e_ => (HO0.out.1 k_ e_.symm)) hs_)); have n2_ := Aside0.mk (hb); clear HO0; clear HK; clear HB; have HO0 := n0_; have HK := n1_; have HB := n2_; clear n0_ n1_ n2_; (try clear hb); (try clear hkp); (try clear hy0)))
    first | go_end0 | ((try simp only [Exit.inBlock, Exit.then]); refine bodyPost_ret (results_none rfl _ _ _) rfl ?_)
    exact ⟨by first | rfl | (simp [errW_none, errW_some] <;> rfl) | (simp [*, errW_none, errW_some] <;> rfl), by (with_reducible repeat (first | apply Kd.R_alloc | apply Kd.R_drewN | apply Kd.R_drew)); exact HO0.out, by repeat (first | (with_reducible first | exact HB.out | apply below_alloc | apply pw_below_drewN | apply below_drew1) | exact HB.out), by repeat (first | (with_reducible first | exact HK.out | apply Kept.alloc | apply Kept.drewN | apply Kept.drew) | exact HK.out)⟩
  rw [if_pos c27] at H
  have c27b0 : (a2 == 6) = true := beq_iff_eq.mpr c27
  have c27b1 : (a2 != 6) = false := bne_eq_false_iff_eq.mpr c27
  clear c27
  obtain ⟨y148, hy148⟩ : ∃ y_ : List Int, y_ = (([4, 5, 7] : List Int)) := ⟨_, rfl⟩
  replace H : ((weak_swap.f k l0 13 y148).bind fun t151 => (some t151)) = some r := by first | (rw [hy148]; with_reducible exact H) | (have H2_ := (Option.bind_some _ _).symm.trans H; rw [hy148]; with_reducible exact H2_) | (have H2_ := (Option.bind_some _ _).symm.trans H; with_reducible exact H2_) | with_reducible exact H | (rw [hy148]; exact H) | exact H
  have Ny148 := Aside0.mk hy148
  clear hy148
  replace H := Option.bind_eq_some_iff.mp H
  obtain ⟨t151, A280, H⟩ := H
  replace H : (some t151) = some r := H
  have A28 := Aside0.mk A280
  clear A280
  obtain rfl := Option.some.inj H
  go_enter Tryd.func13, Tryd.ntmps13
  go_wp2_with (first | ((with_reducible refine gate_dst (N := 33) rfl ?_); refine Kd.R_lit (Kd.int .i64) _ 3 ?hg (N := 33) ?hd (xs := ([4, 5, 7] : List Int)) (inner := [.int .i64 4, .int .i64 5, .int .i64 7]) (ok := fun _ => True) (okp := fun _ => True) ?hr ?hp (fun _ hk => hk) trivial (Below.refl _ _) (Nat.le_refl _) (by simp) ?_; (case hd => rfl); (case hg => rfl); (case hr => first | (go_simp; done) | (go_simp; rfl)); (case hp => exact (Reps.one (show Kd.M (Kd.int .i64) _ _ _ 4 [.int .i64 4] from rfl) (Reps.one (show Kd.M (Kd.int .i64) _ _ _ 5 [.int .i64 5] from rfl) (Reps.one (show Kd.M (Kd.int .i64) _ _ _ 7 [.int .i64 7] from rfl) (Reps.none _ _))))); intro v149 w29 ho30 hb hg_ hnew_; clear hg_ hnew_; (first | rw [← Ny148.out] at ho30 | (simp only [Int.reduceToNat] at ho30; rw [← Ny148.out] at ho30)); have n0_ := Aside0.mk (Kd.R_elder' (by (with_reducible repeat (first | apply Kd.R_alloc | apply Kd.R_drewN | apply Kd.R_drew)); exact HO0.out) (Kd.R_base ho30) hb); have n1_ := Aside0.mk (Kd.R_lower (Kd.R_new' (Kd.R_newM (M := fun k_ => (P0_ k_ ∨ w.heap.size ≤ k_)) ho30 (by first | exact HK.out.1 | exact (show Kept w _ (fun k_ => P0_ k_) from by repeat (first | (with_reducible first | exact HK.out | apply Kept.alloc | apply Kept.drewN | apply Kept.drew) | exact HK.out)).1) (fun k_ h_ => .inr h_)) (Kd.R_lt (by (with_reducible repeat (first | apply Kd.R_alloc | apply Kd.R_drewN | apply Kd.R_drew)); exact HO0.out))) (below_size (by repeat (first | (with_reducible first | exact HB.out | apply below_alloc | apply pw_below_drewN | apply below_drew1) | exact HB.out)))); have n2_ := Aside0.mk (Kept.below (S := (fun k_ => P0_ k_)) (by repeat (first | (with_reducible first | exact HK.out | apply Kept.alloc | apply Kept.drewN | apply Kept.drew) | exact HK.out)) hb); have n3_ := Aside0.mk (below_step (by repeat (first | (with_reducible first | exact HB.out | apply below_alloc | apply pw_below_drewN | apply below_drew1) | exact HB.out)) hb); clear HO0; clear HK; clear HB; have HO0 := n0_; have HO150 := n1_; have HK := n2_; have HB := n3_; clear n0_ n1_ n2_ n3_; clear hb ho30; obtain ⟨Ao31, co31, eo31⟩ := Kd.R_slice HO0.out; subst eo31; obtain ⟨Ao32, co32, eo32⟩ := Kd.R_slice HO150.out; subst eo32) | ((with_reducible refine gate_callee (f := 19) rfl ?_); refine goesL_ (some 34) rfl rfl Tryd.func19 (by kernel_rfl) rfl #[.slice Ao31 l0.length co31, .int .i64 13, .slice Ao32 y148.length co32] rfl (by (try simp only [List.map_toArray, List.map_cons, List.map_nil]); first | done | rfl | (simp only [List.length_drop, List.length_take]; rfl)) ?_; (with_reducible refine (weak_swap.calls k (fun k_ => some k_ = (.slice Ao31 l0.length co31 : Value).ownBlock) (.slice Ao31 l0.length co31) l0 13 _ _ y148 t151 w0 _ ?side1 ?side2 ?side3 ?side4 A28.out).mono ?_); (case side1 => repeat (first | (with_reducible first | exact HB.out | apply below_alloc | apply pw_below_drewN | apply below_drew1) | exact HB.out)); (case side2 => exact Kd.R_tight rfl HO0.out); (case side3 => exact Kd.C_kept_own (HO150.out) (fun k_ hk_ hs_ => (hk_.2) hs_)); (case side4 => exact (Kd.R_reads' HO150.out).2.1); rintro e w33 ⟨rfl, hy0, hb, hkp⟩; refine ⟨_, rfl, ?_⟩; have n0_ := Aside0.mk (Kd.R_reok rfl hy0 (fun k_ e_ => HO0.out.1 k_ e_)); have n1_ := Aside0.mk (Kd.R_mono (ok' := fun k_ => (P0_ k_ ∨ w.heap.size ≤ k_) ∧ some k_ ≠ (.slice Ao31 l0.length co31 : Value).ownBlock) (Kd.R_keptB (HO150.out) hkp (fun k_ hk_ hs_ => (hk_.2) hs_)) (fun k_ hk_ => ⟨hk_.1.1.1, hk_.1.2⟩)); have n2_ := Aside0.mk (Kept.then_ (S := (fun k_ => P0_ k_)) (by repeat (first | (with_reducible first | exact HK.out | apply Kept.alloc | apply Kept.drewN | apply Kept.drew) | exact HK.out)) hkp (fun k_ hs_ => (fun e_ => (HO0.out.1 k_ e_.symm).1) hs_)); have n3_ := Aside0.mk (hb); clear HO0; clear HO150; clear HK; clear HB; have HO0 := n0_; have HO150 := n1_; have HK := n2_; have HB := n3_; clear n0_ n1_ n2_ n3_; (try clear hb); (try clear hkp); (try clear hy0)))
  first | go_end0 | ((try simp only [Exit.inBlock, Exit.then]); refine bodyPost_ret (results_none rfl _ _ _) rfl ?_)
  exact ⟨by first | rfl | (simp [errW_none, errW_some] <;> rfl) | (simp [*, errW_none, errW_some] <;> rfl), by (with_reducible repeat (first | apply Kd.R_alloc | apply Kd.R_drewN | apply Kd.R_drew)); exact Kd.R_mono HO0.out (fun _ hk => hk.1), by repeat (first | (with_reducible first | exact HB.out | apply below_alloc | apply pw_below_drewN | apply below_drew1) | exact HB.out), by repeat (first | (with_reducible first | exact HK.out | apply Kept.alloc | apply Kept.drewN | apply Kept.drew) | exact HK.out)⟩

end Go.Proofs.YtgoebfeojkgimaaDoor.P
