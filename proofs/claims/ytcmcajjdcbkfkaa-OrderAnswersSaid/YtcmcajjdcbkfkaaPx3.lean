/- Printed by a program of this claim's own over the translation: Lean functions of the Go functions, each with its proof; no condition beyond those written. -/
import Derived.Test.YtcmcajjdcbkfkaaPx0
import Derived.Test.YtcmcajjdcbkfkaaPx2
namespace Go.Proofs.Ytcmcajjdcbkfkaa.P
open Go.RowKit Go.Proofs.YtcmcajjdcbkfkaaW.PrintWords Go.Proofs.YtcmcajjdcbkfkaaW.PrintLast Go.Proofs.YtcmcajjdcbkfkaaW.PrintMore
attribute [local go_sem] max2_int min2_int max_two min_two max_three min_three max_four min_four   -- for this text's walks alone
set_option linter.unusedVariables false
set_option linter.unusedSimpArgs false

/-! ### order_row: function 20 -/
mutual
def order_row.l0 : Nat → List Int → List Int → Int → List Int → Int → Option (List Int)
  | 0, _, _, _, _, _ => none
  | k + 1, x0, x1, x2, x7, x8 => if x8 < (x1.length : Int) then (if 0 ≤ x8 then (if 0 ≤ (rd x1 x8) then (if (rd x1 x8) < (x0.length : Int) then (if (rd x0 (rd x1 x8)) ≤ x2 then (if x7.length < 17592186044416 then (order_row.l0 k x0 x1 x2 (x7 ++ [rd x1 x8]) (wrap64 (x8 + 1))) else (none)) else (order_row.l1 k x0 x1 x2 x7 x8 x8)) else (none)) else (none)) else (none)) else (some x7)
def order_row.l1 : Nat → List Int → List Int → Int → List Int → Int → Int → Option (List Int)
  | 0, _, _, _, _, _, _ => none
  | k + 1, x0, x1, x2, x7, x8, x9 => if x9 < (x1.length : Int) then (if 0 ≤ x9 then (if 0 ≤ (rd x1 x9) then (if (rd x1 x9) < (x0.length : Int) then (if (rd x0 (rd x1 x9)) > x2 then (order_row.l1 k x0 x1 x2 x7 x8 (wrap64 (x9 + 1))) else (if 0 ≤ x8 then (if x8 ≤ x9 then (if x9 ≤ (x1.length : Int) then ((order_row.f k x0 ((x1.take (x9 : Int).toNat).drop (x8 : Int).toNat) (wrap64 (x2 + 1))).bind fun t122 => ((slices_Reverse_int.f k t122).bind fun t125 => (if x7.length + t125.length < 17592186044416 then (order_row.l0 k x0 x1 x2 (x7 ++ t125) x9) else (none)))) else (none)) else (none)) else (none))) else (none)) else (none)) else (none)) else (if 0 ≤ x8 then (if x8 ≤ x9 then (if x9 ≤ (x1.length : Int) then ((order_row.f k x0 ((x1.take (x9 : Int).toNat).drop (x8 : Int).toNat) (wrap64 (x2 + 1))).bind fun t130 => ((slices_Reverse_int.f k t130).bind fun t133 => (if x7.length + t133.length < 17592186044416 then (order_row.l0 k x0 x1 x2 (x7 ++ t133) x9) else (none)))) else (none)) else (none)) else (none))
def order_row.f : Nat → List Int → List Int → Int → Option (List Int)
  | 0, _, _, _ => none
  | k + 1, l0, l1, a2 => order_row.l0 k l0 l1 a2 ([] : List Int) 0
end
theorem order_row.mono_l : ∀ k, (∀ y0 y1 y2, LeO (order_row.f k y0 y1 y2) (order_row.f (k + 1) y0 y1 y2)) ∧ (∀ y0 y1 y2 y3 y4, LeO (order_row.l0 k y0 y1 y2 y3 y4) (order_row.l0 (k + 1) y0 y1 y2 y3 y4)) ∧ (∀ y0 y1 y2 y3 y4 y5, LeO (order_row.l1 k y0 y1 y2 y3 y4 y5) (order_row.l1 (k + 1) y0 y1 y2 y3 y4 y5))
  | 0 => ⟨fun _ _ _ r h => by simp [order_row.f] at h, fun _ _ _ _ _ r h => by simp [order_row.l0] at h, fun _ _ _ _ _ _ r h => by simp [order_row.l1] at h⟩
  | k + 1 => by
    obtain ⟨ih0, ih1, ih2⟩ := order_row.mono_l k
    refine ⟨?_, ?_, ?_⟩
    · intro y0 y1 y2
      unfold order_row.f
      repeat' first
      | (with_reducible exact ih0 _ _ _)
      | (with_reducible exact ih1 _ _ _ _ _)
      | (with_reducible exact ih2 _ _ _ _ _ _)
      | (with_reducible exact slices_Reverse_int.mono _ _)
      | (with_reducible exact LeO.refl _)
      | (with_reducible exact LeO.none _)
      | (with_reducible refine LeO.ite ?_ ?_)
      | (with_reducible refine LeO.bind ?_ (fun _ => ?_))
      | exact ih0 _ _ _
      | exact ih1 _ _ _ _ _
      | exact ih2 _ _ _ _ _ _
      | exact slices_Reverse_int.mono _ _
      | exact LeO.none _
      | refine LeO.ite ?_ ?_
      | refine LeO.bind ?_ (fun _ => ?_)
    · intro y0 y1 y2 y3 y4
      unfold order_row.l0
      repeat' first
      | (with_reducible exact ih0 _ _ _)
      | (with_reducible exact ih1 _ _ _ _ _)
      | (with_reducible exact ih2 _ _ _ _ _ _)
      | (with_reducible exact slices_Reverse_int.mono _ _)
      | (with_reducible exact LeO.refl _)
      | (with_reducible exact LeO.none _)
      | (with_reducible refine LeO.ite ?_ ?_)
      | (with_reducible refine LeO.bind ?_ (fun _ => ?_))
      | exact ih0 _ _ _
      | exact ih1 _ _ _ _ _
      | exact ih2 _ _ _ _ _ _
      | exact slices_Reverse_int.mono _ _
      | exact LeO.none _
      | refine LeO.ite ?_ ?_
      | refine LeO.bind ?_ (fun _ => ?_)
    · intro y0 y1 y2 y3 y4 y5
      unfold order_row.l1
      repeat' first
      | (with_reducible exact ih0 _ _ _)
      | (with_reducible exact ih1 _ _ _ _ _)
      | (with_reducible exact ih2 _ _ _ _ _ _)
      | (with_reducible exact slices_Reverse_int.mono _ _)
      | (with_reducible exact LeO.refl _)
      | (with_reducible exact LeO.none _)
      | (with_reducible refine LeO.ite ?_ ?_)
      | (with_reducible refine LeO.bind ?_ (fun _ => ?_))
      | exact ih0 _ _ _
      | exact ih1 _ _ _ _ _
      | exact ih2 _ _ _ _ _ _
      | exact slices_Reverse_int.mono _ _
      | exact LeO.none _
      | refine LeO.ite ?_ ?_
      | refine LeO.bind ?_ (fun _ => ?_)
theorem order_row.mono : ∀ a0 a1 a2 k, LeO (order_row.f k a0 a1 a2) (order_row.f (k + 1) a0 a1 a2) := by
  intro a0 a1 a2 k
  obtain ⟨ih0, ih1, ih2⟩ := order_row.mono_l k
  exact ih0 a0 a1 a2
set_option maxHeartbeats 8000000 in
set_option maxRecDepth 100000 in
theorem order_row.calls (k : Nat) : ∀ (A0 : Option Addr) (c0 : Nat) (l0 : List Int) (A1 : Option Addr) (c1 : Nat) (l1 : List Int) (a2 : Int) (r : List Int) (w : World) (hr0 : Kd.C (Kd.int .i64) w A0 l0.length l0) (hc0 : l0.length ≤ c0) (hr1 : Kd.C (Kd.int .i64) w A1 l1.length l1) (hc1 : l1.length ≤ c1) (h : order_row.f k l0 l1 a2 = some r),
    Calls Try.prog 20 #[.slice A0 l0.length c0, .slice A1 l1.length c1, .int .i64 a2] w fun e w' => ∃ v0_ : Value, e = .returned (v0_) ∧ Kd.R (Kd.int .i64) 3 w' w.heap.size (fun _ => True) v0_ r ∧ Below w.heap.size w w' := by
  induction k using Nat.strongRecOn with
  | _ k ih =>
  intro A0 c0 l0 A1 c1 l1 a2 r w hr0 hc0 hr1 hc1 h
  cases k with
  | zero => exact absurd h (by simp [order_row.f])
  | succ k =>
  simp only [order_row.f] at h
  have HR0 := Aside0.mk hr0
  have HC0 := Aside0.mk hc0
  clear hr0 hc0
  have HR1 := Aside0.mk hr1
  have HC1 := Aside0.mk hc1
  clear hr1 hc1
  have HB := Aside0.mk (Below.refl w.heap.size w)
  have H : (order_row.l0 k l0 l1 a2 ([] : List Int) 0) = some r := h
  clear h
  have H' := Aside0.mk H
  clear H
  go_enter Try.func20, Try.ntmps20
  go_wp2
  go_loopg [7, 8] k (fun kq v7 v8 w' => ∃ (x7_1 : List Int) (x8_1 : Int), v8 = .int .i64 x8_1 ∧ Aside0 (order_row.l0 kq l0 l1 a2 x7_1 x8_1 = some r) ∧ Aside0 (kq ≤ k) ∧ Aside0 (Kd.R (Kd.int .i64) 3 w' w.heap.size (fun _ => True) v7 x7_1) ∧ Aside0 (Below w.heap.size w w'))
  case atStart => exact ⟨(([] : List Int)), (0), (by first | rfl | (simp; done) | (simp [*]; done)), H', ⟨Nat.le_refl _⟩, ⟨by first | exact Kd.R_nil _ _ _ _ _ | exact Kd.N_nil _ _ _ _ _ | exact Kd.V_nil _ _ _ _ _ | exact Kd.Q_nil _ _ _ _ _ | exact Kd.S_nil _ _ _ _ _⟩, ⟨by repeat (first | (with_reducible first | exact HB.out | apply below_alloc | apply pw_below_drewN | apply below_drew1) | exact HB.out)⟩⟩
  case round =>
    clear H'
    try clear c1
    try clear c2
    try clear p2
    obtain ⟨x7_1, x8_1, rfl, HA, HK1, HO_7, HB⟩ := hrel
    cases gk with
    | zero => exact absurd HA.out (by simp [order_row.l0])
    | succ k1 =>
      have H := HA.out
      clear HA
      simp only [order_row.l0] at H
      by_cases c4 : x8_1 < (l1.length : Int)
      rotate_left
      · rw [if_neg c4] at H
        have c4b0 : decide (x8_1 < (l1.length : Int)) = false := decide_eq_false c4
        clear c4
        obtain rfl := Option.some.inj H
        go_wp2
        go_ret
        exact ⟨_, by first | rfl | (simp [errW_none, errW_some] <;> rfl) | (simp [*, errW_none, errW_some] <;> rfl), by (with_reducible repeat (first | apply Kd.R_alloc | apply Kd.R_drewN | apply Kd.R_drew)); exact HO_7.out, by repeat (first | (with_reducible first | exact HB.out | apply below_alloc | apply pw_below_drewN | apply below_drew1) | exact HB.out)⟩
      rw [if_pos c4] at H
      have c4b0 : decide (x8_1 < (l1.length : Int)) = true := decide_eq_true c4
      clear c4
      by_cases c5 : 0 ≤ x8_1
      rotate_left
      · rw [if_neg c5] at H
        exact absurd H (by simp)
      rw [if_pos c5] at H
      have c5b0 : decide (0 ≤ x8_1) = true := decide_eq_true c5
      clear c5
      by_cases c6 : 0 ≤ (rd l1 x8_1)
      rotate_left
      · rw [if_neg c6] at H
        exact absurd H (by simp)
      rw [if_pos c6] at H
      have c6b0 : decide (0 ≤ (rd l1 x8_1)) = true := decide_eq_true c6
      clear c6
      by_cases c7 : (rd l1 x8_1) < (l0.length : Int)
      rotate_left
      · rw [if_neg c7] at H
        exact absurd H (by simp)
      rw [if_pos c7] at H
      have c7b0 : decide ((rd l1 x8_1) < (l0.length : Int)) = true := decide_eq_true c7
      clear c7
      by_cases c8 : (rd l0 (rd l1 x8_1)) ≤ a2
      · rw [if_pos c8] at H
        have c8b0 : decide ((rd l0 (rd l1 x8_1)) ≤ a2) = true := decide_eq_true c8
        clear c8
        by_cases c9 : x7_1.length < 17592186044416
        rotate_left
        · rw [if_neg c9] at H
          exact absurd H (by simp)
        rw [if_pos c9] at H
        have LMc9 := Aside0.mk c9
        clear c9
        obtain ⟨y116, hy116⟩ : ∃ y_ : List Int, y_ = (x7_1 ++ [rd l1 x8_1]) := ⟨_, rfl⟩
        replace H : (order_row.l0 k1 l0 l1 a2 y116 (wrap64 (x8_1 + 1))) = some r := by first | (rw [hy116]; with_reducible exact H) | (have H2_ := (Option.bind_some _ _).symm.trans H; rw [hy116]; with_reducible exact H2_) | (have H2_ := (Option.bind_some _ _).symm.trans H; with_reducible exact H2_) | with_reducible exact H | (rw [hy116]; exact H) | exact H
        have Ny116 := Aside0.mk hy116
        clear hy116
        have H' := Aside0.mk H
        clear H
        have p113 : 0 ≤ (x8_1 : Int) := of_decide_eq_true (by first | (with_reducible assumption) | assumption)
        have q113 : x8_1 < (l1.length : Int) := of_decide_eq_true (by first | (with_reducible assumption) | assumption)
        obtain ⟨ad113, e113, hx113_0⟩ := Kd.at_int HR1.out x8_1 p113 q113
        cases e113
        replace hx113_0 := (HB.out.cell (World.block_lt_of_cell? w _ hx113_0)).trans hx113_0
        replace p113 := eq_true p113
        replace q113 := eq_true q113
        have p114 : 0 ≤ ((rd l1 x8_1) : Int) := of_decide_eq_true (by first | (with_reducible assumption) | assumption)
        have q114 : (rd l1 x8_1) < (l0.length : Int) := of_decide_eq_true (by first | (with_reducible assumption) | assumption)
        obtain ⟨ad114, e114, hx114_0⟩ := Kd.at_int HR0.out (rd l1 x8_1) p114 q114
        cases e114
        replace hx114_0 := (HB.out.cell (World.block_lt_of_cell? w _ hx114_0)).trans hx114_0
        replace p114 := eq_true p114
        replace q114 := eq_true q114
        have p115 : 0 ≤ (x8_1 : Int) := of_decide_eq_true (by first | (with_reducible assumption) | assumption)
        have q115 : x8_1 < (l1.length : Int) := of_decide_eq_true (by first | (with_reducible assumption) | assumption)
        obtain ⟨ad115, e115, hx115_0⟩ := Kd.at_int HR1.out x8_1 p115 q115
        obtain rfl : ad113 = ad115 := (by injection e115)
        replace hx115_0 := (HB.out.cell (World.block_lt_of_cell? w _ hx115_0)).trans hx115_0
        replace p115 := eq_true p115
        replace q115 := eq_true q115
        go_wp2_with (first | ((with_reducible refine gate_builtin (b := .append) (xs := #[.tmp 24, .tmp 29]) rfl ?_); at_builtin; refine Kd.R_append (Kd.int .i64) (w0 := w) w.heap.size rfl (.tmp 24) (.tmp 29) 22 3 (.int .i64 0) 8 rfl Try.underlying22 info3 rfl (by decide) (by omega) u7 x7_1 (rd l1 x8_1) [.int .i64 (rd l1 x8_1)] (fun _ => True) (fun _ => False) rfl rfl ?aP (fun _ hk => hk.elim) ?aF ?aO ?aB ?aS ?aL ?_; (case aP => exact rfl); (case aB => exact (by repeat (first | (with_reducible first | exact HB.out | apply below_alloc | apply pw_below_drewN | apply below_drew1) | exact HB.out))); (case aF => exact (fun _ _ => trivial)); (case aO => exact (by (with_reducible repeat (first | apply Kd.R_alloc | apply Kd.R_drewN | apply Kd.R_drew)); exact HO_7.out)); (case aS => exact (below_size (by repeat (first | (with_reducible first | exact HB.out | apply below_alloc | apply pw_below_drewN | apply below_drew1) | exact HB.out)))); (case aL => have := LMc9.out; omega); intro v117 w10 ho hb hg hat; rw [← Ny116.out] at ho; have n0_ := Aside0.mk (hb); have n1_ := Aside0.mk (ho); clear HB; clear HO_7; have HB := n0_; have HO118 := n1_; clear n0_ n1_; clear ho hb hg hat))
        go_roundg k1
        case measure => have := HK1.out; omega
        case rel => exact ⟨(y116), (wrap64 (x8_1 + 1)), (by first | rfl | (simp; done) | (simp [*]; done)), H', ⟨by have := HK1.out; omega⟩, ⟨by (with_reducible repeat (first | apply Kd.R_alloc | apply Kd.R_drewN | apply Kd.R_drew)); exact HO118.out⟩, ⟨by repeat (first | (with_reducible first | exact HB.out | apply below_alloc | apply pw_below_drewN | apply below_drew1) | exact HB.out)⟩⟩
      rw [if_neg c8] at H
      have c8b0 : decide ((rd l0 (rd l1 x8_1)) ≤ a2) = false := decide_eq_false c8
      clear c8
      have H' := Aside0.mk H
      clear H
      have p113 : 0 ≤ (x8_1 : Int) := of_decide_eq_true (by first | (with_reducible assumption) | assumption)
      have q113 : x8_1 < (l1.length : Int) := of_decide_eq_true (by first | (with_reducible assumption) | assumption)
      obtain ⟨ad113, e113, hx113_0⟩ := Kd.at_int HR1.out x8_1 p113 q113
      cases e113
      replace hx113_0 := (HB.out.cell (World.block_lt_of_cell? w _ hx113_0)).trans hx113_0
      replace p113 := eq_true p113
      replace q113 := eq_true q113
      have p114 : 0 ≤ ((rd l1 x8_1) : Int) := of_decide_eq_true (by first | (with_reducible assumption) | assumption)
      have q114 : (rd l1 x8_1) < (l0.length : Int) := of_decide_eq_true (by first | (with_reducible assumption) | assumption)
      obtain ⟨ad114, e114, hx114_0⟩ := Kd.at_int HR0.out (rd l1 x8_1) p114 q114
      cases e114
      replace hx114_0 := (HB.out.cell (World.block_lt_of_cell? w _ hx114_0)).trans hx114_0
      replace p114 := eq_true p114
      replace q114 := eq_true q114
      go_wp2
      go_loopg [9] k1 (fun kq v9 w' => ∃ (x9_2 : Int), v9 = .int .i64 x9_2 ∧ Aside0 (order_row.l1 kq l0 l1 a2 x7_1 x8_1 x9_2 = some r) ∧ Aside0 (kq ≤ k1) ∧ Aside0 (Kd.R (Kd.int .i64) 3 w' w.heap.size (fun _ => True) u7 x7_1) ∧ Aside0 (Below w.heap.size w w'))
      case atStart => exact ⟨(x8_1), (by first | rfl | (simp; done) | (simp [*]; done)), H', ⟨Nat.le_refl _⟩, ⟨by (with_reducible repeat (first | apply Kd.R_alloc | apply Kd.R_drewN | apply Kd.R_drew)); exact HO_7.out⟩, ⟨by repeat (first | (with_reducible first | exact HB.out | apply below_alloc | apply pw_below_drewN | apply below_drew1) | exact HB.out)⟩⟩
      case round =>
        clear H'
        try clear c1
        try clear p1
        try clear q1
        try clear hx1
        try clear c2
        try clear p2
        try clear c4
        try clear c4b0
        try clear c5
        try clear c5b0
        try clear c6
        try clear c6b0
        try clear p6
        try clear c7
        try clear c7b0
        try clear c8
        try clear c8b0
        try clear c9
        try clear hx113_0
        try clear hx114_0
        try clear hx115_0
        try clear p113
        try clear p114
        try clear p115
        try clear p2
        try clear q113
        try clear q114
        try clear q115
        obtain ⟨x9_2, rfl, HA, HK2, HO_7, HB⟩ := hrel
        cases gk with
        | zero => exact absurd HA.out (by simp [order_row.l1])
        | succ k2 =>
          have H := HA.out
          clear HA
          simp only [order_row.l1] at H
          by_cases c11 : x9_2 < (l1.length : Int)
          rotate_left
          · rw [if_neg c11] at H
            have c11b0 : decide (x9_2 < (l1.length : Int)) = false := decide_eq_false c11
            clear c11
            by_cases c27 : 0 ≤ x8_1
            rotate_left
            · rw [if_neg c27] at H
              exact absurd H (by simp)
            rw [if_pos c27] at H
            have c27b0 := eq_true c27
            have c27b1 : decide (0 ≤ x8_1) = true := decide_eq_true c27
            clear c27
            by_cases c28 : x8_1 ≤ x9_2
            rotate_left
            · rw [if_neg c28] at H
              exact absurd H (by simp)
            rw [if_pos c28] at H
            have c28b0 := eq_true c28
            have c28b1 : decide (x8_1 ≤ x9_2) = true := decide_eq_true c28
            clear c28
            by_cases c29 : x9_2 ≤ (l1.length : Int)
            rotate_left
            · rw [if_neg c29] at H
              exact absurd H (by simp)
            rw [if_pos c29] at H
            have c29b0 := eq_true c29
            have c29b1 : decide (x9_2 ≤ (l1.length : Int)) = true := decide_eq_true c29
            clear c29
            replace H := Option.bind_eq_some_iff.mp H
            obtain ⟨t130, A300, H⟩ := H
            replace H : ((slices_Reverse_int.f k2 t130).bind fun t133 => (if x7_1.length + t133.length < 17592186044416 then (order_row.l0 k2 l0 l1 a2 (x7_1 ++ t133) x9_2) else (none))) = some r := H
            have A30 := Aside0.mk A300
            clear A300
            replace H := Option.bind_eq_some_iff.mp H
            obtain ⟨t133, A310, H⟩ := H
            replace H : (if x7_1.length + t133.length < 17592186044416 then (order_row.l0 k2 l0 l1 a2 (x7_1 ++ t133) x9_2) else (none)) = some r := H
            have A31 := Aside0.mk A310
            clear A310
            by_cases c32 : x7_1.length + t133.length < 17592186044416
            rotate_left
            · rw [if_neg c32] at H
              exact absurd H (by simp)
            rw [if_pos c32] at H
            have LMc32 := Aside0.mk c32
            clear c32
            obtain ⟨y134, hy134⟩ : ∃ y_ : List Int, y_ = (x7_1 ++ t133) := ⟨_, rfl⟩
            replace H : (order_row.l0 k2 l0 l1 a2 y134 x9_2) = some r := by first | (rw [hy134]; with_reducible exact H) | (have H2_ := (Option.bind_some _ _).symm.trans H; rw [hy134]; with_reducible exact H2_) | (have H2_ := (Option.bind_some _ _).symm.trans H; with_reducible exact H2_) | with_reducible exact H | (rw [hy134]; exact H) | exact H
            have Ny134 := Aside0.mk hy134
            clear hy134
            have H' := Aside0.mk H
            clear H
            obtain ⟨i033, hi033, _, hsz33, _⟩ := info_parts info3
            obtain ⟨A33, hcut33, hA33, hC33⟩ := print_mid_of (P := Try.prog) (Value.int .i64) 0 22 3 .i64 .i64 Try.underlying22 hi033 hsz33 (some ad113) c1 l1 x8_1 x9_2 (of_decide_eq_true (by first | (with_reducible assumption) | assumption)) (by first | omega | exact of_decide_eq_true (by first | (with_reducible assumption) | assumption)) (of_decide_eq_true (by first | (with_reducible assumption) | assumption)) HC1.out
            have HR129 := Aside0.mk (Kd.C_of_reads (h1 := fun _ => rfl) (hA33 _ (Kd.reads_of_C HR1.out)))
            have HC129 := Aside0.mk hC33
            clear hA33 hC33 hi033 hsz33
            go_wp2_with (first | ((with_reducible refine gate_callee (f := 20) rfl ?_); refine goesL_ (some 58) rfl rfl Try.func20 (by kernel_rfl) rfl #[.slice (some ad114) l0.length c0, .slice A33 ((l1.take (x9_2 : Int).toNat).drop (x8_1 : Int).toNat).length (c1 - x8_1.toNat), .int .i64 (wrap64 (a2 + 1))] rfl (by (try simp only [List.map_toArray, List.map_cons, List.map_nil]); first | done | (rw [show ((l1.take (x9_2 : Int).toNat).drop (x8_1 : Int).toNat).length = (x9_2.toNat - x8_1.toNat) from (by rw [List.length_drop, List.length_take]; have h_ : (x9_2 : Int) ≤ (l1.length : Int) := of_decide_eq_true (by first | (with_reducible assumption) | assumption); omega)] <;> rfl) | rfl | (simp only [List.length_drop, List.length_take]; rfl)) ?_; (with_reducible refine (ih k2 (by have := HK1.out; have := HK2.out; omega) _ _ l0 _ _ ((l1.take (x9_2 : Int).toNat).drop (x8_1 : Int).toNat) (wrap64 (a2 + 1)) t130 _ ?side1 ?side2 ?side3 ?side4 A30.out).mono ?_); (case side1 => repeat (first | exact (Kd.C_below HR0.out HB.out) | (with_reducible refine Kd.C_alloc ?_ _) | (with_reducible refine Kd.C_drewN ?_ _) | (with_reducible refine Kd.C_drew ?_))); (case side2 => exact HC0.out); (case side3 => repeat (first | exact (Kd.C_below HR129.out HB.out) | (with_reducible refine Kd.C_alloc ?_ _) | (with_reducible refine Kd.C_drewN ?_ _) | (with_reducible refine Kd.C_drew ?_))); (case side4 => exact HC129.out); rintro e w34 ⟨v131, rfl, ho0, hb⟩; refine ⟨_, rfl, ?_⟩; have n0_ := Aside0.mk (Kd.R_elder' (by (with_reducible repeat (first | apply Kd.R_alloc | apply Kd.R_drewN | apply Kd.R_drew)); exact HO_7.out) (Kd.R_base ho0) hb); have n1_ := Aside0.mk (Kd.R_lower (Kd.R_new' ho0 (Kd.R_lt (by (with_reducible repeat (first | apply Kd.R_alloc | apply Kd.R_drewN | apply Kd.R_drew)); exact HO_7.out))) (below_size (by repeat (first | (with_reducible first | exact HB.out | apply below_alloc | apply pw_below_drewN | apply below_drew1) | exact HB.out)))); have n2_ := Aside0.mk (below_step (by repeat (first | (with_reducible first | exact HB.out | apply below_alloc | apply pw_below_drewN | apply below_drew1) | exact HB.out)) hb); clear HO_7; clear HB; have HO_7 := n0_; have HO132 := n1_; have HB := n2_; clear n0_ n1_ n2_; (try clear hb); (try clear hb2); (try clear hk); (try clear hi); (try clear ho0); obtain ⟨Ao35, co35, eo35⟩ := Kd.R_slice HO132.out; subst eo35) | ((with_reducible refine gate_callee (f := 26) rfl ?_); refine goesL_ (some 60) rfl rfl Try.func26 (by kernel_rfl) rfl #[.slice Ao35 t130.length co35] rfl (by (try simp only [List.map_toArray, List.map_cons, List.map_nil]); first | done | rfl | (simp only [List.length_drop, List.length_take]; rfl)) ?_; (with_reducible refine (slices_Reverse_int.calls k2 (fun k_ => some k_ = (.slice Ao35 t130.length co35 : Value).ownBlock) (.slice Ao35 t130.length co35) t130 t133 w _ ?side1 ?side2 A31.out).mono ?_); (case side1 => repeat (first | (with_reducible first | exact HB.out | apply below_alloc | apply pw_below_drewN | apply below_drew1) | exact HB.out)); (case side2 => exact Kd.R_tight rfl HO132.out); rintro e w36 ⟨rfl, hy0, hb, hkp⟩; refine ⟨_, rfl, ?_⟩; have n0_ := Aside0.mk (Kd.R_mono (ok' := fun k_ => some k_ ≠ (.slice Ao35 t130.length co35 : Value).ownBlock) (Kd.R_keptB (HO_7.out) hkp (fun k_ hk_ hs_ => (hk_.2) hs_)) (fun k_ hk_ => hk_.1.2)); have n1_ := Aside0.mk (Kd.R_reok rfl hy0 (fun k_ e_ => HO132.out.1 k_ e_)); have n2_ := Aside0.mk (hb); clear HO_7; clear HO132; clear HB; have HO_7 := n0_; have HO132 := n1_; have HB := n2_; clear n0_ n1_ n2_; (try clear hb); (try clear hkp); (try clear hy0)) | ((with_reducible refine gate_builtin (b := .append) (xs := #[.tmp 61, .tmp 62]) rfl ?_); at_builtin; refine Kd.R_append_rows (Kd.int .i64) (w0 := w) w.heap.size rfl (.tmp 61) (.tmp 62) 22 3 (.int .i64 0) 8 rfl Try.underlying22 info3 rfl (by decide) (by omega) u7 x7_1 t133 _ _ _ (fun k_ => some k_ ≠ (.slice Ao35 t130.length co35 : Value).ownBlock) (fun _ => False) rfl rfl ?aO ?aR (fun _ _ h => h) (fun _ h => h.elim) ?aF ?aB ?aS ?aL ?_; (case aR => rw [show t130.length = t133.length from (Kd.R_reads' HO132.out).1]; repeat (first | exact (Kd.R_reads' HO132.out).2.2 | (with_reducible refine Kd.C_alloc ?_ _) | (with_reducible refine Kd.C_drewN ?_ _) | (with_reducible refine Kd.C_drew ?_))); (case aB => exact (by repeat (first | (with_reducible first | exact HB.out | apply below_alloc | apply pw_below_drewN | apply below_drew1) | exact HB.out))); (case aF => exact (fun k_ hk => Kd.fresh' (Kd.R_lt (by (with_reducible repeat (first | apply Kd.R_alloc | apply Kd.R_drewN | apply Kd.R_drew)); exact HO132.out)) k_ hk)); (case aO => exact (by (with_reducible repeat (first | apply Kd.R_alloc | apply Kd.R_drewN | apply Kd.R_drew)); exact HO_7.out)); (case aS => exact (below_size (by repeat (first | (with_reducible first | exact HB.out | apply below_alloc | apply pw_below_drewN | apply below_drew1) | exact HB.out)))); (case aL => have := LMc32.out; have hlx_ := (Kd.R_reads' HO132.out).1; omega); intro v135 w37 ho hb hg hat; rw [← Ny134.out] at ho; have n0_ := Aside0.mk (Kd.R_after (ok := (fun _ => True)) (by (with_reducible repeat (first | apply Kd.R_alloc | apply Kd.R_drewN | apply Kd.R_drew)); exact HO132.out) hg hat); have n1_ := Aside0.mk (hb); have n2_ := Aside0.mk (ho); clear HO132; clear HB; clear HO_7; have HO132 := n0_; have HB := n1_; have HO136 := n2_; clear n0_ n1_ n2_; clear ho hb hg hat))
            go_roundg k2
            case measure => have := HK1.out; have := HK2.out; omega
            case rel => exact ⟨(y134), (x9_2), (by first | rfl | (simp; done) | (simp [*]; done)), H', ⟨by have := HK1.out; have := HK2.out; omega⟩, ⟨by (with_reducible repeat (first | apply Kd.R_alloc | apply Kd.R_drewN | apply Kd.R_drew)); exact Kd.R_mono HO136.out (fun _ hk => trivial)⟩, ⟨by repeat (first | (with_reducible first | exact HB.out | apply below_alloc | apply pw_below_drewN | apply below_drew1) | exact HB.out)⟩⟩
          rw [if_pos c11] at H
          have c11b0 : decide (x9_2 < (l1.length : Int)) = true := decide_eq_true c11
          clear c11
          by_cases c12 : 0 ≤ x9_2
          rotate_left
          · rw [if_neg c12] at H
            exact absurd H (by simp)
          rw [if_pos c12] at H
          have c12b0 : decide (0 ≤ x9_2) = true := decide_eq_true c12
          clear c12
          by_cases c13 : 0 ≤ (rd l1 x9_2)
          rotate_left
          · rw [if_neg c13] at H
            exact absurd H (by simp)
          rw [if_pos c13] at H
          have c13b0 : decide (0 ≤ (rd l1 x9_2)) = true := decide_eq_true c13
          clear c13
          by_cases c14 : (rd l1 x9_2) < (l0.length : Int)
          rotate_left
          · rw [if_neg c14] at H
            exact absurd H (by simp)
          rw [if_pos c14] at H
          have c14b0 : decide ((rd l1 x9_2) < (l0.length : Int)) = true := decide_eq_true c14
          clear c14
          by_cases c15 : (rd l0 (rd l1 x9_2)) > a2
          · rw [if_pos c15] at H
            have c15b0 : decide (a2 < (rd l0 (rd l1 x9_2))) = true := decide_eq_true c15
            clear c15
            have H' := Aside0.mk H
            clear H
            have p119 : 0 ≤ (x9_2 : Int) := of_decide_eq_true (by first | (with_reducible assumption) | assumption)
            have q119 : x9_2 < (l1.length : Int) := of_decide_eq_true (by first | (with_reducible assumption) | assumption)
            obtain ⟨ad119, e119, hx119_0⟩ := Kd.at_int HR1.out x9_2 p119 q119
            obtain rfl : ad113 = ad119 := (by injection e119)
            replace hx119_0 := (HB.out.cell (World.block_lt_of_cell? w _ hx119_0)).trans hx119_0
            replace p119 := eq_true p119
            replace q119 := eq_true q119
            have p120 : 0 ≤ ((rd l1 x9_2) : Int) := of_decide_eq_true (by first | (with_reducible assumption) | assumption)
            have q120 : (rd l1 x9_2) < (l0.length : Int) := of_decide_eq_true (by first | (with_reducible assumption) | assumption)
            obtain ⟨ad120, e120, hx120_0⟩ := Kd.at_int HR0.out (rd l1 x9_2) p120 q120
            obtain rfl : ad114 = ad120 := (by injection e120)
            replace hx120_0 := (HB.out.cell (World.block_lt_of_cell? w _ hx120_0)).trans hx120_0
            replace p120 := eq_true p120
            replace q120 := eq_true q120
            go_wp2
            go_roundg k2
            case measure => have := HK1.out; have := HK2.out; omega
            case rel => exact ⟨(wrap64 (x9_2 + 1)), (by first | rfl | (simp; done) | (simp [*]; done)), H', ⟨by have := HK1.out; have := HK2.out; omega⟩, ⟨by (with_reducible repeat (first | apply Kd.R_alloc | apply Kd.R_drewN | apply Kd.R_drew)); exact HO_7.out⟩, ⟨by repeat (first | (with_reducible first | exact HB.out | apply below_alloc | apply pw_below_drewN | apply below_drew1) | exact HB.out)⟩⟩
          rw [if_neg c15] at H
          have c15b0 : decide (a2 < (rd l0 (rd l1 x9_2))) = false := decide_eq_false c15
          clear c15
          by_cases c16 : 0 ≤ x8_1
          rotate_left
          · rw [if_neg c16] at H
            exact absurd H (by simp)
          rw [if_pos c16] at H
          have c16b0 := eq_true c16
          have c16b1 : decide (0 ≤ x8_1) = true := decide_eq_true c16
          clear c16
          by_cases c17 : x8_1 ≤ x9_2
          rotate_left
          · rw [if_neg c17] at H
            exact absurd H (by simp)
          rw [if_pos c17] at H
          have c17b0 := eq_true c17
          have c17b1 : decide (x8_1 ≤ x9_2) = true := decide_eq_true c17
          clear c17
          by_cases c18 : x9_2 ≤ (l1.length : Int)
          rotate_left
          · rw [if_neg c18] at H
            exact absurd H (by simp)
          rw [if_pos c18] at H
          have c18b0 := eq_true c18
          have c18b1 : decide (x9_2 ≤ (l1.length : Int)) = true := decide_eq_true c18
          clear c18
          replace H := Option.bind_eq_some_iff.mp H
          obtain ⟨t122, A190, H⟩ := H
          replace H : ((slices_Reverse_int.f k2 t122).bind fun t125 => (if x7_1.length + t125.length < 17592186044416 then (order_row.l0 k2 l0 l1 a2 (x7_1 ++ t125) x9_2) else (none))) = some r := H
          have A19 := Aside0.mk A190
          clear A190
          replace H := Option.bind_eq_some_iff.mp H
          obtain ⟨t125, A200, H⟩ := H
          replace H : (if x7_1.length + t125.length < 17592186044416 then (order_row.l0 k2 l0 l1 a2 (x7_1 ++ t125) x9_2) else (none)) = some r := H
          have A20 := Aside0.mk A200
          clear A200
          by_cases c21 : x7_1.length + t125.length < 17592186044416
          rotate_left
          · rw [if_neg c21] at H
            exact absurd H (by simp)
          rw [if_pos c21] at H
          have LMc21 := Aside0.mk c21
          clear c21
          obtain ⟨y126, hy126⟩ : ∃ y_ : List Int, y_ = (x7_1 ++ t125) := ⟨_, rfl⟩
          replace H : (order_row.l0 k2 l0 l1 a2 y126 x9_2) = some r := by first | (rw [hy126]; with_reducible exact H) | (have H2_ := (Option.bind_some _ _).symm.trans H; rw [hy126]; with_reducible exact H2_) | (have H2_ := (Option.bind_some _ _).symm.trans H; with_reducible exact H2_) | with_reducible exact H | (rw [hy126]; exact H) | exact H
          have Ny126 := Aside0.mk hy126
          clear hy126
          have H' := Aside0.mk H
          clear H
          have p119 : 0 ≤ (x9_2 : Int) := of_decide_eq_true (by first | (with_reducible assumption) | assumption)
          have q119 : x9_2 < (l1.length : Int) := of_decide_eq_true (by first | (with_reducible assumption) | assumption)
          obtain ⟨ad119, e119, hx119_0⟩ := Kd.at_int HR1.out x9_2 p119 q119
          obtain rfl : ad113 = ad119 := (by injection e119)
          replace hx119_0 := (HB.out.cell (World.block_lt_of_cell? w _ hx119_0)).trans hx119_0
          replace p119 := eq_true p119
          replace q119 := eq_true q119
          have p120 : 0 ≤ ((rd l1 x9_2) : Int) := of_decide_eq_true (by first | (with_reducible assumption) | assumption)
          have q120 : (rd l1 x9_2) < (l0.length : Int) := of_decide_eq_true (by first | (with_reducible assumption) | assumption)
          obtain ⟨ad120, e120, hx120_0⟩ := Kd.at_int HR0.out (rd l1 x9_2) p120 q120
          obtain rfl : ad114 = ad120 := (by injection e120)
          replace hx120_0 := (HB.out.cell (World.block_lt_of_cell? w _ hx120_0)).trans hx120_0
          replace p120 := eq_true p120
          replace q120 := eq_true q120
          obtain ⟨i022, hi022, _, hsz22, _⟩ := info_parts info3
          obtain ⟨A22, hcut22, hA22, hC22⟩ := print_mid_of (P := Try.prog) (Value.int .i64) 0 22 3 .i64 .i64 Try.underlying22 hi022 hsz22 (some ad113) c1 l1 x8_1 x9_2 (of_decide_eq_true (by first | (with_reducible assumption) | assumption)) (by first | omega | exact of_decide_eq_true (by first | (with_reducible assumption) | assumption)) (of_decide_eq_true (by first | (with_reducible assumption) | assumption)) HC1.out
          have HR121 := Aside0.mk (Kd.C_of_reads (h1 := fun _ => rfl) (hA22 _ (Kd.reads_of_C HR1.out)))
          have HC121 := Aside0.mk hC22
          clear hA22 hC22 hi022 hsz22
          go_wp2_with (first | ((with_reducible refine gate_callee (f := 20) rfl ?_); refine goesL_ (some 58) rfl rfl Try.func20 (by kernel_rfl) rfl #[.slice (some ad114) l0.length c0, .slice A22 ((l1.take (x9_2 : Int).toNat).drop (x8_1 : Int).toNat).length (c1 - x8_1.toNat), .int .i64 (wrap64 (a2 + 1))] rfl (by (try simp only [List.map_toArray, List.map_cons, List.map_nil]); first | done | (rw [show ((l1.take (x9_2 : Int).toNat).drop (x8_1 : Int).toNat).length = (x9_2.toNat - x8_1.toNat) from (by rw [List.length_drop, List.length_take]; have h_ : (x9_2 : Int) ≤ (l1.length : Int) := of_decide_eq_true (by first | (with_reducible assumption) | assumption); omega)] <;> rfl) | rfl | (simp only [List.length_drop, List.length_take]; rfl)) ?_; (with_reducible refine (ih k2 (by have := HK1.out; have := HK2.out; omega) _ _ l0 _ _ ((l1.take (x9_2 : Int).toNat).drop (x8_1 : Int).toNat) (wrap64 (a2 + 1)) t122 _ ?side1 ?side2 ?side3 ?side4 A19.out).mono ?_); (case side1 => repeat (first | exact (Kd.C_below HR0.out HB.out) | (with_reducible refine Kd.C_alloc ?_ _) | (with_reducible refine Kd.C_drewN ?_ _) | (with_reducible refine Kd.C_drew ?_))); (case side2 => exact HC0.out); (case side3 => repeat (first | exact (Kd.C_below HR121.out HB.out) | (with_reducible refine Kd.C_alloc ?_ _) | (with_reducible refine Kd.C_drewN ?_ _) | (with_reducible refine Kd.C_drew ?_))); (case side4 => exact HC121.out); rintro e w23 ⟨v123, rfl, ho0, hb⟩; refine ⟨_, rfl, ?_⟩; have n0_ := Aside0.mk (Kd.R_elder' (by (with_reducible repeat (first | apply Kd.R_alloc | apply Kd.R_drewN | apply Kd.R_drew)); exact HO_7.out) (Kd.R_base ho0) hb); have n1_ := Aside0.mk (Kd.R_lower (Kd.R_new' ho0 (Kd.R_lt (by (with_reducible repeat (first | apply Kd.R_alloc | apply Kd.R_drewN | apply Kd.R_drew)); exact HO_7.out))) (below_size (by repeat (first | (with_reducible first | exact HB.out | apply below_alloc | apply pw_below_drewN | apply below_drew1) | exact HB.out)))); have n2_ := Aside0.mk (below_step (by repeat (first | (with_reducible first | exact HB.out | apply below_alloc | apply pw_below_drewN | apply below_drew1) | exact HB.out)) hb); clear HO_7; clear HB; have HO_7 := n0_; have HO124 := n1_; have HB := n2_; clear n0_ n1_ n2_; (try clear hb); (try clear hb2); (try clear hk); (try clear hi); (try clear ho0); obtain ⟨Ao24, co24, eo24⟩ := Kd.R_slice HO124.out; subst eo24) | ((with_reducible refine gate_callee (f := 26) rfl ?_); refine goesL_ (some 60) rfl rfl Try.func26 (by kernel_rfl) rfl #[.slice Ao24 t122.length co24] rfl (by (try simp only [List.map_toArray, List.map_cons, List.map_nil]); first | done | rfl | (simp only [List.length_drop, List.length_take]; rfl)) ?_; (with_reducible refine (slices_Reverse_int.calls k2 (fun k_ => some k_ = (.slice Ao24 t122.length co24 : Value).ownBlock) (.slice Ao24 t122.length co24) t122 t125 w _ ?side1 ?side2 A20.out).mono ?_); (case side1 => repeat (first | (with_reducible first | exact HB.out | apply below_alloc | apply pw_below_drewN | apply below_drew1) | exact HB.out)); (case side2 => exact Kd.R_tight rfl HO124.out); rintro e w25 ⟨rfl, hy0, hb, hkp⟩; refine ⟨_, rfl, ?_⟩; have n0_ := Aside0.mk (Kd.R_mono (ok' := fun k_ => some k_ ≠ (.slice Ao24 t122.length co24 : Value).ownBlock) (Kd.R_keptB (HO_7.out) hkp (fun k_ hk_ hs_ => (hk_.2) hs_)) (fun k_ hk_ => hk_.1.2)); have n1_ := Aside0.mk (Kd.R_reok rfl hy0 (fun k_ e_ => HO124.out.1 k_ e_)); have n2_ := Aside0.mk (hb); clear HO_7; clear HO124; clear HB; have HO_7 := n0_; have HO124 := n1_; have HB := n2_; clear n0_ n1_ n2_; (try clear hb); (try clear hkp); (try clear hy0)) | ((with_reducible refine gate_builtin (b := .append) (xs := #[.tmp 61, .tmp 62]) rfl ?_); at_builtin; refine Kd.R_append_rows (Kd.int .i64) (w0 := w) w.heap.size rfl (.tmp 61) (.tmp 62) 22 3 (.int .i64 0) 8 rfl Try.underlying22 info3 rfl (by decide) (by omega) u7 x7_1 t125 _ _ _ (fun k_ => some k_ ≠ (.slice Ao24 t122.length co24 : Value).ownBlock) (fun _ => False) rfl rfl ?aO ?aR (fun _ _ h => h) (fun _ h => h.elim) ?aF ?aB ?aS ?aL ?_; (case aR => rw [show t122.length = t125.length from (Kd.R_reads' HO124.out).1]; repeat (first | exact (Kd.R_reads' HO124.out).2.2 | (with_reducible refine Kd.C_alloc ?_ _) | (with_reducible refine Kd.C_drewN ?_ _) | (with_reducible refine Kd.C_drew ?_))); (case aB => exact (by repeat (first | (with_reducible first | exact HB.out | apply below_alloc | apply pw_below_drewN | apply below_drew1) | exact HB.out))); (case aF => exact (fun k_ hk => Kd.fresh' (Kd.R_lt (by (with_reducible repeat (first | apply Kd.R_alloc | apply Kd.R_drewN | apply Kd.R_drew)); exact HO124.out)) k_ hk)); (case aO => exact (by (with_reducible repeat (first | apply Kd.R_alloc | apply Kd.R_drewN | apply Kd.R_drew)); exact HO_7.out)); (case aS => exact (below_size (by repeat (first | (with_reducible first | exact HB.out | apply below_alloc | apply pw_below_drewN | apply below_drew1) | exact HB.out)))); (case aL => have := LMc21.out; have hlx_ := (Kd.R_reads' HO124.out).1; omega); intro v127 w26 ho hb hg hat; rw [← Ny126.out] at ho; have n0_ := Aside0.mk (Kd.R_after (ok := (fun _ => True)) (by (with_reducible repeat (first | apply Kd.R_alloc | apply Kd.R_drewN | apply Kd.R_drew)); exact HO124.out) hg hat); have n1_ := Aside0.mk (hb); have n2_ := Aside0.mk (ho); clear HO124; clear HB; clear HO_7; have HO124 := n0_; have HB := n1_; have HO128 := n2_; clear n0_ n1_ n2_; clear ho hb hg hat))
          go_roundg k2
          case measure => have := HK1.out; have := HK2.out; omega
          case rel => exact ⟨(y126), (x9_2), (by first | rfl | (simp; done) | (simp [*]; done)), H', ⟨by have := HK1.out; have := HK2.out; omega⟩, ⟨by (with_reducible repeat (first | apply Kd.R_alloc | apply Kd.R_drewN | apply Kd.R_drew)); exact Kd.R_mono HO128.out (fun _ hk => trivial)⟩, ⟨by repeat (first | (with_reducible first | exact HB.out | apply below_alloc | apply pw_below_drewN | apply below_drew1) | exact HB.out)⟩⟩

/-! ### order_Of: function 11 -/
def order_Of.l0 : Nat → List Int → List Int → List Int → Int → Int → Option (List Int)
  | 0, _, _, _, _, _ => none
  | k + 1, x3, x4, x13, x14, x15 => if x15 < x14 then (if 0 ≤ x15 then (if x15 < (x13.length : Int) then (if x15 < (x3.length : Int) then (if x15 < (x4.length : Int) then (order_Of.l0 k (x3.set (x15 : Int).toNat x15) (x4.set (x15 : Int).toNat (mn 127 (mx 0 (rd x13 x15)))) x13 x14 (wrap64 (x15 + 1))) else (none)) else (none)) else (none)) else (none)) else ((order_row.f k x4 x3 0).bind fun t146 => (some t146))
def order_Of.f (k : Nat) (l0 : List Int) : Option (List Int) := if 0 ≤ (l0.length : Int) then (if ((l0.length : Int) : Int).toNat ≤ 35184372088832 then (order_Of.l0 k (List.replicate ((l0.length : Int) : Int).toNat 0) (List.replicate ((l0.length : Int) : Int).toNat 0) l0 (l0.length : Int) 0) else (none)) else (none)
theorem order_Of.mono_l : ∀ k, (∀ y0 y1 y2 y3 y4, LeO (order_Of.l0 k y0 y1 y2 y3 y4) (order_Of.l0 (k + 1) y0 y1 y2 y3 y4))
  | 0 => fun _ _ _ _ _ r h => by simp [order_Of.l0] at h
  | k + 1 => by
    have ih0 := order_Of.mono_l k
    · intro y0 y1 y2 y3 y4
      unfold order_Of.l0
      repeat' first
      | (with_reducible exact ih0 _ _ _ _ _)
      | (with_reducible exact order_row.mono _ _ _ _)
      | (with_reducible exact LeO.refl _)
      | (with_reducible exact LeO.none _)
      | (with_reducible refine LeO.ite ?_ ?_)
      | (with_reducible refine LeO.bind ?_ (fun _ => ?_))
      | exact ih0 _ _ _ _ _
      | exact order_row.mono _ _ _ _
      | exact LeO.none _
      | refine LeO.ite ?_ ?_
      | refine LeO.bind ?_ (fun _ => ?_)
theorem order_Of.mono : ∀ a0 k, LeO (order_Of.f k a0) (order_Of.f (k + 1) a0) := by
  intro a0 k
  have ih0 := order_Of.mono_l k
  unfold order_Of.f
  repeat' first
      | (with_reducible exact ih0 _ _ _ _ _)
      | (with_reducible exact order_row.mono _ _ _ _)
      | (with_reducible exact LeO.refl _)
      | (with_reducible exact LeO.none _)
      | (with_reducible refine LeO.ite ?_ ?_)
      | (with_reducible refine LeO.bind ?_ (fun _ => ?_))
      | exact ih0 _ _ _ _ _
      | exact order_row.mono _ _ _ _
      | exact LeO.none _
      | refine LeO.ite ?_ ?_
      | refine LeO.bind ?_ (fun _ => ?_)
def order_Of.T1 : Bool × List (List Nat × List Nat) := (true, [([], []), ([0], [0]), ([1, 1], [1]), ([], []), ([3], [3]), ([4, 4], [4]), ([2, 0, 1, 2], [2]), ([5, 6, 0, 1, 2, 3, 4, 5, 6], [5])])
def order_Of.B1 : List Nat := [0, 1, 3, 0, 8, 24, 7, 127]
theorem order_Of.tab1 : rtab .any (opsOf Try.f11 1) = order_Of.T1 := by kernel_rfl
theorem order_Of.bits1 : waitsOk order_Of.T1.2 order_Of.B1 = true := by kernel_rfl
set_option maxHeartbeats 8000000 in
set_option maxRecDepth 100000 in
theorem order_Of.calls (k : Nat) (A0 : Option Addr) (c0 : Nat) (l0 : List Int) (r : List Int) (w : World) (hr0 : Kd.C (Kd.int .i64) w A0 l0.length l0) (hc0 : l0.length ≤ c0) (h : order_Of.f k l0 = some r) :
    Calls Try.prog 11 #[.slice A0 l0.length c0] w fun e w' => ∃ v0_ : Value, e = .returned (v0_) ∧ Kd.R (Kd.int .i64) 3 w' w.heap.size (fun _ => True) v0_ r ∧ Below w.heap.size w w' := by
  have HR0 := Aside0.mk hr0
  have HC0 := Aside0.mk hc0
  clear hr0 hc0
  have HB := Aside0.mk (Below.refl w.heap.size w)
  have H : (if 0 ≤ (l0.length : Int) then (if ((l0.length : Int) : Int).toNat ≤ 35184372088832 then (order_Of.l0 k (List.replicate ((l0.length : Int) : Int).toNat 0) (List.replicate ((l0.length : Int) : Int).toNat 0) l0 (l0.length : Int) 0) else (none)) else (none)) = some r := h
  clear h
  by_cases c2 : 0 ≤ (l0.length : Int)
  rotate_left
  · rw [if_neg c2] at H
    exact absurd H (by simp)
  rw [if_pos c2] at H
  have c2b0 := eq_true c2
  have c2b1 : decide (0 ≤ (l0.length : Int)) = true := decide_eq_true c2
  clear c2
  by_cases c3 : ((l0.length : Int) : Int).toNat ≤ 35184372088832
  rotate_left
  · rw [if_neg c3] at H
    exact absurd H (by simp)
  rw [if_pos c3] at H
  have c3b0 := eq_true c3
  have c3b1 : decide (((l0.length : Int) : Int).toNat ≤ 35184372088832) = true := decide_eq_true c3
  clear c3
  obtain ⟨y137, hy137⟩ : ∃ y_ : List Int, y_ = (List.replicate ((l0.length : Int) : Int).toNat 0) := ⟨_, rfl⟩
  replace H : (order_Of.l0 k y137 (List.replicate ((l0.length : Int) : Int).toNat 0) l0 (l0.length : Int) 0) = some r := by first | (rw [hy137]; with_reducible exact H) | (have H2_ := (Option.bind_some _ _).symm.trans H; rw [hy137]; with_reducible exact H2_) | (have H2_ := (Option.bind_some _ _).symm.trans H; with_reducible exact H2_) | with_reducible exact H | (rw [hy137]; exact H) | exact H
  have Ny137 := Aside0.mk hy137
  clear hy137
  obtain ⟨y140, hy140⟩ : ∃ y_ : List Int, y_ = (List.replicate ((l0.length : Int) : Int).toNat 0) := ⟨_, rfl⟩
  replace H : (order_Of.l0 k y137 y140 l0 (l0.length : Int) 0) = some r := by first | (rw [hy140]; with_reducible exact H) | (have H2_ := (Option.bind_some _ _).symm.trans H; rw [hy140]; with_reducible exact H2_) | (have H2_ := (Option.bind_some _ _).symm.trans H; with_reducible exact H2_) | with_reducible exact H | (rw [hy140]; exact H) | exact H
  have Ny140 := Aside0.mk hy140
  clear hy140
  have H' := Aside0.mk H
  clear H
  go_enter Try.func11, Try.ntmps11
  try go_wp2
  have n0_ := Aside0.mk (below_drew1 HB.out)
  clear HB
  have HB := n0_
  clear n0_
  refine start_ (n := 8) (S := fun w' => True) (ds := []) #[false, false, false, false, false, false, false, false] (by kernel_rfl) rfl rfl trivial (fun hHeld => ?_); refine with_tabW order_Of.tab1 order_Of.bits1 (fun HT_ HW_ => ?_)
  generalize w.drew = w4 at HB hHeld ⊢
  refine pure_ (i := 0) (N := some 7) (v := ?_) (a' := ?_) #[true, false, false, false, false, false, false, false] rfl rfl (any_of HT_.out (by kernel_rfl)) (fun _ _ _ h => h) (Or.inl ⟨by rfl, ?_⟩) ?_ ?_
  rotate_left
  · intro w'
    go_simp
    with_reducible rfl
  rotate_left
  · simp only [Act.put, List.setIfInBounds_toArray, List.set_cons_zero, List.set_cons_succ, i64_w, i32_w]
    rfl
  refine pure_ (i := 1) (N := some 8) (v := ?_) (a' := ?_) #[true, true, false, false, false, false, false, false] rfl rfl (any_of HT_.out (by kernel_rfl)) (fun _ _ _ h => h) (Or.inl ⟨by rfl, ?_⟩) ?_ ?_
  rotate_left
  · intro w'
    go_simp
    with_reducible rfl
  rotate_left
  · simp only [Act.put, List.setIfInBounds_toArray, List.set_cons_zero, List.set_cons_succ, i64_w, i32_w]
    rfl
  refine pure_ (i := 3) (N := some 10) (v := ?_) (a' := ?_) #[true, true, false, true, false, false, false, false] rfl rfl (any_of HT_.out (by kernel_rfl)) (fun _ _ _ h => h) (Or.inl ⟨by rfl, ?_⟩) ?_ ?_
  rotate_left
  · intro w'
    go_simp
    with_reducible rfl
  rotate_left
  · simp only [Act.put, List.setIfInBounds_toArray, List.set_cons_zero, List.set_cons_succ, i64_w, i32_w]
    rfl
  refine pure_ (i := 4) (N := some 11) (v := ?_) (a' := ?_) #[true, true, false, true, true, false, false, false] rfl rfl (any_of HT_.out (by kernel_rfl)) (fun _ _ _ h => h) (Or.inl ⟨by rfl, ?_⟩) ?_ ?_
  rotate_left
  · intro w'
    go_simp
    with_reducible rfl
  rotate_left
  · simp only [Act.put, List.setIfInBounds_toArray, List.set_cons_zero, List.set_cons_succ, i64_w, i32_w]
    rfl
  refine join_ (σ := Value × Value) 1 #[true, true, true, true, true, true, true, false] (fun s_ => [(9, s_.1), (12, s_.2), (3, s_.1)]) (fun s_ w' => (Kd.R (Kd.int .i64) 3 w' w.heap.size (fun k_ => some k_ ≠ (s_.2 : Value).ownBlock) s_.1 y137) ∧ (Kd.R (Kd.int .i64) 3 w' w.heap.size (fun k_ => some k_ ≠ (s_.1 : Value).ownBlock) s_.2 y140) ∧ (Below w.heap.size w w')) ?_ ?_
  rotate_left
  · intro hCont
    refine two_ (i := 2) (j := 5) (Ni := some 9) (Nj := some 12) #[true, true, true, true, true, false, false, false] #[true, true, false, true, true, true, false, false] rfl rfl rfl rfl (two_of HT_.out (by kernel_rfl)) (by decide) (by decide) (fun K hK => ?_) (fun K hK => ?_)
    · skip
      refine Kd.R_make_step (Kd.int .i64) _ 3 (by rfl) (N := 9) rfl 22 _ _ rfl (l0.length : Int) rfl rfl Try.underlying22 (.int .i64 0) 8 info3 rfl (by decide) (by omega) 0 (ok := fun _ => True) (okp := fun _ => True) rfl (fun _ hk => hk) trivial (of_decide_eq_true (by first | (with_reducible assumption) | assumption)) (Nat.le_trans (Nat.mul_le_mul_right _ (of_decide_eq_true (by first | (with_reducible assumption) | assumption) : (l0.length : Int).toNat ≤ 35184372088832)) (by omega)) (Below.refl _ _) (Nat.le_refl _) ?_
      intro v138 w5 ho6 hb hg_ hnew_
      clear hg_ hnew_
      (first | rw [← Ny137.out] at ho6 | (simp only [Int.reduceToNat] at ho6; rw [← Ny137.out] at ho6))
      have n0_ := Aside0.mk (Kd.R_lower ho6 (below_size (by repeat (first | (with_reducible first | exact HB.out | apply below_alloc | apply pw_below_drewN | apply below_drew1) | exact HB.out))))
      have n1_ := Aside0.mk (below_step (by repeat (first | (with_reducible first | exact HB.out | apply below_alloc | apply pw_below_drewN | apply below_drew1) | exact HB.out)) hb)
      clear HB
      have HO139 := n0_
      have HB := n1_
      clear n0_ n1_
      clear hb ho6
      refine hK.out _ _ trivial (fun hHeld => ?_)
      clear hK K
      refine norm_ (a' := ?_) ?_ ?_
      rotate_left
      · show Act.put _ (some 9) _ = _
        simp only [Act.put, List.setIfInBounds_toArray, List.set_cons_zero, List.set_cons_succ, i64_w, i32_w]
        rfl
      refine pure_ (i := 6) (N := some 3) (v := ?_) (a' := ?_) #[true, true, true, true, true, false, true, false] rfl rfl (any_of HT_.out (by kernel_rfl)) (fun _ _ _ h => h) (Or.inl ⟨by rfl, ?_⟩) ?_ ?_
      rotate_left
      · intro w'
        go_simp
        with_reducible rfl
      rotate_left
      · simp only [Act.put, List.setIfInBounds_toArray, List.set_cons_zero, List.set_cons_succ, i64_w, i32_w]
        rfl
      refine one_ (i := 5) (N := some 12) #[true, true, true, true, true, true, true, false] rfl rfl (one_of HT_.out (by kernel_rfl)) (by decide) (fun K hK => ?_)
      refine Kd.R_make_step (Kd.int .i64) _ 3 (by rfl) (N := 12) rfl 22 _ _ rfl (l0.length : Int) rfl rfl Try.underlying22 (.int .i64 0) 8 info3 rfl (by decide) (by omega) 0 (ok := fun _ => True) (okp := fun _ => True) rfl (fun _ hk => hk) trivial (of_decide_eq_true (by first | (with_reducible assumption) | assumption)) (Nat.le_trans (Nat.mul_le_mul_right _ (of_decide_eq_true (by first | (with_reducible assumption) | assumption) : (l0.length : Int).toNat ≤ 35184372088832)) (by omega)) (Below.refl _ _) (Nat.le_refl _) ?_
      intro v141 w7 ho8 hb hg_ hnew_
      clear hg_ hnew_
      (first | rw [← Ny140.out] at ho8 | (simp only [Int.reduceToNat] at ho8; rw [← Ny140.out] at ho8))
      have n0_ := Aside0.mk (Kd.R_elder' (by (with_reducible repeat (first | apply Kd.R_alloc | apply Kd.R_drewN | apply Kd.R_drew)); exact HO139.out) (Kd.R_base ho8) hb)
      have n1_ := Aside0.mk (Kd.R_lower (Kd.R_new' ho8 (Kd.R_lt (by (with_reducible repeat (first | apply Kd.R_alloc | apply Kd.R_drewN | apply Kd.R_drew)); exact HO139.out))) (below_size (by repeat (first | (with_reducible first | exact HB.out | apply below_alloc | apply pw_below_drewN | apply below_drew1) | exact HB.out))))
      have n2_ := Aside0.mk (below_step (by repeat (first | (with_reducible first | exact HB.out | apply below_alloc | apply pw_below_drewN | apply below_drew1) | exact HB.out)) hb)
      clear HO139
      clear HB
      have HO139 := n0_
      have HO142 := n1_
      have HB := n2_
      clear n0_ n1_ n2_
      clear hb ho8
      refine hK.out _ _ trivial (fun hHeld => ?_)
      clear hK K
      refine norm_ (a' := ?_) ?_ ?_
      rotate_left
      · show Act.put _ (some 12) _ = _
        simp only [Act.put, List.setIfInBounds_toArray, List.set_cons_zero, List.set_cons_succ, i64_w, i32_w]
        rfl
      exact norm_ (by simp only [putAll, Act.put, List.setIfInBounds_toArray, List.set_cons_zero, List.set_cons_succ]) (hCont (v138, v141) _ ⟨(by (with_reducible repeat (first | apply Kd.R_alloc | apply Kd.R_drewN | apply Kd.R_drew)); exact Kd.R_mono HO139.out (fun _ hk => hk.2)), (by (with_reducible repeat (first | apply Kd.R_alloc | apply Kd.R_drewN | apply Kd.R_drew)); exact Kd.R_mono HO142.out (fun _ hk => hk.2)), (by repeat (first | (with_reducible first | exact HB.out | apply below_alloc | apply pw_below_drewN | apply below_drew1) | exact HB.out))⟩)
    · skip
      refine Kd.R_make_step (Kd.int .i64) _ 3 (by rfl) (N := 12) rfl 22 _ _ rfl (l0.length : Int) rfl rfl Try.underlying22 (.int .i64 0) 8 info3 rfl (by decide) (by omega) 0 (ok := fun _ => True) (okp := fun _ => True) rfl (fun _ hk => hk) trivial (of_decide_eq_true (by first | (with_reducible assumption) | assumption)) (Nat.le_trans (Nat.mul_le_mul_right _ (of_decide_eq_true (by first | (with_reducible assumption) | assumption) : (l0.length : Int).toNat ≤ 35184372088832)) (by omega)) (Below.refl _ _) (Nat.le_refl _) ?_
      intro v141 w5 ho6 hb hg_ hnew_
      clear hg_ hnew_
      (first | rw [← Ny140.out] at ho6 | (simp only [Int.reduceToNat] at ho6; rw [← Ny140.out] at ho6))
      have n0_ := Aside0.mk (Kd.R_lower ho6 (below_size (by repeat (first | (with_reducible first | exact HB.out | apply below_alloc | apply pw_below_drewN | apply below_drew1) | exact HB.out))))
      have n1_ := Aside0.mk (below_step (by repeat (first | (with_reducible first | exact HB.out | apply below_alloc | apply pw_below_drewN | apply below_drew1) | exact HB.out)) hb)
      clear HB
      have HO142 := n0_
      have HB := n1_
      clear n0_ n1_
      clear hb ho6
      refine hK.out _ _ trivial (fun hHeld => ?_)
      clear hK K
      refine norm_ (a' := ?_) ?_ ?_
      rotate_left
      · show Act.put _ (some 12) _ = _
        simp only [Act.put, List.setIfInBounds_toArray, List.set_cons_zero, List.set_cons_succ, i64_w, i32_w]
        rfl
      refine one_ (i := 2) (N := some 9) #[true, true, true, true, true, true, false, false] rfl rfl (one_of HT_.out (by kernel_rfl)) (by decide) (fun K hK => ?_)
      refine Kd.R_make_step (Kd.int .i64) _ 3 (by rfl) (N := 9) rfl 22 _ _ rfl (l0.length : Int) rfl rfl Try.underlying22 (.int .i64 0) 8 info3 rfl (by decide) (by omega) 0 (ok := fun _ => True) (okp := fun _ => True) rfl (fun _ hk => hk) trivial (of_decide_eq_true (by first | (with_reducible assumption) | assumption)) (Nat.le_trans (Nat.mul_le_mul_right _ (of_decide_eq_true (by first | (with_reducible assumption) | assumption) : (l0.length : Int).toNat ≤ 35184372088832)) (by omega)) (Below.refl _ _) (Nat.le_refl _) ?_
      intro v138 w7 ho8 hb hg_ hnew_
      clear hg_ hnew_
      (first | rw [← Ny137.out] at ho8 | (simp only [Int.reduceToNat] at ho8; rw [← Ny137.out] at ho8))
      have n0_ := Aside0.mk (Kd.R_elder' (by (with_reducible repeat (first | apply Kd.R_alloc | apply Kd.R_drewN | apply Kd.R_drew)); exact HO142.out) (Kd.R_base ho8) hb)
      have n1_ := Aside0.mk (Kd.R_lower (Kd.R_new' ho8 (Kd.R_lt (by (with_reducible repeat (first | apply Kd.R_alloc | apply Kd.R_drewN | apply Kd.R_drew)); exact HO142.out))) (below_size (by repeat (first | (with_reducible first | exact HB.out | apply below_alloc | apply pw_below_drewN | apply below_drew1) | exact HB.out))))
      have n2_ := Aside0.mk (below_step (by repeat (first | (with_reducible first | exact HB.out | apply below_alloc | apply pw_below_drewN | apply below_drew1) | exact HB.out)) hb)
      clear HO142
      clear HB
      have HO142 := n0_
      have HO139 := n1_
      have HB := n2_
      clear n0_ n1_ n2_
      clear hb ho8
      refine hK.out _ _ trivial (fun hHeld => ?_)
      clear hK K
      refine norm_ (a' := ?_) ?_ ?_
      rotate_left
      · show Act.put _ (some 9) _ = _
        simp only [Act.put, List.setIfInBounds_toArray, List.set_cons_zero, List.set_cons_succ, i64_w, i32_w]
        rfl
      refine pure_ (i := 6) (N := some 3) (v := ?_) (a' := ?_) #[true, true, true, true, true, true, true, false] rfl rfl (any_of HT_.out (by kernel_rfl)) (fun _ _ _ h => h) (Or.inl ⟨by rfl, ?_⟩) ?_ ?_
      rotate_left
      · intro w'
        go_simp
        with_reducible rfl
      rotate_left
      · simp only [Act.put, List.setIfInBounds_toArray, List.set_cons_zero, List.set_cons_succ, i64_w, i32_w]
        rfl
      exact norm_ (by simp only [putAll, Act.put, List.setIfInBounds_toArray, List.set_cons_zero, List.set_cons_succ]) (hCont (v138, v141) _ ⟨(by (with_reducible repeat (first | apply Kd.R_alloc | apply Kd.R_drewN | apply Kd.R_drew)); exact Kd.R_mono HO139.out (fun _ hk => hk.2)), (by (with_reducible repeat (first | apply Kd.R_alloc | apply Kd.R_drewN | apply Kd.R_drew)); exact Kd.R_mono HO142.out (fun _ hk => hk.2)), (by repeat (first | (with_reducible first | exact HB.out | apply below_alloc | apply pw_below_drewN | apply below_drew1) | exact HB.out))⟩)
  rintro ⟨v138, v141⟩ w9 ⟨h0_, h1_, h2_⟩
  have n0_ : Aside0 (Kd.R (Kd.int .i64) 3 w9 w.heap.size (fun k_ => some k_ ≠ (v141 : Value).ownBlock) v138 y137) := ⟨h0_⟩
  have n1_ : Aside0 (Kd.R (Kd.int .i64) 3 w9 w.heap.size (fun k_ => some k_ ≠ (v138 : Value).ownBlock) v141 y140) := ⟨h1_⟩
  have n2_ : Aside0 (Below w.heap.size w w9) := ⟨h2_⟩
  clear HB
  clear h0_ h1_ h2_
  have HO139 := n0_
  have HO142 := n1_
  have HB := n2_
  clear n0_ n1_ n2_
  have hHeld := trivial
  refine norm_ (a' := ?_) ?_ ?_
  rotate_left
  · simp only [putAll, Act.put, List.setIfInBounds_toArray, List.set_cons_zero, List.set_cons_succ]
    rfl
  refine pure_ (i := 7) (N := some 4) (v := ?_) (a' := ?_) #[true, true, true, true, true, true, true, true] rfl rfl (any_of HT_.out (by kernel_rfl)) (fun _ _ _ h => h) (Or.inl ⟨by rfl, ?_⟩) ?_ ?_
  rotate_left
  · intro w'
    go_simp
    with_reducible rfl
  rotate_left
  · simp only [Act.put, List.setIfInBounds_toArray, List.set_cons_zero, List.set_cons_succ, i64_w, i32_w]
    rfl
  refine done_ (done_of HT_.out (by kernel_rfl)) ?_
  try go_wp2
  go_loopg [15] k (fun kq v15 w' => ∃ (x3_1 : List Int) (x4_1 : List Int) (x15_1 : Int), v15 = .int .i64 x15_1 ∧ Aside0 (order_Of.l0 kq x3_1 x4_1 l0 (l0.length : Int) x15_1 = some r) ∧ Aside0 (kq ≤ k) ∧ Aside0 (Kd.R (Kd.int .i64) 3 w' w.heap.size (fun k_ => some k_ ≠ (v141 : Value).ownBlock) v138 x3_1) ∧ Aside0 (Kd.R (Kd.int .i64) 3 w' w.heap.size (fun k_ => some k_ ≠ (v138 : Value).ownBlock) v141 x4_1) ∧ Aside0 (Below w.heap.size w w'))
  case atStart => exact ⟨(y137), (y140), (0), (by first | rfl | (simp; done) | (simp [*]; done)), H', ⟨Nat.le_refl _⟩, ⟨by (with_reducible repeat (first | apply Kd.R_alloc | apply Kd.R_drewN | apply Kd.R_drew)); exact HO139.out⟩, ⟨by (with_reducible repeat (first | apply Kd.R_alloc | apply Kd.R_drewN | apply Kd.R_drew)); exact HO142.out⟩, ⟨by repeat (first | (with_reducible first | exact HB.out | apply below_alloc | apply pw_below_drewN | apply below_drew1) | exact HB.out)⟩⟩
  case round =>
    clear H'
    try clear c1
    try clear c2
    try clear c2b0
    try clear c2b1
    try clear p2
    try clear c3
    try clear c3b0
    try clear c3b1
    obtain ⟨x3_1, x4_1, x15_1, rfl, HA, HK1, HO_3, HO_4, HB⟩ := hrel
    cases gk with
    | zero => exact absurd HA.out (by simp [order_Of.l0])
    | succ k1 =>
      have H := HA.out
      clear HA
      simp only [order_Of.l0] at H
      by_cases c10 : x15_1 < (l0.length : Int)
      rotate_left
      · rw [if_neg c10] at H
        have c10b0 : decide (x15_1 < (l0.length : Int)) = false := decide_eq_false c10
        clear c10
        replace H := Option.bind_eq_some_iff.mp H
        obtain ⟨t146, A230, H⟩ := H
        replace H : (some t146) = some r := H
        have A23 := Aside0.mk A230
        clear A230
        obtain rfl := Option.some.inj H
        obtain ⟨Ao24, co24, eo24⟩ := Kd.R_slice HO_4.out
        subst eo24
        obtain ⟨Ao25, co25, eo25⟩ := Kd.R_slice HO_3.out
        subst eo25
        go_wp2_with (first | ((with_reducible refine gate_callee (f := 20) rfl ?_); refine goesL_ (some 33) rfl rfl Try.func20 (by kernel_rfl) rfl #[.slice Ao24 x4_1.length co24, .slice Ao25 x3_1.length co25, .int .i64 0] rfl (by (try simp only [List.map_toArray, List.map_cons, List.map_nil]); first | done | rfl | (simp only [List.length_drop, List.length_take]; rfl)) ?_; (with_reducible refine (order_row.calls k1 _ _ x4_1 _ _ x3_1 0 t146 _ ?side1 ?side2 ?side3 ?side4 A23.out).mono ?_); (case side1 => repeat (first | exact (Kd.R_reads' HO_4.out).2.2 | (with_reducible refine Kd.C_alloc ?_ _) | (with_reducible refine Kd.C_drewN ?_ _) | (with_reducible refine Kd.C_drew ?_))); (case side2 => exact (Kd.R_reads' HO_4.out).2.1); (case side3 => repeat (first | exact (Kd.R_reads' HO_3.out).2.2 | (with_reducible refine Kd.C_alloc ?_ _) | (with_reducible refine Kd.C_drewN ?_ _) | (with_reducible refine Kd.C_drew ?_))); (case side4 => exact (Kd.R_reads' HO_3.out).2.1); rintro e w26 ⟨v147, rfl, ho0, hb⟩; refine ⟨_, rfl, ?_⟩; have n0_ := Aside0.mk (Kd.R_elder' (by (with_reducible repeat (first | apply Kd.R_alloc | apply Kd.R_drewN | apply Kd.R_drew)); exact HO_3.out) (Kd.R_base ho0) hb); have n1_ := Aside0.mk (Kd.R_elder' (by (with_reducible repeat (first | apply Kd.R_alloc | apply Kd.R_drewN | apply Kd.R_drew)); exact HO_4.out) (Kd.R_base ho0) hb); have n2_ := Aside0.mk (Kd.R_lower (Kd.R_new' (Kd.R_new' ho0 (Kd.R_lt (by (with_reducible repeat (first | apply Kd.R_alloc | apply Kd.R_drewN | apply Kd.R_drew)); exact HO_3.out))) (Kd.R_lt (by (with_reducible repeat (first | apply Kd.R_alloc | apply Kd.R_drewN | apply Kd.R_drew)); exact HO_4.out))) (below_size (by repeat (first | (with_reducible first | exact HB.out | apply below_alloc | apply pw_below_drewN | apply below_drew1) | exact HB.out)))); have n3_ := Aside0.mk (below_step (by repeat (first | (with_reducible first | exact HB.out | apply below_alloc | apply pw_below_drewN | apply below_drew1) | exact HB.out)) hb); clear HO_3; clear HO_4; clear HB; have HO_3 := n0_; have HO_4 := n1_; have HO148 := n2_; have HB := n3_; clear n0_ n1_ n2_ n3_; (try clear hb); (try clear hb2); (try clear hk); (try clear hi); (try clear ho0)))
        go_ret
        exact ⟨_, by first | rfl | (simp [errW_none, errW_some] <;> rfl) | (simp [*, errW_none, errW_some] <;> rfl), by (with_reducible repeat (first | apply Kd.R_alloc | apply Kd.R_drewN | apply Kd.R_drew)); exact Kd.R_mono HO148.out (fun _ hk => trivial), by repeat (first | (with_reducible first | exact HB.out | apply below_alloc | apply pw_below_drewN | apply below_drew1) | exact HB.out)⟩
      rw [if_pos c10] at H
      have c10b0 : decide (x15_1 < (l0.length : Int)) = true := decide_eq_true c10
      clear c10
      by_cases c11 : 0 ≤ x15_1
      rotate_left
      · rw [if_neg c11] at H
        exact absurd H (by simp)
      rw [if_pos c11] at H
      have c11b0 : decide (0 ≤ x15_1) = true := decide_eq_true c11
      clear c11
      by_cases c12 : x15_1 < (l0.length : Int)
      rotate_left
      · rw [if_neg c12] at H
        exact absurd H (by simp)
      rw [if_pos c12] at H
      have c12b0 : decide (x15_1 < (l0.length : Int)) = true := decide_eq_true c12
      clear c12
      obtain ⟨ji13, hji13⟩ : ∃ j_ : Int, (mx 0 (rd l0 x15_1)) = j_ := ⟨_, rfl⟩
      replace H : (if x15_1 < (x3_1.length : Int) then (if x15_1 < (x4_1.length : Int) then (order_Of.l0 k1 (x3_1.set (x15_1 : Int).toNat x15_1) (x4_1.set (x15_1 : Int).toNat (mn 127 (ji13))) l0 (l0.length : Int) (wrap64 (x15_1 + 1))) else (none)) else (none)) = some r := by first | (rw [hji13] at H; exact H) | (simp only [hji13] at H ⊢; exact H)
      have hji13_ : (if 0 < (rd l0 x15_1) then (rd l0 x15_1) else 0) = ji13 := hji13
      obtain ⟨ji14, hji14⟩ : ∃ j_ : Int, (mn 127 (ji13)) = j_ := ⟨_, rfl⟩
      replace H : (if x15_1 < (x3_1.length : Int) then (if x15_1 < (x4_1.length : Int) then (order_Of.l0 k1 (x3_1.set (x15_1 : Int).toNat x15_1) (x4_1.set (x15_1 : Int).toNat (ji14)) l0 (l0.length : Int) (wrap64 (x15_1 + 1))) else (none)) else (none)) = some r := by first | (rw [hji14] at H; exact H) | (simp only [hji14] at H ⊢; exact H)
      have hji14_ : (if (ji13) < 127 then (ji13) else 127) = ji14 := hji14
      by_cases c15 : x15_1 < (x3_1.length : Int)
      rotate_left
      · rw [if_neg c15] at H
        exact absurd H (by simp)
      rw [if_pos c15] at H
      have c15b0 : decide (x15_1 < (x3_1.length : Int)) = true := decide_eq_true c15
      clear c15
      obtain ⟨y144, hy144⟩ : ∃ y_ : List Int, y_ = (x3_1.set (x15_1 : Int).toNat x15_1) := ⟨_, rfl⟩
      replace H : (if x15_1 < (x4_1.length : Int) then (order_Of.l0 k1 y144 (x4_1.set (x15_1 : Int).toNat (ji14)) l0 (l0.length : Int) (wrap64 (x15_1 + 1))) else (none)) = some r := by first | (rw [hy144]; with_reducible exact H) | (have H2_ := (Option.bind_some _ _).symm.trans H; rw [hy144]; with_reducible exact H2_) | (have H2_ := (Option.bind_some _ _).symm.trans H; with_reducible exact H2_) | with_reducible exact H | (rw [hy144]; exact H) | exact H
      have Ny144 := Aside0.mk hy144
      clear hy144
      by_cases c17 : x15_1 < (x4_1.length : Int)
      rotate_left
      · rw [if_neg c17] at H
        exact absurd H (by simp)
      rw [if_pos c17] at H
      have c17b0 : decide (x15_1 < (x4_1.length : Int)) = true := decide_eq_true c17
      clear c17
      obtain ⟨y145, hy145⟩ : ∃ y_ : List Int, y_ = (x4_1.set (x15_1 : Int).toNat (ji14)) := ⟨_, rfl⟩
      replace H : (order_Of.l0 k1 y144 y145 l0 (l0.length : Int) (wrap64 (x15_1 + 1))) = some r := by first | (rw [hy145]; with_reducible exact H) | (have H2_ := (Option.bind_some _ _).symm.trans H; rw [hy145]; with_reducible exact H2_) | (have H2_ := (Option.bind_some _ _).symm.trans H; with_reducible exact H2_) | with_reducible exact H | (rw [hy145]; exact H) | exact H
      have Ny145 := Aside0.mk hy145
      clear hy145
      have H' := Aside0.mk H
      clear H
      have p143 : 0 ≤ (x15_1 : Int) := of_decide_eq_true (by first | (with_reducible assumption) | assumption)
      have q143 : x15_1 < (l0.length : Int) := of_decide_eq_true (by first | (with_reducible assumption) | assumption)
      obtain ⟨ad143, e143, hx143_0⟩ := Kd.at_int HR0.out x15_1 p143 q143
      cases e143
      replace hx143_0 := (HB.out.cell (World.block_lt_of_cell? w _ hx143_0)).trans hx143_0
      replace p143 := eq_true p143
      replace q143 := eq_true q143
      have p16 : 0 ≤ (x15_1 : Int) := of_decide_eq_true (by first | (with_reducible assumption) | assumption)
      have q16 : (x15_1 : Int) < ((x3_1.length : Int) : Int) := of_decide_eq_true (by first | (with_reducible assumption) | assumption)
      obtain ⟨go16, co16, eo16, gb16, gl16, cl16, HG16⟩ := Kd.R_form HO_3.out (by omega)
      (first | cases eo16 | (injection eo16 with ea_ en_ ec_; (first | subst ea_ | (injection ea_ with ea_; subst ea_)); subst ec_; clear en_))
      have GB16 := Aside0.mk gb16
      have GG16 := Aside0.mk HG16
      clear gb16 gl16 HG16
      obtain ⟨hx16_0, hf16_0⟩ := Kd.R_celln 0 HO_3.out (x15_1 : Int) p16 q16
      replace p16 := eq_true p16
      replace q16 := eq_true q16
      have HP19 := Kd.R_putg HO_3.out (x15_1 : Int) x15_1
      go_wp2_with (first | ((with_reducible refine gate_store (t := 3) (p := 28) rfl ?_); refine store_event (t := 3) (p := 28) (v := ?vo_w20) (w1 := (wr.setCell ⟨go16, (x15_1 : Int).toNat, none⟩ (.int .i64 x15_1))) ?hg ?ho ?hn ?hr ?_; (case ho => rfl); (case hg => rfl); (case hn => rfl); (case hr => first | (go_simp; done) | (go_simp; rfl)); intro w20 hw; have hg : wr.grownBy w20 (some go16) := (by rw [hw]; exact HP19.2); have hp_ : Kd.R (Kd.int .i64) 3 w20 w.heap.size (fun k_ => some k_ ≠ (v141 : Value).ownBlock) (.slice (some ⟨go16, 0, none⟩) x3_1.length co16) y144 := (by rw [hw, Ny144.out]; exact HP19.1); clear HP19; have n0_ := Aside0.mk (hp_); have n1_ := Aside0.mk (Kd.R_after (v := (.slice (some ⟨go16, 0, none⟩) x3_1.length co16)) (v1 := (.slice (some ⟨go16, 0, none⟩) x3_1.length co16)) (ok := (fun _ => True)) (by (with_reducible repeat (first | apply Kd.R_alloc | apply Kd.R_drewN | apply Kd.R_drew)); exact Kd.R_mono HO_4.out (fun _ hk => ⟨trivial, hk⟩)) hg (.inl rfl)); have n2_ := Aside0.mk ((by rw [hw]; exact below_set (HB.out) GB16.out : Below w.heap.size w w20)); clear HO_3; clear HO_4; clear HB; have HO_3 := n0_; have HO_4 := n1_; have HB := n2_; clear n0_ n1_ n2_; clear hg hw hp_; have p18 : 0 ≤ (x15_1 : Int) := of_decide_eq_true (by first | (with_reducible assumption) | assumption); have q18 : (x15_1 : Int) < ((x4_1.length : Int) : Int) := of_decide_eq_true (by first | (with_reducible assumption) | assumption); obtain ⟨go18, co18, eo18, gb18, gl18, cl18, HG18⟩ := Kd.R_form HO_4.out (by omega); (first | cases eo18 | (injection eo18 with ea_ en_ ec_; (first | subst ea_ | (injection ea_ with ea_; subst ea_)); subst ec_; clear en_)); have GB18 := Aside0.mk gb18; have GG18 := Aside0.mk HG18; clear gb18 gl18 HG18; obtain ⟨hx18_0, hf18_0⟩ := Kd.R_celln 0 HO_4.out (x15_1 : Int) p18 q18; replace p18 := eq_true p18; replace q18 := eq_true q18; have n_ := Aside0.mk (Kd.R_mono (ok' := (fun k_ => some k_ ≠ (.slice (some ⟨go16, 0, none⟩) x3_1.length co16 : Value).ownBlock)) HO_4.out (fun k_ hk => hk.2)); clear HO_4; have HO_4 := n_; clear n_; obtain ⟨hy21_, hz21_⟩ := Kd.R_celln 0 HO_4.out (x15_1 : Int) (of_decide_eq_true (by first | (with_reducible assumption) | assumption)) (of_decide_eq_true (by first | (with_reducible assumption) | assumption)); have HP21 := Kd.R_putg HO_4.out (x15_1 : Int) ji14) | ((with_reducible refine gate_store (t := 3) (p := 29) rfl ?_); refine store_event (t := 3) (p := 29) (v := ?vo_w22) (w1 := (w20.setCell ⟨go18, (x15_1 : Int).toNat, none⟩ (.int .i64 ji14))) ?hg ?ho ?hn ?hr ?_; (case ho => rfl); (case hg => rfl); (case hn => rfl); (case hr => first | (go_simp; done) | (go_simp; rfl)); intro w22 hw; have hg : w20.grownBy w22 (some go18) := (by rw [hw]; exact HP21.2); have hp_ : Kd.R (Kd.int .i64) 3 w22 w.heap.size (fun k_ => some k_ ≠ (.slice (some ⟨go16, 0, none⟩) x3_1.length co16 : Value).ownBlock) (.slice (some ⟨go18, 0, none⟩) x4_1.length co18) y145 := (by rw [hw, Ny145.out]; exact HP21.1); clear HP21; have n0_ := Aside0.mk (Kd.R_after (v := (.slice (some ⟨go18, 0, none⟩) x4_1.length co18)) (v1 := (.slice (some ⟨go18, 0, none⟩) x4_1.length co18)) (ok := (fun _ => True)) (by (with_reducible repeat (first | apply Kd.R_alloc | apply Kd.R_drewN | apply Kd.R_drew)); exact Kd.R_mono HO_3.out (fun _ hk => ⟨trivial, hk⟩)) hg (.inl rfl)); have n1_ := Aside0.mk (hp_); have n2_ := Aside0.mk ((by rw [hw]; exact below_set (HB.out) GB18.out : Below w.heap.size w w22)); clear HO_3; clear HO_4; clear HB; have HO_3 := n0_; have HO_4 := n1_; have HB := n2_; clear n0_ n1_ n2_; clear hg hw hp_))
      go_roundg k1
      case measure => have := HK1.out; omega
      case rel => exact ⟨(y144), (y145), (wrap64 (x15_1 + 1)), (by first | rfl | (simp; done) | (simp [*]; done)), H', ⟨by have := HK1.out; omega⟩, ⟨by (with_reducible repeat (first | apply Kd.R_alloc | apply Kd.R_drewN | apply Kd.R_drew)); exact Kd.R_mono HO_3.out (fun _ hk => hk.2)⟩, ⟨by (with_reducible repeat (first | apply Kd.R_alloc | apply Kd.R_drewN | apply Kd.R_drew)); exact HO_4.out⟩, ⟨by repeat (first | (with_reducible first | exact HB.out | apply below_alloc | apply pw_below_drewN | apply below_drew1) | exact HB.out)⟩⟩

-- NOT PRINTED: function 29 (pair_brackets)

end Go.Proofs.Ytcmcajjdcbkfkaa.P
