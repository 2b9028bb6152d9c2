/- Printed by a program of this claim's own over the translation: Lean functions of the Go functions, each with its proof; no condition beyond those written. -/
import Derived.Test.YtmjipbmpapcboaaPx0
import Derived.Test.YtmjipbmpapcboaaPx9
import Derived.Test.YtmjipbmpapcboaaSOf
namespace Go.Proofs.Ytmjipbmpapcboaa.P
open Go.RowKit Go.Proofs.YtmjipbmpapcboaaW.PrintWords Go.Proofs.YtmjipbmpapcboaaW.PrintLast Go.Proofs.YtmjipbmpapcboaaW.PrintMore
attribute [local go_sem] max2_int min2_int max_two min_two max_three min_three max_four min_four   -- for this text's walks alone
set_option linter.unusedVariables false
set_option linter.unusedSimpArgs false

/-! ### ductusref13_Levels: function 19 -/
mutual
def ductusref13_Levels.j0 : Nat → List Int → List Int → Int → Bool → Int → Int → Option (List Int)
  | 0, _, _, _, _, _, _ => none
  | k + 1, x0, x1, x2, x35, x242000, x242001 => if x35 = true then (some ([] : List Int)) else ((some (([] : List Int) : List Int)).bind fun y242 => (if 0 ≤ x242000 then (if x242000 ≤ x242001 then (if x242001 ≤ (x1.length : Int) then (if y242.length + ((x1.take (x242001 : Int).toNat).drop (x242000 : Int).toNat).length < 17592186044416 then (ductusref13_Levels.l0 k x0 x2 (y242 ++ ((x1.take (x242001 : Int).toNat).drop (x242000 : Int).toNat)) 0 x242000 x242001) else (none)) else (none)) else (none)) else (none)))
def ductusref13_Levels.l0 : Nat → List Int → Int → List Int → Int → Int → Int → Option (List Int)
  | 0, _, _, _, _, _, _ => none
  | k + 1, x0, x2, x9, x10, x242000, x242001 => if x10 < (x9.length : Int) then (ductusref13_Levels.l1 k x0 x2 x9 x10 (wrap64 (x242000 + x10)) x242000 x242001) else (some x9)
def ductusref13_Levels.j3 : Nat → List Int → Int → List Int → Int → Int → Int → Int → Option (List Int)
  | 0, _, _, _, _, _, _, _ => none
  | k + 1, x0, x2, x9, x10, x11, x242000, x242001 => if x11 = x242001 then (if 0 ≤ x10 then (if x10 < (x9.length : Int) then (ductusref13_Levels.l0 k x0 x2 (x9.set (x10 : Int).toNat x2) (wrap64 (x10 + 1)) x242000 x242001) else (none)) else (none)) else (if 0 ≤ x11 then (if x11 < (x0.length : Int) then ((ductusref02_Of.f (rd x0 x11)).bind fun t254 => (if t254 = 11 then (if 0 ≤ x10 then (if x10 < (x9.length : Int) then (ductusref13_Levels.l0 k x0 x2 (x9.set (x10 : Int).toNat x2) (wrap64 (x10 + 1)) x242000 x242001) else (none)) else (none)) else ((ductusref02_Of.f (rd x0 x11)).bind fun t257 => (if t257 = 10 then (if 0 ≤ x10 then (if x10 < (x9.length : Int) then (ductusref13_Levels.l0 k x0 x2 (x9.set (x10 : Int).toNat x2) (wrap64 (x10 + 1)) x242000 x242001) else (none)) else (none)) else (ductusref13_Levels.l0 k x0 x2 x9 (wrap64 (x10 + 1)) x242000 x242001))))) else (none)) else (none))
def ductusref13_Levels.l1 : Nat → List Int → Int → List Int → Int → Int → Int → Int → Option (List Int)
  | 0, _, _, _, _, _, _, _ => none
  | k + 1, x0, x2, x9, x10, x11, x242000, x242001 => if x11 < x242001 then (if 0 ≤ x11 then (if x11 < (x0.length : Int) then ((ductusref02_Of.f (rd x0 x11)).bind fun t250 => ((ductusref13_light.f t250).bind fun t251 => (if t251 = true then (ductusref13_Levels.l1 k x0 x2 x9 x10 (wrap64 (x11 + 1)) x242000 x242001) else (ductusref13_Levels.j3 k x0 x2 x9 x10 x11 x242000 x242001)))) else (none)) else (none)) else (ductusref13_Levels.j3 k x0 x2 x9 x10 x11 x242000 x242001)
end
def ductusref13_Levels.f (k : Nat) (l0 : List Int) (l1 : List Int) (a2 : Int) (a3_0 : Int) (a3_1 : Int) : Option (List Int) := if (l0.length : Int) = (l1.length : Int) then (if a3_0 < 0 then (ductusref13_Levels.j0 k l0 l1 a2 true a3_0 a3_1) else (if a3_1 > (l0.length : Int) then (ductusref13_Levels.j0 k l0 l1 a2 true a3_0 a3_1) else (ductusref13_Levels.j0 k l0 l1 a2 (decide (a3_0 > a3_1)) a3_0 a3_1))) else (ductusref13_Levels.j0 k l0 l1 a2 true a3_0 a3_1)
theorem ductusref13_Levels.mono_l : ∀ k, (∀ y0 y1 y2 y3 y4 y5, LeO (ductusref13_Levels.j0 k y0 y1 y2 y3 y4 y5) (ductusref13_Levels.j0 (k + 1) y0 y1 y2 y3 y4 y5)) ∧ (∀ y0 y1 y2 y3 y4 y5, LeO (ductusref13_Levels.l0 k y0 y1 y2 y3 y4 y5) (ductusref13_Levels.l0 (k + 1) y0 y1 y2 y3 y4 y5)) ∧ (∀ y0 y1 y2 y3 y4 y5 y6, LeO (ductusref13_Levels.j3 k y0 y1 y2 y3 y4 y5 y6) (ductusref13_Levels.j3 (k + 1) y0 y1 y2 y3 y4 y5 y6)) ∧ (∀ y0 y1 y2 y3 y4 y5 y6, LeO (ductusref13_Levels.l1 k y0 y1 y2 y3 y4 y5 y6) (ductusref13_Levels.l1 (k + 1) y0 y1 y2 y3 y4 y5 y6))
  | 0 => ⟨fun _ _ _ _ _ _ r h => by simp [ductusref13_Levels.j0] at h, fun _ _ _ _ _ _ r h => by simp [ductusref13_Levels.l0] at h, fun _ _ _ _ _ _ _ r h => by simp [ductusref13_Levels.j3] at h, fun _ _ _ _ _ _ _ r h => by simp [ductusref13_Levels.l1] at h⟩
  | k + 1 => by
    obtain ⟨ih0, ih1, ih2, ih3⟩ := ductusref13_Levels.mono_l k
    refine ⟨?_, ?_, ?_, ?_⟩
    · intro y0 y1 y2 y3 y4 y5
      unfold ductusref13_Levels.j0
      repeat' first
      | (with_reducible exact ih0 _ _ _ _ _ _)
      | (with_reducible exact ih1 _ _ _ _ _ _)
      | (with_reducible exact ih2 _ _ _ _ _ _ _)
      | (with_reducible exact ih3 _ _ _ _ _ _ _)
      | (with_reducible exact LeO.refl _)
      | (with_reducible exact LeO.none _)
      | (with_reducible refine LeO.ite ?_ ?_)
      | (with_reducible refine LeO.bind ?_ (fun _ => ?_))
      | exact ih0 _ _ _ _ _ _
      | exact ih1 _ _ _ _ _ _
      | exact ih2 _ _ _ _ _ _ _
      | exact ih3 _ _ _ _ _ _ _
      | exact LeO.none _
      | refine LeO.ite ?_ ?_
      | refine LeO.bind ?_ (fun _ => ?_)
    · intro y0 y1 y2 y3 y4 y5
      unfold ductusref13_Levels.l0
      repeat' first
      | (with_reducible exact ih0 _ _ _ _ _ _)
      | (with_reducible exact ih1 _ _ _ _ _ _)
      | (with_reducible exact ih2 _ _ _ _ _ _ _)
      | (with_reducible exact ih3 _ _ _ _ _ _ _)
      | (with_reducible exact LeO.refl _)
      | (with_reducible exact LeO.none _)
      | (with_reducible refine LeO.ite ?_ ?_)
      | (with_reducible refine LeO.bind ?_ (fun _ => ?_))
      | exact ih0 _ _ _ _ _ _
      | exact ih1 _ _ _ _ _ _
      | exact ih2 _ _ _ _ _ _ _
      | exact ih3 _ _ _ _ _ _ _
      | exact LeO.none _
      | refine LeO.ite ?_ ?_
      | refine LeO.bind ?_ (fun _ => ?_)
    · intro y0 y1 y2 y3 y4 y5 y6
      unfold ductusref13_Levels.j3
      repeat' first
      | (with_reducible exact ih0 _ _ _ _ _ _)
      | (with_reducible exact ih1 _ _ _ _ _ _)
      | (with_reducible exact ih2 _ _ _ _ _ _ _)
      | (with_reducible exact ih3 _ _ _ _ _ _ _)
      | (with_reducible exact LeO.refl _)
      | (with_reducible exact LeO.none _)
      | (with_reducible refine LeO.ite ?_ ?_)
      | (with_reducible refine LeO.bind ?_ (fun _ => ?_))
      | exact ih0 _ _ _ _ _ _
      | exact ih1 _ _ _ _ _ _
      | exact ih2 _ _ _ _ _ _ _
      | exact ih3 _ _ _ _ _ _ _
      | exact LeO.none _
      | refine LeO.ite ?_ ?_
      | refine LeO.bind ?_ (fun _ => ?_)
    · intro y0 y1 y2 y3 y4 y5 y6
      unfold ductusref13_Levels.l1
      repeat' first
      | (with_reducible exact ih0 _ _ _ _ _ _)
      | (with_reducible exact ih1 _ _ _ _ _ _)
      | (with_reducible exact ih2 _ _ _ _ _ _ _)
      | (with_reducible exact ih3 _ _ _ _ _ _ _)
      | (with_reducible exact LeO.refl _)
      | (with_reducible exact LeO.none _)
      | (with_reducible refine LeO.ite ?_ ?_)
      | (with_reducible refine LeO.bind ?_ (fun _ => ?_))
      | exact ih0 _ _ _ _ _ _
      | exact ih1 _ _ _ _ _ _
      | exact ih2 _ _ _ _ _ _ _
      | exact ih3 _ _ _ _ _ _ _
      | exact LeO.none _
      | refine LeO.ite ?_ ?_
      | refine LeO.bind ?_ (fun _ => ?_)
theorem ductusref13_Levels.mono : ∀ a0 a1 a2 a3 a4 k, LeO (ductusref13_Levels.f k a0 a1 a2 a3 a4) (ductusref13_Levels.f (k + 1) a0 a1 a2 a3 a4) := by
  intro a0 a1 a2 a3 a4 k
  obtain ⟨ih0, ih1, ih2, ih3⟩ := ductusref13_Levels.mono_l k
  unfold ductusref13_Levels.f
  repeat' first
      | (with_reducible exact ih0 _ _ _ _ _ _)
      | (with_reducible exact ih1 _ _ _ _ _ _)
      | (with_reducible exact ih2 _ _ _ _ _ _ _)
      | (with_reducible exact ih3 _ _ _ _ _ _ _)
      | (with_reducible exact LeO.refl _)
      | (with_reducible exact LeO.none _)
      | (with_reducible refine LeO.ite ?_ ?_)
      | (with_reducible refine LeO.bind ?_ (fun _ => ?_))
      | exact ih0 _ _ _ _ _ _
      | exact ih1 _ _ _ _ _ _
      | exact ih2 _ _ _ _ _ _ _
      | exact ih3 _ _ _ _ _ _ _
      | exact LeO.none _
      | refine LeO.ite ?_ ?_
      | refine LeO.bind ?_ (fun _ => ?_)
set_option maxHeartbeats 8000000 in
set_option maxRecDepth 100000 in
theorem ductusref13_Levels.calls (k : Nat) (A0 : Option Addr) (c0 : Nat) (l0 : List Int) (A1 : Option Addr) (c1 : Nat) (l1 : List Int) (a2 : Int) (a3_0 : Int) (a3_1 : Int) (r : List Int) (w : World) (hr0 : Kd.C (Kd.int .i64) w A0 l0.length l0) (hc0 : l0.length ≤ c0) (hr1 : Kd.C (Kd.int .i64) w A1 l1.length l1) (hc1 : l1.length ≤ c1) (h : ductusref13_Levels.f k l0 l1 a2 a3_0 a3_1 = some r) :
    Calls Try.prog 19 #[.slice A0 l0.length c0, .slice A1 l1.length c1, .int .i64 a2, .agg #[.int .i64 a3_0, .int .i64 a3_1]] w fun e w' => ∃ v0_ : Value, e = .returned (v0_) ∧ Kd.R (Kd.int .i64) 3 w' w.heap.size (fun _ => True) v0_ r ∧ Below w.heap.size w w' := by
  have hu29 := Try.underlying29
  have HR0 := Aside0.mk hr0
  have HC0 := Aside0.mk hc0
  clear hr0 hc0
  have HR1 := Aside0.mk hr1
  have HC1 := Aside0.mk hc1
  clear hr1 hc1
  have HB := Aside0.mk (Below.refl w.heap.size w)
  have H : (if (l0.length : Int) = (l1.length : Int) then (if a3_0 < 0 then (ductusref13_Levels.j0 k l0 l1 a2 true a3_0 a3_1) else (if a3_1 > (l0.length : Int) then (ductusref13_Levels.j0 k l0 l1 a2 true a3_0 a3_1) else (ductusref13_Levels.j0 k l0 l1 a2 (decide (a3_0 > a3_1)) a3_0 a3_1))) else (ductusref13_Levels.j0 k l0 l1 a2 true a3_0 a3_1)) = some r := h
  clear h
  have HC5 := Aside0.mk H
  clear H
  go_enter Try.func19, Try.ntmps19
  go_upto_region 1 with (first | ((with_reducible refine gate_dst (N := 7) rfl ?_); (try (refine gate_guard (by rfl) ?_; dsimp only)); refine box_event ?hg (N := 7) ?hd (cs := #[.int .i64 a3_0, .int .i64 a3_1]) (t := 29) ?hr ?_; (case hd => rfl); (case hg => rfl); (case hr => first | (go_simp; done) | (go_simp; rfl)); intro gb241 hg w6 hbox hb; have n0_ := Aside0.mk (below_step (by repeat (first | (with_reducible first | exact HB.out | apply below_alloc | apply pw_below_drewN | apply below_drew1) | exact HB.out)) hb); have n1_ := Aside0.mk (hbox); have n2_ := Aside0.mk ((by rw [hg]; exact (below_size (by repeat (first | (with_reducible first | exact HB.out | apply below_alloc | apply pw_below_drewN | apply below_drew1) | exact HB.out))) : w.heap.size ≤ gb241)); have n3_ := Aside0.mk ((by rw [hg]; exact (below_size (by repeat (first | (with_reducible first | exact HB.out | apply below_alloc | apply pw_below_drewN | apply below_drew1) | exact HB.out))) : w.heap.size ≤ gb241)); clear HB; have HB := n0_; have BK241 := n1_; have GW241 := n2_; have GE241 := n3_; clear n0_ n1_ n2_ n3_; clear hb hbox hg))
  (try simp only [Act.put, List.setIfInBounds_toArray, List.set_cons_zero, List.set_cons_succ])
  go_cut [35] (fun v35 wc => ∃ (kq : Nat) (x35_4 : Bool), v35 = .bool x35_4 ∧ Aside0 (ductusref13_Levels.j0 kq l0 l1 a2 x35_4 a3_0 a3_1 = some r) ∧ Aside0 (kq ≤ k) ∧ Aside0 (wc.heap[gb241]? = some (.cells #[.int .i64 a3_0, .int .i64 a3_1] 29 (0, 0))) ∧ Aside0 (Below w.heap.size w wc))
  case first =>
    have H := HC5.out
    clear HC5
    by_cases c7 : (l0.length : Int) = (l1.length : Int)
    rotate_left
    · rw [if_neg c7] at H
      have c7b0 : ((l0.length : Int) == (l1.length : Int)) = false := beq_eq_false_iff_ne.mpr c7
      have c7b1 : ((l0.length : Int) != (l1.length : Int)) = true := bne_iff_ne.mpr c7
      have c7b2 : (l0.length == l1.length) = false := by first | simpa using c7 | (simp at c7 ⊢; omega)
      (first | rw [c7b0] | (simp only [i64_w, i32_w]; rw [c7b0]) | skip)
      have H' := Aside0.mk H
      clear H
      go_wp2
      go_meet
      case rel => exact ⟨_, (true), (by first | rfl | (simp; done) | (simp [*]; done)), H', ⟨by first | omega | exact Nat.le_refl _⟩, ⟨by (with_reducible repeat (first | refine blk_drewN ?_ _ | refine blk_drew ?_ | refine blk_alloc ?_ _)); exact BK241.out⟩, ⟨by repeat (first | (with_reducible first | exact HB.out | apply below_alloc | apply pw_below_drewN | apply below_drew1 | refine below_set ?_ GE241.out) | exact HB.out)⟩⟩
    rw [if_pos c7] at H
    have c7b0 : ((l0.length : Int) == (l1.length : Int)) = true := beq_iff_eq.mpr c7
    have c7b1 : ((l0.length : Int) != (l1.length : Int)) = false := bne_eq_false_iff_eq.mpr c7
    have c7b2 : (l0.length == l1.length) = true := by first | simpa using c7 | (simp at c7 ⊢; omega)
    clear c7
    (first | rw [c7b0] | (simp only [i64_w, i32_w]; rw [c7b0]) | skip)
    by_cases c8 : a3_0 < 0
    · rw [if_pos c8] at H
      have c8b0 : decide (a3_0 < 0) = true := decide_eq_true c8
      clear c8
      have H' := Aside0.mk H
      clear H
      have hcz9_0 : w6.cell? ⟨gb241, 0, none⟩ = some (.int .i64 a3_0) := (blk_cell BK241.out 0).trans rfl
      have hcz9_1 : w6.cell? ⟨gb241, 1, none⟩ = some (.int .i64 a3_1) := (blk_cell BK241.out 1).trans rfl
      have hfz9_0 := blk_frozen BK241.out 0
      have hfz9_1 := blk_frozen BK241.out 1
      go_wp2
      go_meet
      case rel => exact ⟨_, (true), (by first | rfl | (simp; done) | (simp [*]; done)), H', ⟨by first | omega | exact Nat.le_refl _⟩, ⟨by (with_reducible repeat (first | refine blk_drewN ?_ _ | refine blk_drew ?_ | refine blk_alloc ?_ _)); exact BK241.out⟩, ⟨by repeat (first | (with_reducible first | exact HB.out | apply below_alloc | apply pw_below_drewN | apply below_drew1 | refine below_set ?_ GE241.out) | exact HB.out)⟩⟩
    rw [if_neg c8] at H
    have c8b0 : decide (a3_0 < 0) = false := decide_eq_false c8
    clear c8
    by_cases c10 : a3_1 > (l0.length : Int)
    · rw [if_pos c10] at H
      have c10b0 : decide ((l0.length : Int) < a3_1) = true := decide_eq_true c10
      clear c10
      have H' := Aside0.mk H
      clear H
      have hcz11_0 : w6.cell? ⟨gb241, 0, none⟩ = some (.int .i64 a3_0) := (blk_cell BK241.out 0).trans rfl
      have hcz11_1 : w6.cell? ⟨gb241, 1, none⟩ = some (.int .i64 a3_1) := (blk_cell BK241.out 1).trans rfl
      have hfz11_0 := blk_frozen BK241.out 0
      have hfz11_1 := blk_frozen BK241.out 1
      go_wp2
      go_meet
      case rel => exact ⟨_, (true), (by first | rfl | (simp; done) | (simp [*]; done)), H', ⟨by first | omega | exact Nat.le_refl _⟩, ⟨by (with_reducible repeat (first | refine blk_drewN ?_ _ | refine blk_drew ?_ | refine blk_alloc ?_ _)); exact BK241.out⟩, ⟨by repeat (first | (with_reducible first | exact HB.out | apply below_alloc | apply pw_below_drewN | apply below_drew1 | refine below_set ?_ GE241.out) | exact HB.out)⟩⟩
    rw [if_neg c10] at H
    have c10b0 : decide ((l0.length : Int) < a3_1) = false := decide_eq_false c10
    clear c10
    have H' := Aside0.mk H
    clear H
    have hcz12_0 : w6.cell? ⟨gb241, 0, none⟩ = some (.int .i64 a3_0) := (blk_cell BK241.out 0).trans rfl
    have hcz12_1 : w6.cell? ⟨gb241, 1, none⟩ = some (.int .i64 a3_1) := (blk_cell BK241.out 1).trans rfl
    have hfz12_0 := blk_frozen BK241.out 0
    have hfz12_1 := blk_frozen BK241.out 1
    go_wp2
    go_meet
    case rel => exact ⟨_, (decide (a3_0 > a3_1)), (by first | rfl | (simp; done) | (simp [*]; done)), H', ⟨by first | omega | exact Nat.le_refl _⟩, ⟨by (with_reducible repeat (first | refine blk_drewN ?_ _ | refine blk_drew ?_ | refine blk_alloc ?_ _)); exact BK241.out⟩, ⟨by repeat (first | (with_reducible first | exact HB.out | apply below_alloc | apply pw_below_drewN | apply below_drew1 | refine below_set ?_ GE241.out) | exact HB.out)⟩⟩
  case rest =>
    clear HC5
    try clear c1
    try clear p2
    try clear c7
    try clear c7b0
    try clear c7b1
    try clear c7b2
    try clear c8
    try clear c8b0
    try clear c10
    try clear c10b0
    try clear hcz11_0
    try clear hcz11_1
    try clear hcz12_0
    try clear hcz12_1
    try clear hcz9_0
    try clear hcz9_1
    try clear hfz11_0
    try clear hfz11_1
    try clear hfz12_0
    try clear hfz12_1
    try clear hfz9_0
    try clear hfz9_1
    obtain ⟨kq, x35_4, rfl, HA, HJ4, BK241, HB⟩ := hcut
    cases kq with
    | zero => exact absurd HA.out (by simp [ductusref13_Levels.j0])
    | succ kj4 =>
      have H := HA.out
      clear HA
      simp only [ductusref13_Levels.j0] at H
      by_cases c13 : x35_4 = true
      · subst c13
        have H1 : (some ([] : List Int)) = some r := by rw [if_pos rfl] at H; exact H
        clear H
        have H := H1
        clear H1
        obtain rfl := Option.some.inj H
        go_wp2
        go_ret
        exact ⟨_, by first | rfl | (simp [errW_none, errW_some] <;> rfl) | (simp [*, errW_none, errW_some] <;> rfl), by first | exact Kd.R_nil _ _ _ _ _ | exact Kd.N_nil _ _ _ _ _ | exact Kd.V_nil _ _ _ _ _ | exact Kd.Q_nil _ _ _ _ _ | exact Kd.S_nil _ _ _ _ _, by repeat (first | (with_reducible first | exact HB.out | apply below_alloc | apply pw_below_drewN | apply below_drew1 | refine below_set ?_ GE241.out) | exact HB.out)⟩
      replace c13 := Bool.eq_false_iff.mpr c13
      subst c13
      have H1 : ((some (([] : List Int) : List Int)).bind fun y242 => (if 0 ≤ a3_0 then (if a3_0 ≤ a3_1 then (if a3_1 ≤ (l1.length : Int) then (if y242.length + ((l1.take (a3_1 : Int).toNat).drop (a3_0 : Int).toNat).length < 17592186044416 then (ductusref13_Levels.l0 kj4 l0 a2 (y242 ++ ((l1.take (a3_1 : Int).toNat).drop (a3_0 : Int).toNat)) 0 a3_0 a3_1) else (none)) else (none)) else (none)) else (none))) = some r := by rw [if_neg (show ¬ (false = true) by decide)] at H; exact H
      clear H
      have H := H1
      clear H1
      obtain ⟨y242, hy242⟩ : ∃ y_ : List Int, y_ = (([] : List Int)) := ⟨_, rfl⟩
      replace H : (if 0 ≤ a3_0 then (if a3_0 ≤ a3_1 then (if a3_1 ≤ (l1.length : Int) then (if y242.length + ((l1.take (a3_1 : Int).toNat).drop (a3_0 : Int).toNat).length < 17592186044416 then (ductusref13_Levels.l0 kj4 l0 a2 (y242 ++ ((l1.take (a3_1 : Int).toNat).drop (a3_0 : Int).toNat)) 0 a3_0 a3_1) else (none)) else (none)) else (none)) else (none)) = some r := by first | (rw [hy242]; with_reducible exact H) | (have H2_ := (Option.bind_some _ _).symm.trans H; rw [hy242]; with_reducible exact H2_) | (have H2_ := (Option.bind_some _ _).symm.trans H; with_reducible exact H2_) | with_reducible exact H | (rw [hy242]; exact H) | exact H
      have Ny242 := Aside0.mk hy242
      clear hy242
      by_cases c14 : 0 ≤ a3_0
      rotate_left
      · rw [if_neg c14] at H
        exact absurd H (by simp)
      rw [if_pos c14] at H
      have c14b0 := eq_true c14
      have c14b1 : decide (0 ≤ a3_0) = true := decide_eq_true c14
      clear c14
      by_cases c15 : a3_0 ≤ a3_1
      rotate_left
      · rw [if_neg c15] at H
        exact absurd H (by simp)
      rw [if_pos c15] at H
      have c15b0 := eq_true c15
      have c15b1 : decide (a3_0 ≤ a3_1) = true := decide_eq_true c15
      clear c15
      by_cases c16 : a3_1 ≤ (l1.length : Int)
      rotate_left
      · rw [if_neg c16] at H
        exact absurd H (by simp)
      rw [if_pos c16] at H
      have c16b0 := eq_true c16
      have c16b1 : decide (a3_1 ≤ (l1.length : Int)) = true := decide_eq_true c16
      clear c16
      by_cases c17 : y242.length + ((l1.take (a3_1 : Int).toNat).drop (a3_0 : Int).toNat).length < 17592186044416
      rotate_left
      · rw [if_neg c17] at H
        exact absurd H (by simp)
      rw [if_pos c17] at H
      have LMc17 := Aside0.mk c17
      clear c17
      obtain ⟨y246, hy246⟩ : ∃ y_ : List Int, y_ = (y242 ++ ((l1.take (a3_1 : Int).toNat).drop (a3_0 : Int).toNat)) := ⟨_, rfl⟩
      replace H : (ductusref13_Levels.l0 kj4 l0 a2 y246 0 a3_0 a3_1) = some r := by first | (rw [hy246]; with_reducible exact H) | (have H2_ := (Option.bind_some _ _).symm.trans H; rw [hy246]; with_reducible exact H2_) | (have H2_ := (Option.bind_some _ _).symm.trans H; with_reducible exact H2_) | with_reducible exact H | (rw [hy246]; exact H) | exact H
      have Ny246 := Aside0.mk hy246
      clear hy246
      have H' := Aside0.mk H
      clear H
      go_wp2_with (first | ((with_reducible refine gate_dst (N := 36) rfl ?_); (try (refine gate_guard (by rfl) ?_; dsimp only)); refine Kd.R_lit (Kd.int .i64) _ 3 ?hg (N := 36) ?hd (xs := ([] : List Int)) (inner := []) (ok := fun _ => True) (okp := fun _ => True) ?hr ?hp (fun _ hk => hk) trivial (Below.refl _ _) (Nat.le_refl _) (by simp) ?_; (case hd => rfl); (case hg => rfl); (case hr => first | (go_simp; done) | (go_simp; rfl)); (case hp => exact (Reps.none _ _)); intro v243 w18 ho19 hb hg_ hnew_; clear hg_ hnew_; (first | rw [← Ny242.out] at ho19 | (simp only [Int.reduceToNat] at ho19; rw [← Ny242.out] at ho19)); have n0_ := Aside0.mk (Kd.R_lower ho19 (below_size (by repeat (first | (with_reducible first | exact HB.out | apply below_alloc | apply pw_below_drewN | apply below_drew1 | refine below_set ?_ GE241.out) | exact HB.out)))); have n1_ := Aside0.mk (blk_below (g := gb241) (o := .cells #[.int .i64 a3_0, .int .i64 a3_1] 29 (0, 0)) (by (with_reducible repeat (first | refine blk_drewN ?_ _ | refine blk_drew ?_ | refine blk_alloc ?_ _)); exact BK241.out) hb); have n2_ := Aside0.mk (below_step (by repeat (first | (with_reducible first | exact HB.out | apply below_alloc | apply pw_below_drewN | apply below_drew1 | refine below_set ?_ GE241.out) | exact HB.out)) hb); clear BK241; clear HB; have HO244 := n0_; have BK241 := n1_; have HB := n2_; clear n0_ n1_ n2_; clear hb ho19; have hcz20_0 : w18.cell? ⟨gb241, 0, none⟩ = some (.int .i64 a3_0) := (blk_cell BK241.out 0).trans rfl; have hcz20_1 : w18.cell? ⟨gb241, 1, none⟩ = some (.int .i64 a3_1) := (blk_cell BK241.out 1).trans rfl; have hfz20_0 := blk_frozen BK241.out 0; have hfz20_1 := blk_frozen BK241.out 1; obtain ⟨i021, hi021, _, hsz21, _⟩ := info_parts info3; obtain ⟨A21, hcut21, hA21, hC21⟩ := print_mid_of (P := Try.prog) (Value.int .i64) 0 22 3 .i64 .i64 Try.underlying22 hi021 hsz21 A1 c1 l1 a3_0 a3_1 (of_decide_eq_true (by first | (with_reducible assumption) | assumption)) (by first | omega | exact of_decide_eq_true (by first | (with_reducible assumption) | assumption)) (of_decide_eq_true (by first | (with_reducible assumption) | assumption)) HC1.out; have HR245 := Aside0.mk (Kd.C_of_reads (h1 := fun _ => rfl) (hA21 _ (Kd.reads_of_C HR1.out))); have HC245 := Aside0.mk hC21; clear hA21 hC21 hi021 hsz21) | ((with_reducible refine gate_builtin (b := .append) (xs := #[.tmp 36, .tmp 42]) rfl ?_); (try (refine gate_guard (by rfl) ?_; dsimp only)); at_builtin; refine Kd.R_append_rows (Kd.int .i64) (w0 := w) w.heap.size rfl (.tmp 36) (.tmp 42) 22 3 (.int .i64 0) 8 rfl Try.underlying22 info3 rfl (by decide) (by omega) v243 y242 ((l1.take (a3_1 : Int).toNat).drop (a3_0 : Int).toNat) _ _ _ (fun _ => True) (fun _ => False) rfl rfl ?aO ?aR (fun _ _ h => h) (fun _ h => h.elim) ?aF ?aB ?aS ?aL ?_; (case aR => first | (rw [← show ((l1.take (a3_1 : Int).toNat).drop (a3_0 : Int).toNat).length = (a3_1.toNat - a3_0.toNat) from (by rw [List.length_drop, List.length_take]; have h_ : (a3_1 : Int) ≤ (l1.length : Int) := of_decide_eq_true (by first | (with_reducible assumption) | assumption); omega)]; repeat (first | exact (Kd.C_below HR245.out HB.out) | (with_reducible refine Kd.C_alloc ?_ _) | (with_reducible refine Kd.C_drewN ?_ _) | (with_reducible refine Kd.C_drew ?_))) | (repeat (first | exact (Kd.C_below HR245.out HB.out) | (with_reducible refine Kd.C_alloc ?_ _) | (with_reducible refine Kd.C_drewN ?_ _) | (with_reducible refine Kd.C_drew ?_)))); (case aB => exact (by repeat (first | (with_reducible first | exact HB.out | apply below_alloc | apply pw_below_drewN | apply below_drew1 | refine below_set ?_ GE241.out) | exact HB.out))); (case aF => exact (fun _ _ => trivial)); (case aO => exact (by (with_reducible repeat (first | apply Kd.R_alloc | apply Kd.R_drewN | apply Kd.R_drew)); exact HO244.out)); (case aS => exact (below_size (by repeat (first | (with_reducible first | exact HB.out | apply below_alloc | apply pw_below_drewN | apply below_drew1 | refine below_set ?_ GE241.out) | exact HB.out)))); (case aL => have := LMc17.out; have hlx_ := (show ((l1.take (a3_1 : Int).toNat).drop (a3_0 : Int).toNat).length = (a3_1.toNat - a3_0.toNat) from (by rw [List.length_drop, List.length_take]; have h_ : (a3_1 : Int) ≤ (l1.length : Int) := of_decide_eq_true (by first | (with_reducible assumption) | assumption); omega)); omega); intro v247 w22 ho hb hg hat; rw [← Ny246.out] at ho; have n0_ := Aside0.mk (blk_grown (g := gb241) (o := .cells #[.int .i64 a3_0, .int .i64 a3_1] 29 (0, 0)) (by (with_reducible repeat (first | refine blk_drewN ?_ _ | refine blk_drew ?_ | refine blk_alloc ?_ _)); exact BK241.out) hg (Kd.R_ne HO244.out BK241.out (by decide))); have n1_ := Aside0.mk (hb); have n2_ := Aside0.mk (ho); clear BK241; clear HB; clear HO244; have BK241 := n0_; have HB := n1_; have HO248 := n2_; clear n0_ n1_ n2_; clear ho hb hg hat))
      go_loopg [10] kj4 (fun kq v10 w' => ∃ (x9_2 : List Int) (x10_2 : Int), v10 = .int .i64 x10_2 ∧ Aside0 (ductusref13_Levels.l0 kq l0 a2 x9_2 x10_2 a3_0 a3_1 = some r) ∧ Aside0 (kq ≤ kj4) ∧ Aside0 (Kd.R (Kd.int .i64) 3 w' w.heap.size (fun _ => True) v247 x9_2) ∧ Aside0 (w'.heap[gb241]? = some (.cells #[.int .i64 a3_0, .int .i64 a3_1] 29 (0, 0))) ∧ Aside0 (Below w.heap.size w w'))
      case atStart => exact ⟨(y246), (0), (by first | rfl | (simp; done) | (simp [*]; done)), H', ⟨Nat.le_refl _⟩, ⟨by (with_reducible repeat (first | apply Kd.R_alloc | apply Kd.R_drewN | apply Kd.R_drew)); exact HO248.out⟩, ⟨by (with_reducible repeat (first | refine blk_drewN ?_ _ | refine blk_drew ?_ | refine blk_alloc ?_ _)); exact BK241.out⟩, ⟨by repeat (first | (with_reducible first | exact HB.out | apply below_alloc | apply pw_below_drewN | apply below_drew1 | refine below_set ?_ GE241.out) | exact HB.out)⟩⟩
      case round =>
        clear H'
        try clear c1
        try clear p2
        try clear c7
        try clear c7b0
        try clear c7b1
        try clear c7b2
        try clear c8
        try clear c8b0
        try clear c10
        try clear c10b0
        try clear c13
        try clear c14
        try clear c14b0
        try clear c14b1
        try clear c15
        try clear c15b0
        try clear c15b1
        try clear c16
        try clear c16b0
        try clear c16b1
        try clear c17
        try clear c19
        try clear hcz11_0
        try clear hcz11_1
        try clear hcz12_0
        try clear hcz12_1
        try clear hcz20_0
        try clear hcz20_1
        try clear hcz9_0
        try clear hcz9_1
        try clear hfz11_0
        try clear hfz11_1
        try clear hfz12_0
        try clear hfz12_1
        try clear hfz20_0
        try clear hfz20_1
        try clear hfz9_0
        try clear hfz9_1
        try clear p2
        obtain ⟨x9_2, x10_2, rfl, HA, HK2, HO_9, BK241, HB⟩ := hrel
        cases gk with
        | zero => exact absurd HA.out (by simp [ductusref13_Levels.l0])
        | succ k2 =>
          have H := HA.out
          clear HA
          simp only [ductusref13_Levels.l0] at H
          by_cases c23 : x10_2 < (x9_2.length : Int)
          rotate_left
          · rw [if_neg c23] at H
            have c23b0 : decide (x10_2 < (x9_2.length : Int)) = false := decide_eq_false c23
            clear c23
            obtain rfl := Option.some.inj H
            obtain ⟨Ao62, co62, eo62⟩ := Kd.R_slice HO_9.out
            subst eo62
            go_wp2
            go_ret
            exact ⟨_, by first | rfl | (simp [errW_none, errW_some] <;> rfl) | (simp [*, errW_none, errW_some] <;> rfl), by (with_reducible repeat (first | apply Kd.R_alloc | apply Kd.R_drewN | apply Kd.R_drew)); exact HO_9.out, by repeat (first | (with_reducible first | exact HB.out | apply below_alloc | apply pw_below_drewN | apply below_drew1 | refine below_set ?_ GE241.out) | exact HB.out)⟩
          rw [if_pos c23] at H
          have c23b0 : decide (x10_2 < (x9_2.length : Int)) = true := decide_eq_true c23
          clear c23
          have HC24 := Aside0.mk H
          clear H
          obtain ⟨Ao25, co25, eo25⟩ := Kd.R_slice HO_9.out
          subst eo25
          have hcz26_0 : wr.cell? ⟨gb241, 0, none⟩ = some (.int .i64 a3_0) := (blk_cell BK241.out 0).trans rfl
          have hcz26_1 : wr.cell? ⟨gb241, 1, none⟩ = some (.int .i64 a3_1) := (blk_cell BK241.out 1).trans rfl
          have hfz26_0 := blk_frozen BK241.out 0
          have hfz26_1 := blk_frozen BK241.out 1
          go_upto_block 2 with (fail)
          go_cut [11] (fun v11 wc => ∃ (kq : Nat) (x11_23 : Int), v11 = .int .i64 x11_23 ∧ Aside0 (ductusref13_Levels.j3 kq l0 a2 x9_2 x10_2 x11_23 a3_0 a3_1 = some r) ∧ Aside0 (kq ≤ k2) ∧ Aside0 (Kd.R (Kd.int .i64) 3 wc w.heap.size (fun _ => True) (.slice Ao25 x9_2.length co25) x9_2) ∧ Aside0 (wc.heap[gb241]? = some (.cells #[.int .i64 a3_0, .int .i64 a3_1] 29 (0, 0))) ∧ Aside0 (Below w.heap.size w wc))
          case first =>
            have H := HC24.out
            clear HC24
            have H' := Aside0.mk H
            clear H
            go_wp2
            go_loopg [11] k2 (fun kq v11 w' => ∃ (x11_3 : Int), v11 = .int .i64 x11_3 ∧ Aside0 (ductusref13_Levels.l1 kq l0 a2 x9_2 x10_2 x11_3 a3_0 a3_1 = some r) ∧ Aside0 (kq ≤ k2) ∧ Aside0 (Kd.R (Kd.int .i64) 3 w' w.heap.size (fun _ => True) (.slice Ao25 x9_2.length co25) x9_2) ∧ Aside0 (w'.heap[gb241]? = some (.cells #[.int .i64 a3_0, .int .i64 a3_1] 29 (0, 0))) ∧ Aside0 (Below w.heap.size w w'))
            case atStart => exact ⟨(wrap64 (a3_0 + x10_2)), (by first | rfl | (simp; done) | (simp [*]; done)), H', ⟨Nat.le_refl _⟩, ⟨by (with_reducible repeat (first | apply Kd.R_alloc | apply Kd.R_drewN | apply Kd.R_drew)); exact HO_9.out⟩, ⟨by (with_reducible repeat (first | refine blk_drewN ?_ _ | refine blk_drew ?_ | refine blk_alloc ?_ _)); exact BK241.out⟩, ⟨by repeat (first | (with_reducible first | exact HB.out | apply below_alloc | apply pw_below_drewN | apply below_drew1 | refine below_set ?_ GE241.out) | exact HB.out)⟩⟩
            case round =>
              clear H'
              try clear c1
              try clear c2
              try clear p2
              try clear p6
              try clear c7
              try clear c7b0
              try clear c7b1
              try clear c7b2
              try clear c8
              try clear c8b0
              try clear c10
              try clear c10b0
              try clear c13
              try clear c14
              try clear c14b0
              try clear c14b1
              try clear c15
              try clear c15b0
              try clear c15b1
              try clear c16
              try clear c16b0
              try clear c16b1
              try clear c17
              try clear c19
              try clear c23
              try clear c23b0
              try clear hcz11_0
              try clear hcz11_1
              try clear hcz12_0
              try clear hcz12_1
              try clear hcz20_0
              try clear hcz20_1
              try clear hcz26_0
              try clear hcz26_1
              try clear hcz9_0
              try clear hcz9_1
              try clear hfz11_0
              try clear hfz11_1
              try clear hfz12_0
              try clear hfz12_1
              try clear hfz20_0
              try clear hfz20_1
              try clear hfz26_0
              try clear hfz26_1
              try clear hfz9_0
              try clear hfz9_1
              try clear p2
              obtain ⟨x11_3, rfl, HA, HK3, HO_9, BK241, HB⟩ := hrel
              cases gk with
              | zero => exact absurd HA.out (by simp [ductusref13_Levels.l1])
              | succ k3 =>
                have H := HA.out
                clear HA
                simp only [ductusref13_Levels.l1] at H
                by_cases c27 : x11_3 < a3_1
                rotate_left
                · rw [if_neg c27] at H
                  have c27b0 : decide (x11_3 < a3_1) = false := decide_eq_false c27
                  clear c27
                  (first | rw [c27b0] | (simp only [i64_w, i32_w]; rw [c27b0]) | skip)
                  have H' := Aside0.mk H
                  clear H
                  have hcz35_0 : wr.cell? ⟨gb241, 0, none⟩ = some (.int .i64 a3_0) := (blk_cell BK241.out 0).trans rfl
                  have hcz35_1 : wr.cell? ⟨gb241, 1, none⟩ = some (.int .i64 a3_1) := (blk_cell BK241.out 1).trans rfl
                  have hfz35_0 := blk_frozen BK241.out 0
                  have hfz35_1 := blk_frozen BK241.out 1
                  go_wp2
                  go_meet
                  case rel => exact ⟨_, (x11_3), (by first | rfl | (simp; done) | (simp [*]; done)), H', ⟨by have := HJ4.out; have := HK2.out; have := HK3.out; first | omega | exact Nat.le_refl _⟩, ⟨by (with_reducible repeat (first | apply Kd.R_alloc | apply Kd.R_drewN | apply Kd.R_drew)); exact HO_9.out⟩, ⟨by (with_reducible repeat (first | refine blk_drewN ?_ _ | refine blk_drew ?_ | refine blk_alloc ?_ _)); exact BK241.out⟩, ⟨by repeat (first | (with_reducible first | exact HB.out | apply below_alloc | apply pw_below_drewN | apply below_drew1 | refine below_set ?_ GE241.out) | exact HB.out)⟩⟩
                rw [if_pos c27] at H
                have c27b0 : decide (x11_3 < a3_1) = true := decide_eq_true c27
                clear c27
                (first | rw [c27b0] | (simp only [i64_w, i32_w]; rw [c27b0]) | skip)
                by_cases c28 : 0 ≤ x11_3
                rotate_left
                · rw [if_neg c28] at H
                  exact absurd H (by simp)
                rw [if_pos c28] at H
                have c28b0 : decide (0 ≤ x11_3) = true := decide_eq_true c28
                clear c28
                by_cases c29 : x11_3 < (l0.length : Int)
                rotate_left
                · rw [if_neg c29] at H
                  exact absurd H (by simp)
                rw [if_pos c29] at H
                have c29b0 : decide (x11_3 < (l0.length : Int)) = true := decide_eq_true c29
                clear c29
                replace H := Option.bind_eq_some_iff.mp H
                obtain ⟨t250, A300, H⟩ := H
                replace H : ((ductusref13_light.f t250).bind fun t251 => (if t251 = true then (ductusref13_Levels.l1 k3 l0 a2 x9_2 x10_2 (wrap64 (x11_3 + 1)) a3_0 a3_1) else (ductusref13_Levels.j3 k3 l0 a2 x9_2 x10_2 x11_3 a3_0 a3_1))) = some r := H
                have A30 := Aside0.mk A300
                clear A300
                replace H := Option.bind_eq_some_iff.mp H
                obtain ⟨t251, A310, H⟩ := H
                replace H : (if t251 = true then (ductusref13_Levels.l1 k3 l0 a2 x9_2 x10_2 (wrap64 (x11_3 + 1)) a3_0 a3_1) else (ductusref13_Levels.j3 k3 l0 a2 x9_2 x10_2 x11_3 a3_0 a3_1)) = some r := H
                have A31 := Aside0.mk A310
                clear A310
                by_cases c32 : t251 = true
                rotate_left
                · replace c32 := Bool.eq_false_iff.mpr c32
                  subst c32
                  have H1 : (ductusref13_Levels.j3 k3 l0 a2 x9_2 x10_2 x11_3 a3_0 a3_1) = some r := by rw [if_neg (show ¬ (false = true) by decide)] at H; exact H
                  clear H
                  have H := H1
                  clear H1
                  have H' := Aside0.mk H
                  clear H
                  have hcz34_0 : wr.cell? ⟨gb241, 0, none⟩ = some (.int .i64 a3_0) := (blk_cell BK241.out 0).trans rfl
                  have hcz34_1 : wr.cell? ⟨gb241, 1, none⟩ = some (.int .i64 a3_1) := (blk_cell BK241.out 1).trans rfl
                  have hfz34_0 := blk_frozen BK241.out 0
                  have hfz34_1 := blk_frozen BK241.out 1
                  have p249 : 0 ≤ (x11_3 : Int) := of_decide_eq_true (by first | (with_reducible assumption) | assumption)
                  have q249 : x11_3 < (l0.length : Int) := of_decide_eq_true (by first | (with_reducible assumption) | assumption)
                  obtain ⟨ad249, e249, hx249_0⟩ := Kd.at_int HR0.out x11_3 p249 q249
                  cases e249
                  replace hx249_0 := (HB.out.cell (World.block_lt_of_cell? w _ hx249_0)).trans hx249_0
                  replace p249 := eq_true p249
                  replace q249 := eq_true q249
                  go_wp2_with (first | (go_at_call 21; (with_reducible refine (ductusref02_Of.calls (rd l0 x11_3) t250 _ A30.out).mono ?_); rintro e w' ⟨rfl, ⟨nd, rfl⟩⟩) | (go_at_call 30; (with_reducible refine (ductusref13_light.calls t250 false _ A31.out).mono ?_); rintro e w' ⟨rfl, ⟨nd, rfl⟩⟩))
                  go_meet
                  case rel => exact ⟨_, (x11_3), (by first | rfl | (simp; done) | (simp [*]; done)), H', ⟨by have := HJ4.out; have := HK2.out; have := HK3.out; first | omega | exact Nat.le_refl _⟩, ⟨by (with_reducible repeat (first | apply Kd.R_alloc | apply Kd.R_drewN | apply Kd.R_drew)); exact HO_9.out⟩, ⟨by (with_reducible repeat (first | refine blk_drewN ?_ _ | refine blk_drew ?_ | refine blk_alloc ?_ _)); exact BK241.out⟩, ⟨by repeat (first | (with_reducible first | exact HB.out | apply below_alloc | apply pw_below_drewN | apply below_drew1 | refine below_set ?_ GE241.out) | exact HB.out)⟩⟩
                subst c32
                have H1 : (ductusref13_Levels.l1 k3 l0 a2 x9_2 x10_2 (wrap64 (x11_3 + 1)) a3_0 a3_1) = some r := by rw [if_pos rfl] at H; exact H
                clear H
                have H := H1
                clear H1
                have H' := Aside0.mk H
                clear H
                have hcz33_0 : wr.cell? ⟨gb241, 0, none⟩ = some (.int .i64 a3_0) := (blk_cell BK241.out 0).trans rfl
                have hcz33_1 : wr.cell? ⟨gb241, 1, none⟩ = some (.int .i64 a3_1) := (blk_cell BK241.out 1).trans rfl
                have hfz33_0 := blk_frozen BK241.out 0
                have hfz33_1 := blk_frozen BK241.out 1
                have p249 : 0 ≤ (x11_3 : Int) := of_decide_eq_true (by first | (with_reducible assumption) | assumption)
                have q249 : x11_3 < (l0.length : Int) := of_decide_eq_true (by first | (with_reducible assumption) | assumption)
                obtain ⟨ad249, e249, hx249_0⟩ := Kd.at_int HR0.out x11_3 p249 q249
                cases e249
                replace hx249_0 := (HB.out.cell (World.block_lt_of_cell? w _ hx249_0)).trans hx249_0
                replace p249 := eq_true p249
                replace q249 := eq_true q249
                go_wp2_with (first | (go_at_call 21; (with_reducible refine (ductusref02_Of.calls (rd l0 x11_3) t250 _ A30.out).mono ?_); rintro e w' ⟨rfl, ⟨nd, rfl⟩⟩) | (go_at_call 30; (with_reducible refine (ductusref13_light.calls t250 true _ A31.out).mono ?_); rintro e w' ⟨rfl, ⟨nd, rfl⟩⟩))
                go_roundg k3
                case measure => have := HJ4.out; have := HK2.out; have := HK3.out; omega
                case rel => exact ⟨(wrap64 (x11_3 + 1)), (by first | rfl | (simp; done) | (simp [*]; done)), H', ⟨by have := HJ4.out; have := HK2.out; have := HK3.out; omega⟩, ⟨by (with_reducible repeat (first | apply Kd.R_alloc | apply Kd.R_drewN | apply Kd.R_drew)); exact HO_9.out⟩, ⟨by (with_reducible repeat (first | refine blk_drewN ?_ _ | refine blk_drew ?_ | refine blk_alloc ?_ _)); exact BK241.out⟩, ⟨by repeat (first | (with_reducible first | exact HB.out | apply below_alloc | apply pw_below_drewN | apply below_drew1 | refine below_set ?_ GE241.out) | exact HB.out)⟩⟩
          case rest =>
            clear HC24
            try clear c1
            try clear c2
            try clear p2
            try clear q2
            try clear hx2
            try clear c3
            try clear p6
            try clear c7
            try clear c7b0
            try clear c7b1
            try clear c7b2
            try clear c8
            try clear c8b0
            try clear c10
            try clear c10b0
            try clear c13
            try clear c14
            try clear c14b0
            try clear c14b1
            try clear c15
            try clear c15b0
            try clear c15b1
            try clear c16
            try clear c16b0
            try clear c16b1
            try clear c17
            try clear c19
            try clear c23
            try clear c23b0
            try clear p24
            try clear q24
            try clear hx24
            try clear c27
            try clear c27b0
            try clear c28
            try clear c28b0
            try clear c29
            try clear c29b0
            try clear c32
            try clear hcz11_0
            try clear hcz11_1
            try clear hcz12_0
            try clear hcz12_1
            try clear hcz20_0
            try clear hcz20_1
            try clear hcz26_0
            try clear hcz26_1
            try clear hcz33_0
            try clear hcz33_1
            try clear hcz34_0
            try clear hcz34_1
            try clear hcz35_0
            try clear hcz35_1
            try clear hcz9_0
            try clear hcz9_1
            try clear hfz11_0
            try clear hfz11_1
            try clear hfz12_0
            try clear hfz12_1
            try clear hfz20_0
            try clear hfz20_1
            try clear hfz26_0
            try clear hfz26_1
            try clear hfz33_0
            try clear hfz33_1
            try clear hfz34_0
            try clear hfz34_1
            try clear hfz35_0
            try clear hfz35_1
            try clear hfz9_0
            try clear hfz9_1
            try clear hx249_0
            try clear p2
            try clear p249
            try clear p6
            try clear q249
            obtain ⟨kq, x11_23, rfl, HA, HJ23, HO_9, BK241, HB⟩ := hcut
            cases kq with
            | zero => exact absurd HA.out (by simp [ductusref13_Levels.j3])
            | succ kj23 =>
              have H := HA.out
              clear HA
              simp only [ductusref13_Levels.j3] at H
              by_cases c36 : x11_23 = a3_1
              · rw [if_pos c36] at H
                have c36b0 : (x11_23 == a3_1) = true := beq_iff_eq.mpr c36
                have c36b1 : (x11_23 != a3_1) = false := bne_eq_false_iff_eq.mpr c36
                clear c36
                by_cases c37 : 0 ≤ x10_2
                rotate_left
                · rw [if_neg c37] at H
                  exact absurd H (by simp)
                rw [if_pos c37] at H
                have c37b0 : decide (0 ≤ x10_2) = true := decide_eq_true c37
                clear c37
                by_cases c38 : x10_2 < (x9_2.length : Int)
                rotate_left
                · rw [if_neg c38] at H
                  exact absurd H (by simp)
                rw [if_pos c38] at H
                have c38b0 : decide (x10_2 < (x9_2.length : Int)) = true := decide_eq_true c38
                clear c38
                obtain ⟨y252, hy252⟩ : ∃ y_ : List Int, y_ = (x9_2.set (x10_2 : Int).toNat a2) := ⟨_, rfl⟩
                replace H : (ductusref13_Levels.l0 kj23 l0 a2 y252 (wrap64 (x10_2 + 1)) a3_0 a3_1) = some r := by first | (rw [hy252]; with_reducible exact H) | (have H2_ := (Option.bind_some _ _).symm.trans H; rw [hy252]; with_reducible exact H2_) | (have H2_ := (Option.bind_some _ _).symm.trans H; with_reducible exact H2_) | with_reducible exact H | (rw [hy252]; exact H) | exact H
                have Ny252 := Aside0.mk hy252
                clear hy252
                have H' := Aside0.mk H
                clear H
                have hcz40_0 : wc.cell? ⟨gb241, 0, none⟩ = some (.int .i64 a3_0) := (blk_cell BK241.out 0).trans rfl
                have hcz40_1 : wc.cell? ⟨gb241, 1, none⟩ = some (.int .i64 a3_1) := (blk_cell BK241.out 1).trans rfl
                have hfz40_0 := blk_frozen BK241.out 0
                have hfz40_1 := blk_frozen BK241.out 1
                have p39 : 0 ≤ (x10_2 : Int) := of_decide_eq_true (by first | (with_reducible assumption) | assumption)
                have q39 : (x10_2 : Int) < ((x9_2.length : Int) : Int) := of_decide_eq_true (by first | (with_reducible assumption) | assumption)
                obtain ⟨go39, co39, eo39, gb39, gl39, cl39, HG39⟩ := Kd.R_form HO_9.out (by omega)
                (first | cases eo39 | (injection eo39 with ea_ en_ ec_; (first | subst ea_ | (injection ea_ with ea_; subst ea_)); subst ec_; clear en_))
                have GB39 := Aside0.mk gb39
                have GG39 := Aside0.mk HG39
                clear gb39 gl39 HG39
                obtain ⟨hx39_0, hf39_0⟩ := Kd.R_celln 0 HO_9.out (x10_2 : Int) p39 q39
                replace p39 := eq_true p39
                replace q39 := eq_true q39
                have HP41 := Kd.R_putg HO_9.out (x10_2 : Int) a2
                go_wp2_with (first | ((with_reducible refine gate_store (t := 3) (p := 91) rfl ?_); refine store_event (t := 3) (p := 91) (v := ?vo_w42) (w1 := (wc.setCell ⟨go39, (x10_2 : Int).toNat, none⟩ (.int .i64 a2))) ?hg ?ho ?hn ?hr ?_; (case ho => rfl); (case hg => rfl); (case hn => rfl); (case hr => first | (go_simp; done) | (go_simp; rfl)); intro w42 hw; have hg : wc.grownBy w42 (some go39) := (by rw [hw]; exact HP41.2); have hp_ : Kd.R (Kd.int .i64) 3 w42 w.heap.size (fun _ => True) (.slice (some ⟨go39, 0, none⟩) x9_2.length co25) y252 := (by rw [hw, Ny252.out]; exact HP41.1); clear HP41; have n0_ := Aside0.mk (hp_); have n1_ := Aside0.mk (blk_grown (g := gb241) (o := .cells #[.int .i64 a3_0, .int .i64 a3_1] 29 (0, 0)) (by (with_reducible repeat (first | refine blk_drewN ?_ _ | refine blk_drew ?_ | refine blk_alloc ?_ _)); exact BK241.out) hg (Kd.R_ne HO_9.out BK241.out (by decide))); have n2_ := Aside0.mk ((by rw [hw]; exact below_set (HB.out) GB39.out : Below w.heap.size w w42)); clear HO_9; clear BK241; clear HB; have HO_9 := n0_; have BK241 := n1_; have HB := n2_; clear n0_ n1_ n2_; clear hg hw hp_))
                go_roundg kj23
                case measure => have := HJ4.out; have := HK2.out; have := HJ23.out; omega
                case rel => exact ⟨(y252), (wrap64 (x10_2 + 1)), (by first | rfl | (simp; done) | (simp [*]; done)), H', ⟨by have := HJ4.out; have := HK2.out; have := HJ23.out; omega⟩, ⟨by (with_reducible repeat (first | apply Kd.R_alloc | apply Kd.R_drewN | apply Kd.R_drew)); exact HO_9.out⟩, ⟨by (with_reducible repeat (first | refine blk_drewN ?_ _ | refine blk_drew ?_ | refine blk_alloc ?_ _)); exact BK241.out⟩, ⟨by repeat (first | (with_reducible first | exact HB.out | apply below_alloc | apply pw_below_drewN | apply below_drew1 | refine below_set ?_ GE241.out) | exact HB.out)⟩⟩
              rw [if_neg c36] at H
              have c36b0 : (x11_23 == a3_1) = false := beq_eq_false_iff_ne.mpr c36
              have c36b1 : (x11_23 != a3_1) = true := bne_iff_ne.mpr c36
              by_cases c43 : 0 ≤ x11_23
              rotate_left
              · rw [if_neg c43] at H
                exact absurd H (by simp)
              rw [if_pos c43] at H
              have c43b0 : decide (0 ≤ x11_23) = true := decide_eq_true c43
              clear c43
              by_cases c44 : x11_23 < (l0.length : Int)
              rotate_left
              · rw [if_neg c44] at H
                exact absurd H (by simp)
              rw [if_pos c44] at H
              have c44b0 : decide (x11_23 < (l0.length : Int)) = true := decide_eq_true c44
              clear c44
              replace H := Option.bind_eq_some_iff.mp H
              obtain ⟨t254, A450, H⟩ := H
              replace H : (if t254 = 11 then (if 0 ≤ x10_2 then (if x10_2 < (x9_2.length : Int) then (ductusref13_Levels.l0 kj23 l0 a2 (x9_2.set (x10_2 : Int).toNat a2) (wrap64 (x10_2 + 1)) a3_0 a3_1) else (none)) else (none)) else ((ductusref02_Of.f (rd l0 x11_23)).bind fun t257 => (if t257 = 10 then (if 0 ≤ x10_2 then (if x10_2 < (x9_2.length : Int) then (ductusref13_Levels.l0 kj23 l0 a2 (x9_2.set (x10_2 : Int).toNat a2) (wrap64 (x10_2 + 1)) a3_0 a3_1) else (none)) else (none)) else (ductusref13_Levels.l0 kj23 l0 a2 x9_2 (wrap64 (x10_2 + 1)) a3_0 a3_1)))) = some r := H
              have A45 := Aside0.mk A450
              clear A450
              by_cases c46 : t254 = 11
              · rw [if_pos c46] at H
                have c46b0 : (t254 == 11) = true := beq_iff_eq.mpr c46
                have c46b1 : (t254 != 11) = false := bne_eq_false_iff_eq.mpr c46
                clear c46
                by_cases c47 : 0 ≤ x10_2
                rotate_left
                · rw [if_neg c47] at H
                  exact absurd H (by simp)
                rw [if_pos c47] at H
                have c47b0 : decide (0 ≤ x10_2) = true := decide_eq_true c47
                clear c47
                by_cases c48 : x10_2 < (x9_2.length : Int)
                rotate_left
                · rw [if_neg c48] at H
                  exact absurd H (by simp)
                rw [if_pos c48] at H
                have c48b0 : decide (x10_2 < (x9_2.length : Int)) = true := decide_eq_true c48
                clear c48
                obtain ⟨y255, hy255⟩ : ∃ y_ : List Int, y_ = (x9_2.set (x10_2 : Int).toNat a2) := ⟨_, rfl⟩
                replace H : (ductusref13_Levels.l0 kj23 l0 a2 y255 (wrap64 (x10_2 + 1)) a3_0 a3_1) = some r := by first | (rw [hy255]; with_reducible exact H) | (have H2_ := (Option.bind_some _ _).symm.trans H; rw [hy255]; with_reducible exact H2_) | (have H2_ := (Option.bind_some _ _).symm.trans H; with_reducible exact H2_) | with_reducible exact H | (rw [hy255]; exact H) | exact H
                have Ny255 := Aside0.mk hy255
                clear hy255
                have H' := Aside0.mk H
                clear H
                have hcz50_0 : wc.cell? ⟨gb241, 0, none⟩ = some (.int .i64 a3_0) := (blk_cell BK241.out 0).trans rfl
                have hcz50_1 : wc.cell? ⟨gb241, 1, none⟩ = some (.int .i64 a3_1) := (blk_cell BK241.out 1).trans rfl
                have hfz50_0 := blk_frozen BK241.out 0
                have hfz50_1 := blk_frozen BK241.out 1
                have p253 : 0 ≤ (x11_23 : Int) := of_decide_eq_true (by first | (with_reducible assumption) | assumption)
                have q253 : x11_23 < (l0.length : Int) := of_decide_eq_true (by first | (with_reducible assumption) | assumption)
                obtain ⟨ad253, e253, hx253_0⟩ := Kd.at_int HR0.out x11_23 p253 q253
                cases e253
                replace hx253_0 := (HB.out.cell (World.block_lt_of_cell? w _ hx253_0)).trans hx253_0
                replace p253 := eq_true p253
                replace q253 := eq_true q253
                go_wp2_with (first | (go_at_call 21; (with_reducible refine (ductusref02_Of.calls (rd l0 x11_23) t254 _ A45.out).mono ?_); rintro e w' ⟨rfl, ⟨nd, rfl⟩⟩; (try (rw [drewN_self wc]; generalize hq_ : World.drewN wc _ = wc; have n0_ : Aside0 (Kd.R (Kd.int .i64) 3 wc w.heap.size (fun _ => True) (.slice Ao25 x9_2.length co25) x9_2) := ⟨by rw [← hq_]; exact (by (with_reducible repeat (first | apply Kd.R_alloc | apply Kd.R_drewN | apply Kd.R_drew)); exact HO_9.out)⟩; have n1_ : Aside0 (wc.heap[gb241]? = some (.cells #[.int .i64 a3_0, .int .i64 a3_1] 29 (0, 0))) := ⟨by rw [← hq_]; exact (by (with_reducible repeat (first | refine blk_drewN ?_ _ | refine blk_drew ?_ | refine blk_alloc ?_ _)); exact BK241.out)⟩; have n2_ : Aside0 (Below w.heap.size w wc) := ⟨by rw [← hq_]; exact (by repeat (first | (with_reducible first | exact HB.out | apply below_alloc | apply pw_below_drewN | apply below_drew1 | refine below_set ?_ GE241.out) | exact HB.out))⟩; clear HO_9 BK241 HB hq_; have HO_9 := n0_; have BK241 := n1_; have HB := n2_; clear n0_ n1_ n2_)); have p49 : 0 ≤ (x10_2 : Int) := of_decide_eq_true (by first | (with_reducible assumption) | assumption); have q49 : (x10_2 : Int) < ((x9_2.length : Int) : Int) := of_decide_eq_true (by first | (with_reducible assumption) | assumption); obtain ⟨go49, co49, eo49, gb49, gl49, cl49, HG49⟩ := Kd.R_form HO_9.out (by omega); (first | cases eo49 | (injection eo49 with ea_ en_ ec_; (first | subst ea_ | (injection ea_ with ea_; subst ea_)); subst ec_; clear en_)); have GB49 := Aside0.mk gb49; have GG49 := Aside0.mk HG49; clear gb49 gl49 HG49; obtain ⟨hx49_0, hf49_0⟩ := Kd.R_celln 0 HO_9.out (x10_2 : Int) p49 q49; replace p49 := eq_true p49; replace q49 := eq_true q49; obtain ⟨hy51_, hz51_⟩ := Kd.R_celln 0 HO_9.out (x10_2 : Int) (of_decide_eq_true (by first | (with_reducible assumption) | assumption)) (of_decide_eq_true (by first | (with_reducible assumption) | assumption)); have HP51 := Kd.R_putg HO_9.out (x10_2 : Int) a2) | ((with_reducible refine gate_store (t := 3) (p := 91) rfl ?_); refine store_event (t := 3) (p := 91) (v := ?vo_w52) (w1 := (wc.setCell ⟨go49, (x10_2 : Int).toNat, none⟩ (.int .i64 a2))) ?hg ?ho ?hn ?hr ?_; (case ho => rfl); (case hg => rfl); (case hn => rfl); (case hr => first | (go_simp; done) | (go_simp; rfl)); intro w52 hw; have hg : wc.grownBy w52 (some go49) := (by rw [hw]; exact HP51.2); have hp_ : Kd.R (Kd.int .i64) 3 w52 w.heap.size (fun _ => True) (.slice (some ⟨go49, 0, none⟩) x9_2.length co25) y255 := (by rw [hw, Ny255.out]; exact HP51.1); clear HP51; have n0_ := Aside0.mk (hp_); have n1_ := Aside0.mk (blk_grown (g := gb241) (o := .cells #[.int .i64 a3_0, .int .i64 a3_1] 29 (0, 0)) (by (with_reducible repeat (first | refine blk_drewN ?_ _ | refine blk_drew ?_ | refine blk_alloc ?_ _)); exact BK241.out) hg (Kd.R_ne HO_9.out BK241.out (by decide))); have n2_ := Aside0.mk ((by rw [hw]; exact below_set (HB.out) GB49.out : Below w.heap.size w w52)); clear HO_9; clear BK241; clear HB; have HO_9 := n0_; have BK241 := n1_; have HB := n2_; clear n0_ n1_ n2_; clear hg hw hp_))
                go_roundg kj23
                case measure => have := HJ4.out; have := HK2.out; have := HJ23.out; omega
                case rel => exact ⟨(y255), (wrap64 (x10_2 + 1)), (by first | rfl | (simp; done) | (simp [*]; done)), H', ⟨by have := HJ4.out; have := HK2.out; have := HJ23.out; omega⟩, ⟨by (with_reducible repeat (first | apply Kd.R_alloc | apply Kd.R_drewN | apply Kd.R_drew)); exact HO_9.out⟩, ⟨by (with_reducible repeat (first | refine blk_drewN ?_ _ | refine blk_drew ?_ | refine blk_alloc ?_ _)); exact BK241.out⟩, ⟨by repeat (first | (with_reducible first | exact HB.out | apply below_alloc | apply pw_below_drewN | apply below_drew1 | refine below_set ?_ GE241.out) | exact HB.out)⟩⟩
              rw [if_neg c46] at H
              have c46b0 : (t254 == 11) = false := beq_eq_false_iff_ne.mpr c46
              have c46b1 : (t254 != 11) = true := bne_iff_ne.mpr c46
              replace H := Option.bind_eq_some_iff.mp H
              obtain ⟨t257, A530, H⟩ := H
              replace H : (if t257 = 10 then (if 0 ≤ x10_2 then (if x10_2 < (x9_2.length : Int) then (ductusref13_Levels.l0 kj23 l0 a2 (x9_2.set (x10_2 : Int).toNat a2) (wrap64 (x10_2 + 1)) a3_0 a3_1) else (none)) else (none)) else (ductusref13_Levels.l0 kj23 l0 a2 x9_2 (wrap64 (x10_2 + 1)) a3_0 a3_1)) = some r := H
              have A53 := Aside0.mk A530
              clear A530
              by_cases c54 : t257 = 10
              rotate_left
              · rw [if_neg c54] at H
                have c54b0 : (t257 == 10) = false := beq_eq_false_iff_ne.mpr c54
                have c54b1 : (t257 != 10) = true := bne_iff_ne.mpr c54
                have H' := Aside0.mk H
                clear H
                have hcz61_0 : wc.cell? ⟨gb241, 0, none⟩ = some (.int .i64 a3_0) := (blk_cell BK241.out 0).trans rfl
                have hcz61_1 : wc.cell? ⟨gb241, 1, none⟩ = some (.int .i64 a3_1) := (blk_cell BK241.out 1).trans rfl
                have hfz61_0 := blk_frozen BK241.out 0
                have hfz61_1 := blk_frozen BK241.out 1
                have p253 : 0 ≤ (x11_23 : Int) := of_decide_eq_true (by first | (with_reducible assumption) | assumption)
                have q253 : x11_23 < (l0.length : Int) := of_decide_eq_true (by first | (with_reducible assumption) | assumption)
                obtain ⟨ad253, e253, hx253_0⟩ := Kd.at_int HR0.out x11_23 p253 q253
                cases e253
                replace hx253_0 := (HB.out.cell (World.block_lt_of_cell? w _ hx253_0)).trans hx253_0
                replace p253 := eq_true p253
                replace q253 := eq_true q253
                go_wp2_with (first | (go_at_call 21; (fail_if_success (have _ := tk_728_0)); (with_reducible refine (ductusref02_Of.calls (rd l0 x11_23) t254 _ A45.out).mono ?_); rintro e w' ⟨rfl, ⟨nd, rfl⟩⟩; have tk_728_0 : True := trivial; have p256 : 0 ≤ (x11_23 : Int) := of_decide_eq_true (by first | (with_reducible assumption) | assumption); have q256 : x11_23 < (l0.length : Int) := of_decide_eq_true (by first | (with_reducible assumption) | assumption); obtain ⟨ad256, e256, hx256_0⟩ := Kd.at_int HR0.out x11_23 p256 q256; obtain rfl : ad253 = ad256 := (by injection e256); replace hx256_0 := (HB.out.cell (World.block_lt_of_cell? w _ hx256_0)).trans hx256_0; replace p256 := eq_true p256; replace q256 := eq_true q256) | (go_at_call 21; (with_reducible refine (ductusref02_Of.calls (rd l0 x11_23) t257 _ A53.out).mono ?_); rintro e w' ⟨rfl, ⟨nd, rfl⟩⟩))
                go_roundg kj23
                case measure => have := HJ4.out; have := HK2.out; have := HJ23.out; omega
                case rel => exact ⟨(x9_2), (wrap64 (x10_2 + 1)), (by first | rfl | (simp; done) | (simp [*]; done)), H', ⟨by have := HJ4.out; have := HK2.out; have := HJ23.out; omega⟩, ⟨by (with_reducible repeat (first | apply Kd.R_alloc | apply Kd.R_drewN | apply Kd.R_drew)); exact HO_9.out⟩, ⟨by (with_reducible repeat (first | refine blk_drewN ?_ _ | refine blk_drew ?_ | refine blk_alloc ?_ _)); exact BK241.out⟩, ⟨by repeat (first | (with_reducible first | exact HB.out | apply below_alloc | apply pw_below_drewN | apply below_drew1 | refine below_set ?_ GE241.out) | exact HB.out)⟩⟩
              rw [if_pos c54] at H
              have c54b0 : (t257 == 10) = true := beq_iff_eq.mpr c54
              have c54b1 : (t257 != 10) = false := bne_eq_false_iff_eq.mpr c54
              clear c54
              by_cases c55 : 0 ≤ x10_2
              rotate_left
              · rw [if_neg c55] at H
                exact absurd H (by simp)
              rw [if_pos c55] at H
              have c55b0 : decide (0 ≤ x10_2) = true := decide_eq_true c55
              clear c55
              by_cases c56 : x10_2 < (x9_2.length : Int)
              rotate_left
              · rw [if_neg c56] at H
                exact absurd H (by simp)
              rw [if_pos c56] at H
              have c56b0 : decide (x10_2 < (x9_2.length : Int)) = true := decide_eq_true c56
              clear c56
              obtain ⟨y258, hy258⟩ : ∃ y_ : List Int, y_ = (x9_2.set (x10_2 : Int).toNat a2) := ⟨_, rfl⟩
              replace H : (ductusref13_Levels.l0 kj23 l0 a2 y258 (wrap64 (x10_2 + 1)) a3_0 a3_1) = some r := by first | (rw [hy258]; with_reducible exact H) | (have H2_ := (Option.bind_some _ _).symm.trans H; rw [hy258]; with_reducible exact H2_) | (have H2_ := (Option.bind_some _ _).symm.trans H; with_reducible exact H2_) | with_reducible exact H | (rw [hy258]; exact H) | exact H
              have Ny258 := Aside0.mk hy258
              clear hy258
              have H' := Aside0.mk H
              clear H
              have hcz58_0 : wc.cell? ⟨gb241, 0, none⟩ = some (.int .i64 a3_0) := (blk_cell BK241.out 0).trans rfl
              have hcz58_1 : wc.cell? ⟨gb241, 1, none⟩ = some (.int .i64 a3_1) := (blk_cell BK241.out 1).trans rfl
              have hfz58_0 := blk_frozen BK241.out 0
              have hfz58_1 := blk_frozen BK241.out 1
              have p253 : 0 ≤ (x11_23 : Int) := of_decide_eq_true (by first | (with_reducible assumption) | assumption)
              have q253 : x11_23 < (l0.length : Int) := of_decide_eq_true (by first | (with_reducible assumption) | assumption)
              obtain ⟨ad253, e253, hx253_0⟩ := Kd.at_int HR0.out x11_23 p253 q253
              cases e253
              replace hx253_0 := (HB.out.cell (World.block_lt_of_cell? w _ hx253_0)).trans hx253_0
              replace p253 := eq_true p253
              replace q253 := eq_true q253
              go_wp2_with (first | (go_at_call 21; (fail_if_success (have _ := tk_767_0)); (with_reducible refine (ductusref02_Of.calls (rd l0 x11_23) t254 _ A45.out).mono ?_); rintro e w' ⟨rfl, ⟨nd, rfl⟩⟩; have tk_767_0 : True := trivial; (try (rw [drewN_self wc]; generalize hq_ : World.drewN wc _ = wc; have n0_ : Aside0 (Kd.R (Kd.int .i64) 3 wc w.heap.size (fun _ => True) (.slice Ao25 x9_2.length co25) x9_2) := ⟨by rw [← hq_]; exact (by (with_reducible repeat (first | apply Kd.R_alloc | apply Kd.R_drewN | apply Kd.R_drew)); exact HO_9.out)⟩; have n1_ : Aside0 (wc.heap[gb241]? = some (.cells #[.int .i64 a3_0, .int .i64 a3_1] 29 (0, 0))) := ⟨by rw [← hq_]; exact (by (with_reducible repeat (first | refine blk_drewN ?_ _ | refine blk_drew ?_ | refine blk_alloc ?_ _)); exact BK241.out)⟩; have n2_ : Aside0 (Below w.heap.size w wc) := ⟨by rw [← hq_]; exact (by repeat (first | (with_reducible first | exact HB.out | apply below_alloc | apply pw_below_drewN | apply below_drew1 | refine below_set ?_ GE241.out) | exact HB.out))⟩; clear HO_9 BK241 HB hq_; have HO_9 := n0_; have BK241 := n1_; have HB := n2_; clear n0_ n1_ n2_)); have p256 : 0 ≤ (x11_23 : Int) := of_decide_eq_true (by first | (with_reducible assumption) | assumption); have q256 : x11_23 < (l0.length : Int) := of_decide_eq_true (by first | (with_reducible assumption) | assumption); obtain ⟨ad256, e256, hx256_0⟩ := Kd.at_int HR0.out x11_23 p256 q256; obtain rfl : ad253 = ad256 := (by injection e256); replace hx256_0 := (HB.out.cell (World.block_lt_of_cell? w _ hx256_0)).trans hx256_0; replace p256 := eq_true p256; replace q256 := eq_true q256) | (go_at_call 21; (with_reducible refine (ductusref02_Of.calls (rd l0 x11_23) t257 _ A53.out).mono ?_); rintro e w' ⟨rfl, ⟨nd, rfl⟩⟩; (try (rw [drewN_self wc]; generalize hq_ : World.drewN wc _ = wc; have n0_ : Aside0 (Kd.R (Kd.int .i64) 3 wc w.heap.size (fun _ => True) (.slice Ao25 x9_2.length co25) x9_2) := ⟨by rw [← hq_]; exact (by (with_reducible repeat (first | apply Kd.R_alloc | apply Kd.R_drewN | apply Kd.R_drew)); exact HO_9.out)⟩; have n1_ : Aside0 (wc.heap[gb241]? = some (.cells #[.int .i64 a3_0, .int .i64 a3_1] 29 (0, 0))) := ⟨by rw [← hq_]; exact (by (with_reducible repeat (first | refine blk_drewN ?_ _ | refine blk_drew ?_ | refine blk_alloc ?_ _)); exact BK241.out)⟩; have n2_ : Aside0 (Below w.heap.size w wc) := ⟨by rw [← hq_]; exact (by repeat (first | (with_reducible first | exact HB.out | apply below_alloc | apply pw_below_drewN | apply below_drew1 | refine below_set ?_ GE241.out) | exact HB.out))⟩; clear HO_9 BK241 HB hq_; have HO_9 := n0_; have BK241 := n1_; have HB := n2_; clear n0_ n1_ n2_)); have p57 : 0 ≤ (x10_2 : Int) := of_decide_eq_true (by first | (with_reducible assumption) | assumption); have q57 : (x10_2 : Int) < ((x9_2.length : Int) : Int) := of_decide_eq_true (by first | (with_reducible assumption) | assumption); obtain ⟨go57, co57, eo57, gb57, gl57, cl57, HG57⟩ := Kd.R_form HO_9.out (by omega); (first | cases eo57 | (injection eo57 with ea_ en_ ec_; (first | subst ea_ | (injection ea_ with ea_; subst ea_)); subst ec_; clear en_)); have GB57 := Aside0.mk gb57; have GG57 := Aside0.mk HG57; clear gb57 gl57 HG57; obtain ⟨hx57_0, hf57_0⟩ := Kd.R_celln 0 HO_9.out (x10_2 : Int) p57 q57; replace p57 := eq_true p57; replace q57 := eq_true q57; obtain ⟨hy59_, hz59_⟩ := Kd.R_celln 0 HO_9.out (x10_2 : Int) (of_decide_eq_true (by first | (with_reducible assumption) | assumption)) (of_decide_eq_true (by first | (with_reducible assumption) | assumption)); have HP59 := Kd.R_putg HO_9.out (x10_2 : Int) a2) | ((with_reducible refine gate_store (t := 3) (p := 91) rfl ?_); refine store_event (t := 3) (p := 91) (v := ?vo_w60) (w1 := (wc.setCell ⟨go57, (x10_2 : Int).toNat, none⟩ (.int .i64 a2))) ?hg ?ho ?hn ?hr ?_; (case ho => rfl); (case hg => rfl); (case hn => rfl); (case hr => first | (go_simp; done) | (go_simp; rfl)); intro w60 hw; have hg : wc.grownBy w60 (some go57) := (by rw [hw]; exact HP59.2); have hp_ : Kd.R (Kd.int .i64) 3 w60 w.heap.size (fun _ => True) (.slice (some ⟨go57, 0, none⟩) x9_2.length co25) y258 := (by rw [hw, Ny258.out]; exact HP59.1); clear HP59; have n0_ := Aside0.mk (hp_); have n1_ := Aside0.mk (blk_grown (g := gb241) (o := .cells #[.int .i64 a3_0, .int .i64 a3_1] 29 (0, 0)) (by (with_reducible repeat (first | refine blk_drewN ?_ _ | refine blk_drew ?_ | refine blk_alloc ?_ _)); exact BK241.out) hg (Kd.R_ne HO_9.out BK241.out (by decide))); have n2_ := Aside0.mk ((by rw [hw]; exact below_set (HB.out) GB57.out : Below w.heap.size w w60)); clear HO_9; clear BK241; clear HB; have HO_9 := n0_; have BK241 := n1_; have HB := n2_; clear n0_ n1_ n2_; clear hg hw hp_))
              go_roundg kj23
              case measure => have := HJ4.out; have := HK2.out; have := HJ23.out; omega
              case rel => exact ⟨(y258), (wrap64 (x10_2 + 1)), (by first | rfl | (simp; done) | (simp [*]; done)), H', ⟨by have := HJ4.out; have := HK2.out; have := HJ23.out; omega⟩, ⟨by (with_reducible repeat (first | apply Kd.R_alloc | apply Kd.R_drewN | apply Kd.R_drew)); exact HO_9.out⟩, ⟨by (with_reducible repeat (first | refine blk_drewN ?_ _ | refine blk_drew ?_ | refine blk_alloc ?_ _)); exact BK241.out⟩, ⟨by repeat (first | (with_reducible first | exact HB.out | apply below_alloc | apply pw_below_drewN | apply below_drew1 | refine below_set ?_ GE241.out) | exact HB.out)⟩⟩

end Go.Proofs.Ytmjipbmpapcboaa.P
