/- Texts of this claim put together by a program of its own (Px20, PLib, PEv, PTree, PMat, PReach, PMore), what the law does not use left out: each part's statements bear their own conditions. -/
import Derived.Test.YtaphbechnjmlgaaC12
import Derived.Test.YtaphbechnjmlgaaC13
import Derived.Test.YtaphbechnjmlgaaC18
import Derived.Test.YtaphbechnjmlgaaC17
import Derived.Test.YtaphbechnjmlgaaC14
namespace Go.Proofs.Ytaphbechnjmlgaa.P
open Go.RowKit Go.Proofs.YtaphbechnjmlgaaW.PrintWords Go.Proofs.YtaphbechnjmlgaaW.PrintLast Go.Proofs.YtaphbechnjmlgaaW.PrintMore
attribute [local go_sem] max2_int min2_int max_two min_two
set_option linter.unusedVariables false
set_option linter.unusedSimpArgs false

mutual
def ductuslaw18_DerivShifts.j0 : Nat → List Int → Int → Bool → Int → List (S52) → Int → Int → List (S25) → Option (Bool)
  | 0, _, _, _, _, _, _, _, _ => none
  | k + 1, x1, x2, x30, x270000, x270001, x270002, x270003, x270004 => if x30 = true then (some true) else (if (wrap64 ((x1.length : Int) + 1)) = 0 then (none) else ((deriv_Ends.f k x270000 x270001 x270002 x270003 x270004 x1 (Int.tmod (wrap64 (x2)) (wrap64 ((x1.length : Int) + 1)))).bind fun t274 => (if 0 ≤ (Int.tmod (wrap64 (x2)) (wrap64 ((x1.length : Int) + 1))) then (if (Int.tmod (wrap64 (x2)) (wrap64 ((x1.length : Int) + 1))) ≤ (x1.length : Int) then ((deriv_Ends.f k x270000 x270001 x270002 x270003 x270004 (x1.drop ((Int.tmod (wrap64 (x2)) (wrap64 ((x1.length : Int) + 1))) : Int).toNat) 0).bind fun t278 => (if (t274.length : Int) = (t278.length : Int) then (ductuslaw18_DerivShifts.l0 k (Int.tmod (wrap64 (x2)) (wrap64 ((x1.length : Int) + 1))) t274 t278 0 x270000 x270001 x270002 x270003 x270004) else (none))) else (none)) else (none))))
def ductuslaw18_DerivShifts.l0 : Nat → Int → List Int → List Int → Int → Int → List (S52) → Int → Int → List (S25) → Option (Bool)
  | 0, _, _, _, _, _, _, _, _, _ => none
  | k + 1, x7, x8, x9, x10, x270000, x270001, x270002, x270003, x270004 => if x10 < (x8.length : Int) then (if 0 ≤ x10 then (if x10 < (x9.length : Int) then (if (rd x8 x10) = (wrap64 ((rd x9 x10) + x7)) then (ductuslaw18_DerivShifts.l0 k x7 x8 x9 (wrap64 (x10 + 1)) x270000 x270001 x270002 x270003 x270004) else (none)) else (none)) else (none)) else ((deriv_Null.f k x270000 x270001 x270002 x270003 x270004 false false).bind fun t283 => ((deriv_Null.f k x270000 x270001 x270002 x270003 x270004 true true).bind fun t284 => (some (t283 == t284))))
end
def ductuslaw18_DerivShifts.f (k : Nat) (a0_0 : Int) (l0_1 : List (S52)) (a0_2 : Int) (a0_3 : Int) (l0_4 : List (S25)) (l1 : List Int) (a2 : Int) : Option (Bool) := (ductuslaw18_alive.f).bind fun t270 => (if t270 = true then ((ductuslaw18_small.f k a0_0 l0_1 a0_2 a0_3 l0_4 l1).bind fun t271 => (if t271 = true then (if (l1.length : Int) > 20 then (ductuslaw18_DerivShifts.j0 k l1 a2 true a0_0 l0_1 a0_2 a0_3 l0_4) else ((ductusref16_Size.f k a0_0 l0_1 a0_2 a0_3 l0_4).bind fun t272 => (if t272 > 500 then (ductuslaw18_DerivShifts.j0 k l1 a2 true a0_0 l0_1 a0_2 a0_3 l0_4) else ((ductuslaw18_anchored.f k a0_0 l0_1 a0_2 a0_3 l0_4).bind fun t273 => (ductuslaw18_DerivShifts.j0 k l1 a2 t273 a0_0 l0_1 a0_2 a0_3 l0_4))))) else (ductuslaw18_DerivShifts.j0 k l1 a2 true a0_0 l0_1 a0_2 a0_3 l0_4))) else (none))
def ductuslaw18_DerivShifts.T6 : Bool × List (List Nat × List Nat) := (true, [([], []), ([], []), ([], []), ([0, 1, 2], [0, 1, 2]), ([], []), ([], []), ([], []), ([5, 6], [5, 6]), ([4, 7, 3], [4, 7]), ([3, 8, 0, 1, 2, 3], [3]), ([8, 9, 0, 1, 2, 3, 4, 5, 6, 7, 8, 9], [8])])
def ductuslaw18_DerivShifts.B6 : List Nat := [0, 0, 0, 7, 0, 0, 0, 96, 255, 511, 1023]
theorem ductuslaw18_DerivShifts.tab6 : rtab .any (opsOf Try.f6 6) = ductuslaw18_DerivShifts.T6 := by kernel_rfl
theorem ductuslaw18_DerivShifts.bits6 : waitsOk ductuslaw18_DerivShifts.T6.2 ductuslaw18_DerivShifts.B6 = true := by kernel_rfl
def ductuslaw18_DerivShifts.T12 : Bool × List (List Nat × List Nat) := (true, [([], []), ([], []), ([0, 1], [0, 1]), ([2], [2]), ([], []), ([], []), ([4, 5], [4, 5]), ([6], [6]), ([], []), ([7, 8], [7, 8]), ([3, 9], [3, 9])])
def ductuslaw18_DerivShifts.B12 : List Nat := [0, 0, 3, 7, 0, 0, 48, 112, 0, 496, 1023]
theorem ductuslaw18_DerivShifts.tab12 : rtab .any (opsOf Try.f6 12) = ductuslaw18_DerivShifts.T12 := by kernel_rfl
theorem ductuslaw18_DerivShifts.bits12 : waitsOk ductuslaw18_DerivShifts.T12.2 ductuslaw18_DerivShifts.B12 = true := by kernel_rfl
set_option maxHeartbeats 8000000 in
set_option maxRecDepth 100000 in
theorem ductuslaw18_DerivShifts.calls (k : Nat) (a0_0 : Int) (A0_1 : Option Addr) (c0_1 : Nat) (l0_1 : List (S52)) (a0_2 : Int) (a0_3 : Int) (A0_4 : Option Addr) (c0_4 : Nat) (l0_4 : List (S25)) (A1 : Option Addr) (c1 : Nat) (l1 : List Int) (a2 : Int) (r : Bool) (w : World) (hr0_1 : Kd.C k52 w A0_1 l0_1.length l0_1) (hc0_1 : l0_1.length ≤ c0_1) (hr0_4 : Kd.C k25 w A0_4 l0_4.length l0_4) (hc0_4 : l0_4.length ≤ c0_4) (hr1 : Kd.C (Kd.int .i64) w A1 l1.length l1) (hc1 : l1.length ≤ c1) (h : ductuslaw18_DerivShifts.f k a0_0 l0_1 a0_2 a0_3 l0_4 l1 a2 = some r) :
    Calls Try.prog 6 #[.agg #[.int .i64 a0_0, .slice A0_1 l0_1.length c0_1, .int .i64 a0_2, .int .i64 a0_3, .slice A0_4 l0_4.length c0_4], .slice A1 l1.length c1, .int .u8 a2] w fun e w' => e = .returned (.bool r) ∧ Below w.heap.size w w' := by
  have hu25 := Try.underlying25
  have HR0_1 := Aside0.mk hr0_1
  have HC0_1 := Aside0.mk hc0_1
  clear hr0_1 hc0_1
  have HR0_4 := Aside0.mk hr0_4
  have HC0_4 := Aside0.mk hc0_4
  clear hr0_4 hc0_4
  have HR1 := Aside0.mk hr1
  have HC1 := Aside0.mk hc1
  clear hr1 hc1
  have HB := Aside0.mk (Below.refl w.heap.size w)
  have H : ((ductuslaw18_alive.f).bind fun t270 => (if t270 = true then ((ductuslaw18_small.f k a0_0 l0_1 a0_2 a0_3 l0_4 l1).bind fun t271 => (if t271 = true then (if (l1.length : Int) > 20 then (ductuslaw18_DerivShifts.j0 k l1 a2 true a0_0 l0_1 a0_2 a0_3 l0_4) else ((ductusref16_Size.f k a0_0 l0_1 a0_2 a0_3 l0_4).bind fun t272 => (if t272 > 500 then (ductuslaw18_DerivShifts.j0 k l1 a2 true a0_0 l0_1 a0_2 a0_3 l0_4) else ((ductuslaw18_anchored.f k a0_0 l0_1 a0_2 a0_3 l0_4).bind fun t273 => (ductuslaw18_DerivShifts.j0 k l1 a2 t273 a0_0 l0_1 a0_2 a0_3 l0_4))))) else (ductuslaw18_DerivShifts.j0 k l1 a2 true a0_0 l0_1 a0_2 a0_3 l0_4))) else (none))) = some r := h
  clear h
  replace H := Option.bind_eq_some_iff.mp H
  obtain ⟨t270, A40, H⟩ := H
  replace H : (if t270 = true then ((ductuslaw18_small.f k a0_0 l0_1 a0_2 a0_3 l0_4 l1).bind fun t271 => (if t271 = true then (if (l1.length : Int) > 20 then (ductuslaw18_DerivShifts.j0 k l1 a2 true a0_0 l0_1 a0_2 a0_3 l0_4) else ((ductusref16_Size.f k a0_0 l0_1 a0_2 a0_3 l0_4).bind fun t272 => (if t272 > 500 then (ductuslaw18_DerivShifts.j0 k l1 a2 true a0_0 l0_1 a0_2 a0_3 l0_4) else ((ductuslaw18_anchored.f k a0_0 l0_1 a0_2 a0_3 l0_4).bind fun t273 => (ductuslaw18_DerivShifts.j0 k l1 a2 t273 a0_0 l0_1 a0_2 a0_3 l0_4))))) else (ductuslaw18_DerivShifts.j0 k l1 a2 true a0_0 l0_1 a0_2 a0_3 l0_4))) else (none)) = some r := H
  have A4 := Aside0.mk A40
  clear A40
  by_cases c5 : t270 = true
  rotate_left
  · replace c5 := Bool.eq_false_iff.mpr c5
    subst c5
    have H1 : (none) = some r := by rw [if_neg (show ¬ (false = true) by decide)] at H; exact H
    clear H
    have H := H1
    clear H1
    exact absurd H (by simp)
  subst c5
  have H1 : ((ductuslaw18_small.f k a0_0 l0_1 a0_2 a0_3 l0_4 l1).bind fun t271 => (if t271 = true then (if (l1.length : Int) > 20 then (ductuslaw18_DerivShifts.j0 k l1 a2 true a0_0 l0_1 a0_2 a0_3 l0_4) else ((ductusref16_Size.f k a0_0 l0_1 a0_2 a0_3 l0_4).bind fun t272 => (if t272 > 500 then (ductuslaw18_DerivShifts.j0 k l1 a2 true a0_0 l0_1 a0_2 a0_3 l0_4) else ((ductuslaw18_anchored.f k a0_0 l0_1 a0_2 a0_3 l0_4).bind fun t273 => (ductuslaw18_DerivShifts.j0 k l1 a2 t273 a0_0 l0_1 a0_2 a0_3 l0_4))))) else (ductuslaw18_DerivShifts.j0 k l1 a2 true a0_0 l0_1 a0_2 a0_3 l0_4))) = some r := by rw [if_pos rfl] at H; exact H
  clear H
  have H := H1
  clear H1
  have HC6 := Aside0.mk H
  clear H
  go_enter Try.func6, Try.ntmps6
  go_upto_region 3 with (first | ((with_reducible refine gate_dst (N := 3) rfl ?_); (try (refine gate_guard (by rfl) ?_; dsimp only)); refine box_event ?hg (N := 3) ?hd (cs := #[.int .i64 a0_0, .slice A0_1 l0_1.length c0_1, .int .i64 a0_2, .int .i64 a0_3, .slice A0_4 l0_4.length c0_4]) (t := 25) ?hr ?_; (case hd => rfl); (case hg => rfl); (case hr => first | (go_simp; done) | (go_simp; rfl)); intro gb269 hg w7 hbox hb; have n0_ := Aside0.mk (below_step (by repeat (first | (with_reducible first | exact HB.out | apply below_alloc | apply pw_below_drewN | apply below_drew1) | exact HB.out)) hb); have n1_ := Aside0.mk (hbox); have n2_ := Aside0.mk ((by rw [hg]; exact (below_size (by repeat (first | (with_reducible first | exact HB.out | apply below_alloc | apply pw_below_drewN | apply below_drew1) | exact HB.out))) : w.heap.size ≤ gb269)); have n3_ := Aside0.mk ((by rw [hg]; exact (below_size (by repeat (first | (with_reducible first | exact HB.out | apply below_alloc | apply pw_below_drewN | apply below_drew1) | exact HB.out))) : w.heap.size ≤ gb269)); clear HB; have HB := n0_; have BK269 := n1_; have GW269 := n2_; have GE269 := n3_; clear n0_ n1_ n2_ n3_; clear hb hbox hg) | ((with_reducible refine gate_callee (f := 7) rfl ?_); refine goesL_ (some 11) rfl rfl Try.func7 (by kernel_rfl) rfl #[] rfl (by (try simp only [List.map_toArray, List.map_cons, List.map_nil]); first | done | rfl | (simp only [List.length_drop, List.length_take]; rfl)) ?_; (with_reducible refine (ductuslaw18_alive.calls  true _ A4.out).mono ?_); rintro e w8 ⟨rfl, hb⟩; refine ⟨_, rfl, ?_⟩; have n0_ := Aside0.mk (blk_below (g := gb269) (o := .cells #[.int .i64 a0_0, .slice A0_1 l0_1.length c0_1, .int .i64 a0_2, .int .i64 a0_3, .slice A0_4 l0_4.length c0_4] 25 (0, 0)) (by (with_reducible repeat (first | refine blk_drewN ?_ _ | refine blk_drew ?_ | refine blk_alloc ?_ _)); exact BK269.out) hb); have n1_ := Aside0.mk (below_step (by repeat (first | (with_reducible first | exact HB.out | apply below_alloc | apply pw_below_drewN | apply below_drew1 | refine below_set ?_ GE269.out) | exact HB.out)) hb); clear BK269; clear HB; have BK269 := n0_; have HB := n1_; clear n0_ n1_; (try clear hb); (try clear hb2); (try clear hk); (try clear hi)))
  (try simp only [Act.put, List.setIfInBounds_toArray, List.set_cons_zero, List.set_cons_succ])
  go_cut [30] (fun v30 wc => ∃ (kq : Nat) (x30_5 : Bool), v30 = .bool x30_5 ∧ Aside0 (ductuslaw18_DerivShifts.j0 kq l1 a2 x30_5 a0_0 l0_1 a0_2 a0_3 l0_4 = some r) ∧ Aside0 (kq ≤ k) ∧ Aside0 (wc.heap[gb269]? = some (.cells #[.int .i64 a0_0, (.slice A0_1 l0_1.length c0_1), .int .i64 a0_2, .int .i64 a0_3, (.slice A0_4 l0_4.length c0_4)] 25 (0, 0))) ∧ Aside0 (Below w.heap.size w wc))
  case first =>
    have H := HC6.out
    clear HC6
    replace H := Option.bind_eq_some_iff.mp H
    obtain ⟨t271, A90, H⟩ := H
    replace H : (if t271 = true then (if (l1.length : Int) > 20 then (ductuslaw18_DerivShifts.j0 k l1 a2 true a0_0 l0_1 a0_2 a0_3 l0_4) else ((ductusref16_Size.f k a0_0 l0_1 a0_2 a0_3 l0_4).bind fun t272 => (if t272 > 500 then (ductuslaw18_DerivShifts.j0 k l1 a2 true a0_0 l0_1 a0_2 a0_3 l0_4) else ((ductuslaw18_anchored.f k a0_0 l0_1 a0_2 a0_3 l0_4).bind fun t273 => (ductuslaw18_DerivShifts.j0 k l1 a2 t273 a0_0 l0_1 a0_2 a0_3 l0_4))))) else (ductuslaw18_DerivShifts.j0 k l1 a2 true a0_0 l0_1 a0_2 a0_3 l0_4)) = some r := H
    have A9 := Aside0.mk A90
    clear A90
    by_cases c10 : t271 = true
    rotate_left
    · replace c10 := Bool.eq_false_iff.mpr c10
      subst c10
      have H1 : (ductuslaw18_DerivShifts.j0 k l1 a2 true a0_0 l0_1 a0_2 a0_3 l0_4) = some r := by rw [if_neg (show ¬ (false = true) by decide)] at H; exact H
      clear H
      have H := H1
      clear H1
      have H' := Aside0.mk H
      clear H
      have hcz27_0 : w8.cell? ⟨gb269, 0, none⟩ = some (.int .i64 a0_0) := (blk_cell BK269.out 0).trans rfl
      have hcz27_1 : w8.cell? ⟨gb269, 1, none⟩ = some (.slice A0_1 l0_1.length c0_1) := (blk_cell BK269.out 1).trans rfl
      have hcz27_2 : w8.cell? ⟨gb269, 2, none⟩ = some (.int .i64 a0_2) := (blk_cell BK269.out 2).trans rfl
      have hcz27_3 : w8.cell? ⟨gb269, 3, none⟩ = some (.int .i64 a0_3) := (blk_cell BK269.out 3).trans rfl
      have hcz27_4 : w8.cell? ⟨gb269, 4, none⟩ = some (.slice A0_4 l0_4.length c0_4) := (blk_cell BK269.out 4).trans rfl
      have hfz27_0 := blk_frozen BK269.out 0
      have hfz27_1 := blk_frozen BK269.out 1
      have hfz27_2 := blk_frozen BK269.out 2
      have hfz27_3 := blk_frozen BK269.out 3
      have hfz27_4 := blk_frozen BK269.out 4
      go_wp2_with (first | ((with_reducible refine gate_callee (f := 8) rfl ?_); refine goesL_ (some 15) rfl rfl Try.func8 (by kernel_rfl) rfl #[.agg #[.int .i64 a0_0, .slice A0_1 l0_1.length c0_1, .int .i64 a0_2, .int .i64 a0_3, .slice A0_4 l0_4.length c0_4], .slice A1 l1.length c1] rfl (by (try simp only [List.map_toArray, List.map_cons, List.map_nil]); first | done | rfl | (simp only [List.length_drop, List.length_take]; rfl)) ?_; (with_reducible refine (ductuslaw18_small.calls k a0_0 _ _ l0_1 a0_2 a0_3 _ _ l0_4 _ _ l1 false _ ?side1 ?side2 ?side3 ?side4 ?side5 ?side6 A9.out).mono ?_); (case side1 => repeat (first | exact (Kd.C_below HR0_1.out HB.out) | (with_reducible refine Kd.C_alloc ?_ _) | (with_reducible refine Kd.C_drewN ?_ _) | (with_reducible refine Kd.C_drew ?_))); (case side2 => exact HC0_1.out); (case side3 => repeat (first | exact (Kd.C_below HR0_4.out HB.out) | (with_reducible refine Kd.C_alloc ?_ _) | (with_reducible refine Kd.C_drewN ?_ _) | (with_reducible refine Kd.C_drew ?_))); (case side4 => exact HC0_4.out); (case side5 => repeat (first | exact (Kd.C_below HR1.out HB.out) | (with_reducible refine Kd.C_alloc ?_ _) | (with_reducible refine Kd.C_drewN ?_ _) | (with_reducible refine Kd.C_drew ?_))); (case side6 => exact HC1.out); rintro e w28 ⟨rfl, hb⟩; refine ⟨_, rfl, ?_⟩; have n0_ := Aside0.mk (blk_below (g := gb269) (o := .cells #[.int .i64 a0_0, .slice A0_1 l0_1.length c0_1, .int .i64 a0_2, .int .i64 a0_3, .slice A0_4 l0_4.length c0_4] 25 (0, 0)) (by (with_reducible repeat (first | refine blk_drewN ?_ _ | refine blk_drew ?_ | refine blk_alloc ?_ _)); exact BK269.out) hb); have n1_ := Aside0.mk (below_step (by repeat (first | (with_reducible first | exact HB.out | apply below_alloc | apply pw_below_drewN | apply below_drew1 | refine below_set ?_ GE269.out) | exact HB.out)) hb); clear BK269; clear HB; have BK269 := n0_; have HB := n1_; clear n0_ n1_; (try clear hb); (try clear hb2); (try clear hk); (try clear hi)))
      go_meet
      case rel => exact ⟨_, (true), (by first | rfl | (simp; done) | (simp [*]; done)), H', ⟨by first | omega | exact Nat.le_refl _⟩, ⟨by (with_reducible repeat (first | refine blk_drewN ?_ _ | refine blk_drew ?_ | refine blk_alloc ?_ _)); exact BK269.out⟩, ⟨by repeat (first | (with_reducible first | exact HB.out | apply below_alloc | apply pw_below_drewN | apply below_drew1 | refine below_set ?_ GE269.out) | exact HB.out)⟩⟩
    subst c10
    have H1 : (if (l1.length : Int) > 20 then (ductuslaw18_DerivShifts.j0 k l1 a2 true a0_0 l0_1 a0_2 a0_3 l0_4) else ((ductusref16_Size.f k a0_0 l0_1 a0_2 a0_3 l0_4).bind fun t272 => (if t272 > 500 then (ductuslaw18_DerivShifts.j0 k l1 a2 true a0_0 l0_1 a0_2 a0_3 l0_4) else ((ductuslaw18_anchored.f k a0_0 l0_1 a0_2 a0_3 l0_4).bind fun t273 => (ductuslaw18_DerivShifts.j0 k l1 a2 t273 a0_0 l0_1 a0_2 a0_3 l0_4))))) = some r := by rw [if_pos rfl] at H; exact H
    clear H
    have H := H1
    clear H1
    by_cases c11 : (l1.length : Int) > 20
    · rw [if_pos c11] at H
      have c11b0 : decide (20 < (l1.length : Int)) = true := decide_eq_true c11
      have c11b1 : decide (20 < l1.length) = true := decide_eq_true (by omega)
      clear c11
      (first | rw [c11b0] | (simp only [i64_w, i32_w]; rw [c11b0]) | skip)
      have H' := Aside0.mk H
      clear H
      have hcz12_0 : w8.cell? ⟨gb269, 0, none⟩ = some (.int .i64 a0_0) := (blk_cell BK269.out 0).trans rfl
      have hcz12_1 : w8.cell? ⟨gb269, 1, none⟩ = some (.slice A0_1 l0_1.length c0_1) := (blk_cell BK269.out 1).trans rfl
      have hcz12_2 : w8.cell? ⟨gb269, 2, none⟩ = some (.int .i64 a0_2) := (blk_cell BK269.out 2).trans rfl
      have hcz12_3 : w8.cell? ⟨gb269, 3, none⟩ = some (.int .i64 a0_3) := (blk_cell BK269.out 3).trans rfl
      have hcz12_4 : w8.cell? ⟨gb269, 4, none⟩ = some (.slice A0_4 l0_4.length c0_4) := (blk_cell BK269.out 4).trans rfl
      have hfz12_0 := blk_frozen BK269.out 0
      have hfz12_1 := blk_frozen BK269.out 1
      have hfz12_2 := blk_frozen BK269.out 2
      have hfz12_3 := blk_frozen BK269.out 3
      have hfz12_4 := blk_frozen BK269.out 4
      go_wp2_with (first | ((with_reducible refine gate_callee (f := 8) rfl ?_); refine goesL_ (some 15) rfl rfl Try.func8 (by kernel_rfl) rfl #[.agg #[.int .i64 a0_0, .slice A0_1 l0_1.length c0_1, .int .i64 a0_2, .int .i64 a0_3, .slice A0_4 l0_4.length c0_4], .slice A1 l1.length c1] rfl (by (try simp only [List.map_toArray, List.map_cons, List.map_nil]); first | done | rfl | (simp only [List.length_drop, List.length_take]; rfl)) ?_; (with_reducible refine (ductuslaw18_small.calls k a0_0 _ _ l0_1 a0_2 a0_3 _ _ l0_4 _ _ l1 true _ ?side1 ?side2 ?side3 ?side4 ?side5 ?side6 A9.out).mono ?_); (case side1 => repeat (first | exact (Kd.C_below HR0_1.out HB.out) | (with_reducible refine Kd.C_alloc ?_ _) | (with_reducible refine Kd.C_drewN ?_ _) | (with_reducible refine Kd.C_drew ?_))); (case side2 => exact HC0_1.out); (case side3 => repeat (first | exact (Kd.C_below HR0_4.out HB.out) | (with_reducible refine Kd.C_alloc ?_ _) | (with_reducible refine Kd.C_drewN ?_ _) | (with_reducible refine Kd.C_drew ?_))); (case side4 => exact HC0_4.out); (case side5 => repeat (first | exact (Kd.C_below HR1.out HB.out) | (with_reducible refine Kd.C_alloc ?_ _) | (with_reducible refine Kd.C_drewN ?_ _) | (with_reducible refine Kd.C_drew ?_))); (case side6 => exact HC1.out); rintro e w13 ⟨rfl, hb⟩; refine ⟨_, rfl, ?_⟩; have n0_ := Aside0.mk (blk_below (g := gb269) (o := .cells #[.int .i64 a0_0, .slice A0_1 l0_1.length c0_1, .int .i64 a0_2, .int .i64 a0_3, .slice A0_4 l0_4.length c0_4] 25 (0, 0)) (by (with_reducible repeat (first | refine blk_drewN ?_ _ | refine blk_drew ?_ | refine blk_alloc ?_ _)); exact BK269.out) hb); have n1_ := Aside0.mk (below_step (by repeat (first | (with_reducible first | exact HB.out | apply below_alloc | apply pw_below_drewN | apply below_drew1 | refine below_set ?_ GE269.out) | exact HB.out)) hb); clear BK269; clear HB; have BK269 := n0_; have HB := n1_; clear n0_ n1_; (try clear hb); (try clear hb2); (try clear hk); (try clear hi)))
      go_meet
      case rel => exact ⟨_, (true), (by first | rfl | (simp; done) | (simp [*]; done)), H', ⟨by first | omega | exact Nat.le_refl _⟩, ⟨by (with_reducible repeat (first | refine blk_drewN ?_ _ | refine blk_drew ?_ | refine blk_alloc ?_ _)); exact BK269.out⟩, ⟨by repeat (first | (with_reducible first | exact HB.out | apply below_alloc | apply pw_below_drewN | apply below_drew1 | refine below_set ?_ GE269.out) | exact HB.out)⟩⟩
    rw [if_neg c11] at H
    have c11b0 : decide (20 < (l1.length : Int)) = false := decide_eq_false c11
    have c11b1 : decide (20 < l1.length) = false := decide_eq_false (by omega)
    clear c11
    (first | rw [c11b0] | (simp only [i64_w, i32_w]; rw [c11b0]) | skip)
    replace H := Option.bind_eq_some_iff.mp H
    obtain ⟨t272, A140, H⟩ := H
    replace H : (if t272 > 500 then (ductuslaw18_DerivShifts.j0 k l1 a2 true a0_0 l0_1 a0_2 a0_3 l0_4) else ((ductuslaw18_anchored.f k a0_0 l0_1 a0_2 a0_3 l0_4).bind fun t273 => (ductuslaw18_DerivShifts.j0 k l1 a2 t273 a0_0 l0_1 a0_2 a0_3 l0_4))) = some r := H
    have A14 := Aside0.mk A140
    clear A140
    by_cases c15 : t272 > 500
    · rw [if_pos c15] at H
      have c15b0 : decide (500 < t272) = true := decide_eq_true c15
      clear c15
      have H' := Aside0.mk H
      clear H
      have hcz16_0 : w8.cell? ⟨gb269, 0, none⟩ = some (.int .i64 a0_0) := (blk_cell BK269.out 0).trans rfl
      have hcz16_1 : w8.cell? ⟨gb269, 1, none⟩ = some (.slice A0_1 l0_1.length c0_1) := (blk_cell BK269.out 1).trans rfl
      have hcz16_2 : w8.cell? ⟨gb269, 2, none⟩ = some (.int .i64 a0_2) := (blk_cell BK269.out 2).trans rfl
      have hcz16_3 : w8.cell? ⟨gb269, 3, none⟩ = some (.int .i64 a0_3) := (blk_cell BK269.out 3).trans rfl
      have hcz16_4 : w8.cell? ⟨gb269, 4, none⟩ = some (.slice A0_4 l0_4.length c0_4) := (blk_cell BK269.out 4).trans rfl
      have hfz16_0 := blk_frozen BK269.out 0
      have hfz16_1 := blk_frozen BK269.out 1
      have hfz16_2 := blk_frozen BK269.out 2
      have hfz16_3 := blk_frozen BK269.out 3
      have hfz16_4 := blk_frozen BK269.out 4
      go_wp2_with (first | ((with_reducible refine gate_callee (f := 8) rfl ?_); refine goesL_ (some 15) rfl rfl Try.func8 (by kernel_rfl) rfl #[.agg #[.int .i64 a0_0, .slice A0_1 l0_1.length c0_1, .int .i64 a0_2, .int .i64 a0_3, .slice A0_4 l0_4.length c0_4], .slice A1 l1.length c1] rfl (by (try simp only [List.map_toArray, List.map_cons, List.map_nil]); first | done | rfl | (simp only [List.length_drop, List.length_take]; rfl)) ?_; (with_reducible refine (ductuslaw18_small.calls k a0_0 _ _ l0_1 a0_2 a0_3 _ _ l0_4 _ _ l1 true _ ?side1 ?side2 ?side3 ?side4 ?side5 ?side6 A9.out).mono ?_); (case side1 => repeat (first | exact (Kd.C_below HR0_1.out HB.out) | (with_reducible refine Kd.C_alloc ?_ _) | (with_reducible refine Kd.C_drewN ?_ _) | (with_reducible refine Kd.C_drew ?_))); (case side2 => exact HC0_1.out); (case side3 => repeat (first | exact (Kd.C_below HR0_4.out HB.out) | (with_reducible refine Kd.C_alloc ?_ _) | (with_reducible refine Kd.C_drewN ?_ _) | (with_reducible refine Kd.C_drew ?_))); (case side4 => exact HC0_4.out); (case side5 => repeat (first | exact (Kd.C_below HR1.out HB.out) | (with_reducible refine Kd.C_alloc ?_ _) | (with_reducible refine Kd.C_drewN ?_ _) | (with_reducible refine Kd.C_drew ?_))); (case side6 => exact HC1.out); rintro e w17 ⟨rfl, hb⟩; refine ⟨_, rfl, ?_⟩; have n0_ := Aside0.mk (blk_below (g := gb269) (o := .cells #[.int .i64 a0_0, .slice A0_1 l0_1.length c0_1, .int .i64 a0_2, .int .i64 a0_3, .slice A0_4 l0_4.length c0_4] 25 (0, 0)) (by (with_reducible repeat (first | refine blk_drewN ?_ _ | refine blk_drew ?_ | refine blk_alloc ?_ _)); exact BK269.out) hb); have n1_ := Aside0.mk (below_step (by repeat (first | (with_reducible first | exact HB.out | apply below_alloc | apply pw_below_drewN | apply below_drew1 | refine below_set ?_ GE269.out) | exact HB.out)) hb); clear BK269; clear HB; have BK269 := n0_; have HB := n1_; clear n0_ n1_; (try clear hb); (try clear hb2); (try clear hk); (try clear hi); have hcz18_0 : w17.cell? ⟨gb269, 0, none⟩ = some (.int .i64 a0_0) := (blk_cell BK269.out 0).trans rfl; have hcz18_1 : w17.cell? ⟨gb269, 1, none⟩ = some (.slice A0_1 l0_1.length c0_1) := (blk_cell BK269.out 1).trans rfl; have hcz18_2 : w17.cell? ⟨gb269, 2, none⟩ = some (.int .i64 a0_2) := (blk_cell BK269.out 2).trans rfl; have hcz18_3 : w17.cell? ⟨gb269, 3, none⟩ = some (.int .i64 a0_3) := (blk_cell BK269.out 3).trans rfl; have hcz18_4 : w17.cell? ⟨gb269, 4, none⟩ = some (.slice A0_4 l0_4.length c0_4) := (blk_cell BK269.out 4).trans rfl; have hfz18_0 := blk_frozen BK269.out 0; have hfz18_1 := blk_frozen BK269.out 1; have hfz18_2 := blk_frozen BK269.out 2; have hfz18_3 := blk_frozen BK269.out 3; have hfz18_4 := blk_frozen BK269.out 4) | (go_at_call 11; (with_reducible refine (ductusref16_Size.calls k a0_0 _ _ l0_1 a0_2 a0_3 _ _ l0_4 t272 _ ?side1 ?side2 ?side3 ?side4 A14.out).mono ?_); (case side1 => repeat (first | exact (Kd.C_below HR0_1.out HB.out) | (with_reducible refine Kd.C_alloc ?_ _) | (with_reducible refine Kd.C_drewN ?_ _) | (with_reducible refine Kd.C_drew ?_))); (case side2 => exact HC0_1.out); (case side3 => repeat (first | exact (Kd.C_below HR0_4.out HB.out) | (with_reducible refine Kd.C_alloc ?_ _) | (with_reducible refine Kd.C_drewN ?_ _) | (with_reducible refine Kd.C_drew ?_))); (case side4 => exact HC0_4.out); rintro e w19 ⟨rfl, hb⟩; have n0_ := Aside0.mk (blk_below (g := gb269) (o := .cells #[.int .i64 a0_0, .slice A0_1 l0_1.length c0_1, .int .i64 a0_2, .int .i64 a0_3, .slice A0_4 l0_4.length c0_4] 25 (0, 0)) (by (with_reducible repeat (first | refine blk_drewN ?_ _ | refine blk_drew ?_ | refine blk_alloc ?_ _)); exact BK269.out) hb); have n1_ := Aside0.mk (below_step (by repeat (first | (with_reducible first | exact HB.out | apply below_alloc | apply pw_below_drewN | apply below_drew1 | refine below_set ?_ GE269.out) | exact HB.out)) hb); clear BK269; clear HB; have BK269 := n0_; have HB := n1_; clear n0_ n1_; (try clear hb); (try clear hb2); (try clear hk); (try clear hi)))
      go_meet
      case rel => exact ⟨_, (true), (by first | rfl | (simp; done) | (simp [*]; done)), H', ⟨by first | omega | exact Nat.le_refl _⟩, ⟨by (with_reducible repeat (first | refine blk_drewN ?_ _ | refine blk_drew ?_ | refine blk_alloc ?_ _)); exact BK269.out⟩, ⟨by repeat (first | (with_reducible first | exact HB.out | apply below_alloc | apply pw_below_drewN | apply below_drew1 | refine below_set ?_ GE269.out) | exact HB.out)⟩⟩
    rw [if_neg c15] at H
    have c15b0 : decide (500 < t272) = false := decide_eq_false c15
    clear c15
    replace H := Option.bind_eq_some_iff.mp H
    obtain ⟨t273, A200, H⟩ := H
    replace H : (ductuslaw18_DerivShifts.j0 k l1 a2 t273 a0_0 l0_1 a0_2 a0_3 l0_4) = some r := H
    have A20 := Aside0.mk A200
    clear A200
    have H' := Aside0.mk H
    clear H
    have hcz21_0 : w8.cell? ⟨gb269, 0, none⟩ = some (.int .i64 a0_0) := (blk_cell BK269.out 0).trans rfl
    have hcz21_1 : w8.cell? ⟨gb269, 1, none⟩ = some (.slice A0_1 l0_1.length c0_1) := (blk_cell BK269.out 1).trans rfl
    have hcz21_2 : w8.cell? ⟨gb269, 2, none⟩ = some (.int .i64 a0_2) := (blk_cell BK269.out 2).trans rfl
    have hcz21_3 : w8.cell? ⟨gb269, 3, none⟩ = some (.int .i64 a0_3) := (blk_cell BK269.out 3).trans rfl
    have hcz21_4 : w8.cell? ⟨gb269, 4, none⟩ = some (.slice A0_4 l0_4.length c0_4) := (blk_cell BK269.out 4).trans rfl
    have hfz21_0 := blk_frozen BK269.out 0
    have hfz21_1 := blk_frozen BK269.out 1
    have hfz21_2 := blk_frozen BK269.out 2
    have hfz21_3 := blk_frozen BK269.out 3
    have hfz21_4 := blk_frozen BK269.out 4
    go_wp2_with (first | ((with_reducible refine gate_callee (f := 8) rfl ?_); refine goesL_ (some 15) rfl rfl Try.func8 (by kernel_rfl) rfl #[.agg #[.int .i64 a0_0, .slice A0_1 l0_1.length c0_1, .int .i64 a0_2, .int .i64 a0_3, .slice A0_4 l0_4.length c0_4], .slice A1 l1.length c1] rfl (by (try simp only [List.map_toArray, List.map_cons, List.map_nil]); first | done | rfl | (simp only [List.length_drop, List.length_take]; rfl)) ?_; (with_reducible refine (ductuslaw18_small.calls k a0_0 _ _ l0_1 a0_2 a0_3 _ _ l0_4 _ _ l1 true _ ?side1 ?side2 ?side3 ?side4 ?side5 ?side6 A9.out).mono ?_); (case side1 => repeat (first | exact (Kd.C_below HR0_1.out HB.out) | (with_reducible refine Kd.C_alloc ?_ _) | (with_reducible refine Kd.C_drewN ?_ _) | (with_reducible refine Kd.C_drew ?_))); (case side2 => exact HC0_1.out); (case side3 => repeat (first | exact (Kd.C_below HR0_4.out HB.out) | (with_reducible refine Kd.C_alloc ?_ _) | (with_reducible refine Kd.C_drewN ?_ _) | (with_reducible refine Kd.C_drew ?_))); (case side4 => exact HC0_4.out); (case side5 => repeat (first | exact (Kd.C_below HR1.out HB.out) | (with_reducible refine Kd.C_alloc ?_ _) | (with_reducible refine Kd.C_drewN ?_ _) | (with_reducible refine Kd.C_drew ?_))); (case side6 => exact HC1.out); rintro e w22 ⟨rfl, hb⟩; refine ⟨_, rfl, ?_⟩; have n0_ := Aside0.mk (blk_below (g := gb269) (o := .cells #[.int .i64 a0_0, .slice A0_1 l0_1.length c0_1, .int .i64 a0_2, .int .i64 a0_3, .slice A0_4 l0_4.length c0_4] 25 (0, 0)) (by (with_reducible repeat (first | refine blk_drewN ?_ _ | refine blk_drew ?_ | refine blk_alloc ?_ _)); exact BK269.out) hb); have n1_ := Aside0.mk (below_step (by repeat (first | (with_reducible first | exact HB.out | apply below_alloc | apply pw_below_drewN | apply below_drew1 | refine below_set ?_ GE269.out) | exact HB.out)) hb); clear BK269; clear HB; have BK269 := n0_; have HB := n1_; clear n0_ n1_; (try clear hb); (try clear hb2); (try clear hk); (try clear hi); have hcz23_0 : w22.cell? ⟨gb269, 0, none⟩ = some (.int .i64 a0_0) := (blk_cell BK269.out 0).trans rfl; have hcz23_1 : w22.cell? ⟨gb269, 1, none⟩ = some (.slice A0_1 l0_1.length c0_1) := (blk_cell BK269.out 1).trans rfl; have hcz23_2 : w22.cell? ⟨gb269, 2, none⟩ = some (.int .i64 a0_2) := (blk_cell BK269.out 2).trans rfl; have hcz23_3 : w22.cell? ⟨gb269, 3, none⟩ = some (.int .i64 a0_3) := (blk_cell BK269.out 3).trans rfl; have hcz23_4 : w22.cell? ⟨gb269, 4, none⟩ = some (.slice A0_4 l0_4.length c0_4) := (blk_cell BK269.out 4).trans rfl; have hfz23_0 := blk_frozen BK269.out 0; have hfz23_1 := blk_frozen BK269.out 1; have hfz23_2 := blk_frozen BK269.out 2; have hfz23_3 := blk_frozen BK269.out 3; have hfz23_4 := blk_frozen BK269.out 4) | (go_at_call 11; (with_reducible refine (ductusref16_Size.calls k a0_0 _ _ l0_1 a0_2 a0_3 _ _ l0_4 t272 _ ?side1 ?side2 ?side3 ?side4 A14.out).mono ?_); (case side1 => repeat (first | exact (Kd.C_below HR0_1.out HB.out) | (with_reducible refine Kd.C_alloc ?_ _) | (with_reducible refine Kd.C_drewN ?_ _) | (with_reducible refine Kd.C_drew ?_))); (case side2 => exact HC0_1.out); (case side3 => repeat (first | exact (Kd.C_below HR0_4.out HB.out) | (with_reducible refine Kd.C_alloc ?_ _) | (with_reducible refine Kd.C_drewN ?_ _) | (with_reducible refine Kd.C_drew ?_))); (case side4 => exact HC0_4.out); rintro e w24 ⟨rfl, hb⟩; have n0_ := Aside0.mk (blk_below (g := gb269) (o := .cells #[.int .i64 a0_0, .slice A0_1 l0_1.length c0_1, .int .i64 a0_2, .int .i64 a0_3, .slice A0_4 l0_4.length c0_4] 25 (0, 0)) (by (with_reducible repeat (first | refine blk_drewN ?_ _ | refine blk_drew ?_ | refine blk_alloc ?_ _)); exact BK269.out) hb); have n1_ := Aside0.mk (below_step (by repeat (first | (with_reducible first | exact HB.out | apply below_alloc | apply pw_below_drewN | apply below_drew1 | refine below_set ?_ GE269.out) | exact HB.out)) hb); clear BK269; clear HB; have BK269 := n0_; have HB := n1_; clear n0_ n1_; (try clear hb); (try clear hb2); (try clear hk); (try clear hi); have hcz25_0 : w24.cell? ⟨gb269, 0, none⟩ = some (.int .i64 a0_0) := (blk_cell BK269.out 0).trans rfl; have hcz25_1 : w24.cell? ⟨gb269, 1, none⟩ = some (.slice A0_1 l0_1.length c0_1) := (blk_cell BK269.out 1).trans rfl; have hcz25_2 : w24.cell? ⟨gb269, 2, none⟩ = some (.int .i64 a0_2) := (blk_cell BK269.out 2).trans rfl; have hcz25_3 : w24.cell? ⟨gb269, 3, none⟩ = some (.int .i64 a0_3) := (blk_cell BK269.out 3).trans rfl; have hcz25_4 : w24.cell? ⟨gb269, 4, none⟩ = some (.slice A0_4 l0_4.length c0_4) := (blk_cell BK269.out 4).trans rfl; have hfz25_0 := blk_frozen BK269.out 0; have hfz25_1 := blk_frozen BK269.out 1; have hfz25_2 := blk_frozen BK269.out 2; have hfz25_3 := blk_frozen BK269.out 3; have hfz25_4 := blk_frozen BK269.out 4) | (go_at_call 17; (with_reducible refine (ductuslaw18_anchored.calls k a0_0 _ _ l0_1 a0_2 a0_3 _ _ l0_4 t273 _ ?side1 ?side2 ?side3 ?side4 A20.out).mono ?_); (case side1 => repeat (first | exact (Kd.C_below HR0_1.out HB.out) | (with_reducible refine Kd.C_alloc ?_ _) | (with_reducible refine Kd.C_drewN ?_ _) | (with_reducible refine Kd.C_drew ?_))); (case side2 => exact HC0_1.out); (case side3 => repeat (first | exact (Kd.C_below HR0_4.out HB.out) | (with_reducible refine Kd.C_alloc ?_ _) | (with_reducible refine Kd.C_drewN ?_ _) | (with_reducible refine Kd.C_drew ?_))); (case side4 => exact HC0_4.out); rintro e w26 ⟨rfl, hb⟩; have n0_ := Aside0.mk (blk_below (g := gb269) (o := .cells #[.int .i64 a0_0, .slice A0_1 l0_1.length c0_1, .int .i64 a0_2, .int .i64 a0_3, .slice A0_4 l0_4.length c0_4] 25 (0, 0)) (by (with_reducible repeat (first | refine blk_drewN ?_ _ | refine blk_drew ?_ | refine blk_alloc ?_ _)); exact BK269.out) hb); have n1_ := Aside0.mk (below_step (by repeat (first | (with_reducible first | exact HB.out | apply below_alloc | apply pw_below_drewN | apply below_drew1 | refine below_set ?_ GE269.out) | exact HB.out)) hb); clear BK269; clear HB; have BK269 := n0_; have HB := n1_; clear n0_ n1_; (try clear hb); (try clear hb2); (try clear hk); (try clear hi)))
    go_meet
    case rel => exact ⟨_, (t273), (by first | rfl | (simp; done) | (simp [*]; done)), H', ⟨by first | omega | exact Nat.le_refl _⟩, ⟨by (with_reducible repeat (first | refine blk_drewN ?_ _ | refine blk_drew ?_ | refine blk_alloc ?_ _)); exact BK269.out⟩, ⟨by repeat (first | (with_reducible first | exact HB.out | apply below_alloc | apply pw_below_drewN | apply below_drew1 | refine below_set ?_ GE269.out) | exact HB.out)⟩⟩
  case rest =>
    clear HC6
    try clear c1
    try clear p2
    try clear c5
    try clear c6
    try clear c7
    try clear c8
    try clear c10
    try clear c11
    try clear c11b0
    try clear c11b1
    try clear c15
    try clear c15b0
    try clear hcz12_0
    try clear hcz12_1
    try clear hcz12_2
    try clear hcz12_3
    try clear hcz12_4
    try clear hcz16_0
    try clear hcz16_1
    try clear hcz16_2
    try clear hcz16_3
    try clear hcz16_4
    try clear hcz18_0
    try clear hcz18_1
    try clear hcz18_2
    try clear hcz18_3
    try clear hcz18_4
    try clear hcz21_0
    try clear hcz21_1
    try clear hcz21_2
    try clear hcz21_3
    try clear hcz21_4
    try clear hcz23_0
    try clear hcz23_1
    try clear hcz23_2
    try clear hcz23_3
    try clear hcz23_4
    try clear hcz25_0
    try clear hcz25_1
    try clear hcz25_2
    try clear hcz25_3
    try clear hcz25_4
    try clear hcz27_0
    try clear hcz27_1
    try clear hcz27_2
    try clear hcz27_3
    try clear hcz27_4
    try clear hfz12_0
    try clear hfz12_1
    try clear hfz12_2
    try clear hfz12_3
    try clear hfz12_4
    try clear hfz16_0
    try clear hfz16_1
    try clear hfz16_2
    try clear hfz16_3
    try clear hfz16_4
    try clear hfz18_0
    try clear hfz18_1
    try clear hfz18_2
    try clear hfz18_3
    try clear hfz18_4
    try clear hfz21_0
    try clear hfz21_1
    try clear hfz21_2
    try clear hfz21_3
    try clear hfz21_4
    try clear hfz23_0
    try clear hfz23_1
    try clear hfz23_2
    try clear hfz23_3
    try clear hfz23_4
    try clear hfz25_0
    try clear hfz25_1
    try clear hfz25_2
    try clear hfz25_3
    try clear hfz25_4
    try clear hfz27_0
    try clear hfz27_1
    try clear hfz27_2
    try clear hfz27_3
    try clear hfz27_4
    obtain ⟨kq, x30_5, rfl, HA, HJ5, BK269, HB⟩ := hcut
    cases kq with
    | zero => exact absurd HA.out (by simp [ductuslaw18_DerivShifts.j0])
    | succ kj5 =>
      have H := HA.out
      clear HA
      simp only [ductuslaw18_DerivShifts.j0] at H
      by_cases c29 : x30_5 = true
      · subst c29
        have H1 : (some true) = some r := by rw [if_pos rfl] at H; exact H
        clear H
        have H := H1
        clear H1
        obtain rfl := Option.some.inj H
        go_wp2
        go_ret
        exact ⟨by first | rfl | (simp [errW_none, errW_some] <;> rfl) | (simp [*, errW_none, errW_some] <;> rfl), by repeat (first | (with_reducible first | exact HB.out | apply below_alloc | apply pw_below_drewN | apply below_drew1 | refine below_set ?_ GE269.out) | exact HB.out)⟩
      replace c29 := Bool.eq_false_iff.mpr c29
      subst c29
      have H1 : (if (wrap64 ((l1.length : Int) + 1)) = 0 then (none) else ((deriv_Ends.f kj5 a0_0 l0_1 a0_2 a0_3 l0_4 l1 (Int.tmod (wrap64 (a2)) (wrap64 ((l1.length : Int) + 1)))).bind fun t274 => (if 0 ≤ (Int.tmod (wrap64 (a2)) (wrap64 ((l1.length : Int) + 1))) then (if (Int.tmod (wrap64 (a2)) (wrap64 ((l1.length : Int) + 1))) ≤ (l1.length : Int) then ((deriv_Ends.f kj5 a0_0 l0_1 a0_2 a0_3 l0_4 (l1.drop ((Int.tmod (wrap64 (a2)) (wrap64 ((l1.length : Int) + 1))) : Int).toNat) 0).bind fun t278 => (if (t274.length : Int) = (t278.length : Int) then (ductuslaw18_DerivShifts.l0 kj5 (Int.tmod (wrap64 (a2)) (wrap64 ((l1.length : Int) + 1))) t274 t278 0 a0_0 l0_1 a0_2 a0_3 l0_4) else (none))) else (none)) else (none)))) = some r := by rw [if_neg (show ¬ (false = true) by decide)] at H; exact H
      clear H
      have H := H1
      clear H1
      by_cases c30 : (wrap64 ((l1.length : Int) + 1)) = 0
      · rw [if_pos c30] at H
        exact absurd H (by simp)
      rw [if_neg c30] at H
      have c30b0 : ((wrap64 ((l1.length : Int) + 1)) == 0) = false := beq_eq_false_iff_ne.mpr c30
      have c30b1 : ((wrap64 ((l1.length : Int) + 1)) != 0) = true := bne_iff_ne.mpr c30
      replace H := Option.bind_eq_some_iff.mp H
      obtain ⟨t274, A310, H⟩ := H
      replace H : (if 0 ≤ (Int.tmod (wrap64 (a2)) (wrap64 ((l1.length : Int) + 1))) then (if (Int.tmod (wrap64 (a2)) (wrap64 ((l1.length : Int) + 1))) ≤ (l1.length : Int) then ((deriv_Ends.f kj5 a0_0 l0_1 a0_2 a0_3 l0_4 (l1.drop ((Int.tmod (wrap64 (a2)) (wrap64 ((l1.length : Int) + 1))) : Int).toNat) 0).bind fun t278 => (if (t274.length : Int) = (t278.length : Int) then (ductuslaw18_DerivShifts.l0 kj5 (Int.tmod (wrap64 (a2)) (wrap64 ((l1.length : Int) + 1))) t274 t278 0 a0_0 l0_1 a0_2 a0_3 l0_4) else (none))) else (none)) else (none)) = some r := H
      have A31 := Aside0.mk A310
      clear A310
      obtain ⟨ji32, hji32⟩ : ∃ j_ : Int, (Int.tmod (wrap64 (a2)) (wrap64 ((l1.length : Int) + 1))) = j_ := ⟨_, rfl⟩
      replace H : (if 0 ≤ (ji32) then (if (ji32) ≤ (l1.length : Int) then ((deriv_Ends.f kj5 a0_0 l0_1 a0_2 a0_3 l0_4 (l1.drop ((ji32) : Int).toNat) 0).bind fun t278 => (if (t274.length : Int) = (t278.length : Int) then (ductuslaw18_DerivShifts.l0 kj5 ji32 t274 t278 0 a0_0 l0_1 a0_2 a0_3 l0_4) else (none))) else (none)) else (none)) = some r := by first | (rw [hji32] at H; exact H) | (simp only [hji32] at H ⊢; exact H)
      (try rw [hji32] at A31)
      by_cases c33 : 0 ≤ (ji32)
      rotate_left
      · rw [if_neg c33] at H
        exact absurd H (by simp)
      rw [if_pos c33] at H
      have c33b0 := eq_true c33
      have c33b1 : decide (0 ≤ (ji32)) = true := decide_eq_true c33
      clear c33
      by_cases c34 : (ji32) ≤ (l1.length : Int)
      rotate_left
      · rw [if_neg c34] at H
        exact absurd H (by simp)
      rw [if_pos c34] at H
      have c34b0 := eq_true c34
      have c34b1 : decide ((ji32) ≤ (l1.length : Int)) = true := decide_eq_true c34
      clear c34
      replace H := Option.bind_eq_some_iff.mp H
      obtain ⟨t278, A350, H⟩ := H
      replace H : (if (t274.length : Int) = (t278.length : Int) then (ductuslaw18_DerivShifts.l0 kj5 ji32 t274 t278 0 a0_0 l0_1 a0_2 a0_3 l0_4) else (none)) = some r := H
      have A35 := Aside0.mk A350
      clear A350
      by_cases c36 : (t274.length : Int) = (t278.length : Int)
      rotate_left
      · rw [if_neg c36] at H
        exact absurd H (by simp)
      rw [if_pos c36] at H
      have c36b0 : ((t274.length : Int) == (t278.length : Int)) = true := beq_iff_eq.mpr c36
      have c36b1 : ((t274.length : Int) != (t278.length : Int)) = false := bne_eq_false_iff_eq.mpr c36
      have c36b2 : (t274.length == t278.length) = true := by first | simpa using c36 | (simp at c36 ⊢; omega)
      clear c36
      have H' := Aside0.mk H
      clear H
      try go_wp2
      have n0_ := Aside0.mk (blk_drew BK269.out)
      have n1_ := Aside0.mk (below_drew1 HB.out)
      clear BK269
      clear HB
      have BK269 := n0_
      have HB := n1_
      clear n0_ n1_
      obtain ⟨i038, hi038, _, hsz38, _⟩ := info_parts info3
      obtain ⟨A38, hcut38, hA38, hC38⟩ := print_drop_of (P := Try.prog) (Value.int .i64) 0 26 3 .i64 Try.underlying26 hi038 hsz38 A1 c1 l1 (ji32) (of_decide_eq_true (by first | (with_reducible assumption) | assumption)) (of_decide_eq_true (by first | (with_reducible assumption) | assumption)) HC1.out
      have HR277 := Aside0.mk (Kd.C_of_reads (h1 := fun _ => rfl) (hA38 _ (Kd.reads_of_C HR1.out)))
      have HC277 := Aside0.mk hC38
      clear hA38 hC38 hi038 hsz38
      refine start_ (n := 11) (S := fun w' => w'.cell? ⟨gb269, 0, none⟩ = some (.int .i64 a0_0) ∧ w'.cell? ⟨gb269, 1, none⟩ = some (.slice A0_1 l0_1.length c0_1) ∧ w'.cell? ⟨gb269, 2, none⟩ = some (.int .i64 a0_2) ∧ w'.cell? ⟨gb269, 3, none⟩ = some (.int .i64 a0_3) ∧ w'.cell? ⟨gb269, 4, none⟩ = some (.slice A0_4 l0_4.length c0_4)) (ds := []) #[false, false, false, false, false, false, false, false, false, false, false] (by kernel_rfl) rfl rfl ⟨(blk_cell BK269.out 0).trans rfl, (blk_cell BK269.out 1).trans rfl, (blk_cell BK269.out 2).trans rfl, (blk_cell BK269.out 3).trans rfl, (blk_cell BK269.out 4).trans rfl⟩ (fun hHeld => ?_); refine with_tabW ductuslaw18_DerivShifts.tab6 ductuslaw18_DerivShifts.bits6 (fun HT_ HW_ => ?_)
      generalize wc.drew = w37 at BK269 HB HR277 hHeld ⊢
      refine pure_ (i := 1) (N := some 38) (v := ?_) (a' := ?_) #[false, true, false, false, false, false, false, false, false, false, false] rfl rfl (any_of HT_.out (by kernel_rfl)) (fun _ _ _ h => h) (Or.inl ⟨by rfl, ?_⟩) ?_ ?_
      rotate_left
      · intro w'
        go_simp
        with_reducible rfl
      rotate_left
      · simp only [Act.put, List.setIfInBounds_toArray, List.set_cons_zero, List.set_cons_succ, i64_w, i32_w]
        rfl
      refine pure_ (i := 2) (N := some 39) (v := ?_) (a' := ?_) #[false, true, true, false, false, false, false, false, false, false, false] rfl rfl (any_of HT_.out (by kernel_rfl)) (fun _ _ _ h => h) (Or.inl ⟨by rfl, ?_⟩) ?_ ?_
      rotate_left
      · intro w'
        go_simp
        with_reducible rfl
      rotate_left
      · simp only [Act.put, List.setIfInBounds_toArray, List.set_cons_zero, List.set_cons_succ, i64_w, i32_w]
        rfl
      refine pure_ (i := 5) (N := some 42) (v := ?_) (a' := ?_) #[false, true, true, false, false, true, false, false, false, false, false] rfl rfl (any_of HT_.out (by kernel_rfl)) (fun _ _ _ h => h) (Or.inl ⟨by rfl, ?_⟩) ?_ ?_
      rotate_left
      · intro w'
        go_simp
        with_reducible rfl
      rotate_left
      · simp only [Act.put, List.setIfInBounds_toArray, List.set_cons_zero, List.set_cons_succ, i64_w, i32_w]
        rfl
      refine pure_ (i := 6) (N := some 43) (v := ?_) (a' := ?_) #[false, true, true, false, false, true, true, false, false, false, false] rfl rfl (any_of HT_.out (by kernel_rfl)) (fun _ _ _ h => h) (Or.inl ⟨by rfl, ?_⟩) ?_ ?_
      rotate_left
      · intro w'
        go_simp
        with_reducible rfl
      rotate_left
      · simp only [Act.put, List.setIfInBounds_toArray, List.set_cons_zero, List.set_cons_succ, i64_w, i32_w]
        rfl
      refine pure_ (i := 7) (N := some 44) (v := ?_) (a' := ?_) #[false, true, true, false, false, true, true, true, false, false, false] rfl rfl (any_of HT_.out (by kernel_rfl)) (fun _ _ _ h => h) (Or.inl ⟨by rfl, ?_⟩) ?_ ?_
      rotate_left
      · intro w'
        go_simp
        with_reducible rfl
      rotate_left
      · simp only [Act.put, List.setIfInBounds_toArray, List.set_cons_zero, List.set_cons_succ, i64_w, i32_w]
        rfl
      refine take_ (i := 0) (N := some 37) (v := ?_) (a' := ?_) #[true, true, true, false, false, true, true, true, false, false, false] rfl rfl (take_ofW HT_.out HW_.out (by kernel_rfl)) (fun _ _ _ h => h) (Or.inl ⟨by rfl, ?_⟩) hHeld ?_ ?_
      rotate_left
      · rintro w' ⟨s0, s1, s2, s3, s4⟩
        go_simp
        with_reducible rfl
      rotate_left
      · simp only [Act.put, List.setIfInBounds_toArray, List.set_cons_zero, List.set_cons_succ, i64_w, i32_w]
        rfl
      refine take_ (i := 4) (N := some 41) (v := ?_) (a' := ?_) #[true, true, true, false, true, true, true, true, false, false, false] rfl rfl (take_ofW HT_.out HW_.out (by kernel_rfl)) (fun _ _ _ h => h) (Or.inl ⟨by rfl, ?_⟩) hHeld ?_ ?_
      rotate_left
      · rintro w' ⟨s0, s1, s2, s3, s4⟩
        go_simp
        with_reducible rfl
      rotate_left
      · simp only [Act.put, List.setIfInBounds_toArray, List.set_cons_zero, List.set_cons_succ, i64_w, i32_w]
        rfl
      refine one_ (i := 3) (N := some 40) #[true, true, true, true, true, true, true, true, false, false, false] rfl rfl (one_of HT_.out (by kernel_rfl)) (by decide) (fun K hK => ?_)
      refine goes_ Try.func14 (by kernel_rfl) rfl #[.agg #[.int .i64 a0_0, .slice A0_1 l0_1.length c0_1, .int .i64 a0_2, .int .i64 a0_3, .slice A0_4 l0_4.length c0_4], .slice A1 l1.length c1, .int .i64 ji32] (by rfl) rfl rfl (by (try simp only [List.map_toArray, List.map_cons, List.map_nil]); first | done | (simp only [hji32]; rfl) | rfl | (simp only [List.length_drop, List.length_take]; rfl)) ?_
      with_reducible refine (deriv_Ends.calls kj5 a0_0 _ _ l0_1 a0_2 a0_3 _ _ l0_4 _ _ l1 ji32 t274 _ ?side1 ?side2 ?side3 ?side4 ?side5 ?side6 A31.out).mono ?_
      (case side1 => repeat (first | exact (Kd.C_below HR0_1.out HB.out) | (with_reducible refine Kd.C_alloc ?_ _) | (with_reducible refine Kd.C_drewN ?_ _) | (with_reducible refine Kd.C_drew ?_)))
      (case side2 => exact HC0_1.out)
      (case side3 => repeat (first | exact (Kd.C_below HR0_4.out HB.out) | (with_reducible refine Kd.C_alloc ?_ _) | (with_reducible refine Kd.C_drewN ?_ _) | (with_reducible refine Kd.C_drew ?_)))
      (case side4 => exact HC0_4.out)
      (case side5 => repeat (first | exact (Kd.C_below HR1.out HB.out) | (with_reducible refine Kd.C_alloc ?_ _) | (with_reducible refine Kd.C_drewN ?_ _) | (with_reducible refine Kd.C_drew ?_)))
      (case side6 => exact HC1.out)
      rintro e w39 ⟨v275, rfl, ho0, hb⟩
      refine ⟨_, rfl, ?_⟩
      have n0_ := Aside0.mk (Kd.R_lower ho0 (below_size (by repeat (first | (with_reducible first | exact HB.out | apply below_alloc | apply pw_below_drewN | apply below_drew1 | refine below_set ?_ GE269.out) | exact HB.out))))
      have n1_ := Aside0.mk (blk_below (g := gb269) (o := .cells #[.int .i64 a0_0, .slice A0_1 l0_1.length c0_1, .int .i64 a0_2, .int .i64 a0_3, .slice A0_4 l0_4.length c0_4] 25 (0, 0)) (by (with_reducible repeat (first | refine blk_drewN ?_ _ | refine blk_drew ?_ | refine blk_alloc ?_ _)); exact BK269.out) hb)
      have n2_ := Aside0.mk (below_step (by repeat (first | (with_reducible first | exact HB.out | apply below_alloc | apply pw_below_drewN | apply below_drew1 | refine below_set ?_ GE269.out) | exact HB.out)) hb)
      clear BK269
      clear HB
      have HO276 := n0_
      have BK269 := n1_
      have HB := n2_
      clear n0_ n1_ n2_
      (try clear hb)
      (try clear hb2)
      (try clear hk)
      (try clear hi)
      (try clear ho0)
      refine hK.out _ _ ⟨(blk_cell BK269.out 0).trans rfl, (blk_cell BK269.out 1).trans rfl, (blk_cell BK269.out 2).trans rfl, (blk_cell BK269.out 3).trans rfl, (blk_cell BK269.out 4).trans rfl⟩ (fun hHeld => ?_)
      clear hK K
      refine norm_ (a' := ?_) ?_ ?_
      rotate_left
      · show Act.put _ (some 40) _ = _
        simp only [Act.put, List.setIfInBounds_toArray, List.set_cons_zero, List.set_cons_succ, i64_w, i32_w]
        rfl
      refine one_ (i := 8) (N := some 45) #[true, true, true, true, true, true, true, true, true, false, false] rfl rfl (one_of HT_.out (by kernel_rfl)) (by decide) (fun K hK => ?_)
      refine goes_ Try.func14 (by kernel_rfl) rfl #[.agg #[.int .i64 a0_0, .slice A0_1 l0_1.length c0_1, .int .i64 a0_2, .int .i64 a0_3, .slice A0_4 l0_4.length c0_4], .slice A38 (l1.drop ((ji32) : Int).toNat).length (c1 - (ji32).toNat), .int .i64 0] (by rfl) rfl rfl (by (try simp only [List.map_toArray, List.map_cons, List.map_nil]); first | done | (rw [show (l1.drop ((ji32) : Int).toNat).length = (l1.length - (ji32).toNat) from List.length_drop] <;> rfl) | (simp only [hji32]; rfl) | rfl | (simp only [List.length_drop, List.length_take]; rfl)) ?_
      with_reducible refine (deriv_Ends.calls kj5 a0_0 _ _ l0_1 a0_2 a0_3 _ _ l0_4 _ _ (l1.drop ((ji32) : Int).toNat) 0 t278 _ ?side1 ?side2 ?side3 ?side4 ?side5 ?side6 A35.out).mono ?_
      (case side1 => repeat (first | exact (Kd.C_below HR0_1.out HB.out) | (with_reducible refine Kd.C_alloc ?_ _) | (with_reducible refine Kd.C_drewN ?_ _) | (with_reducible refine Kd.C_drew ?_)))
      (case side2 => exact HC0_1.out)
      (case side3 => repeat (first | exact (Kd.C_below HR0_4.out HB.out) | (with_reducible refine Kd.C_alloc ?_ _) | (with_reducible refine Kd.C_drewN ?_ _) | (with_reducible refine Kd.C_drew ?_)))
      (case side4 => exact HC0_4.out)
      (case side5 => repeat (first | exact (Kd.C_below HR277.out HB.out) | (with_reducible refine Kd.C_alloc ?_ _) | (with_reducible refine Kd.C_drewN ?_ _) | (with_reducible refine Kd.C_drew ?_)))
      (case side6 => exact HC277.out)
      rintro e w40 ⟨v279, rfl, ho0, hb⟩
      refine ⟨_, rfl, ?_⟩
      have n0_ := Aside0.mk (Kd.R_elder' (by (with_reducible repeat (first | apply Kd.R_alloc | apply Kd.R_drewN | apply Kd.R_drew)); exact HO276.out) (Kd.R_base ho0) hb)
      have n1_ := Aside0.mk (Kd.R_lower (Kd.R_new' ho0 (Kd.R_lt (by (with_reducible repeat (first | apply Kd.R_alloc | apply Kd.R_drewN | apply Kd.R_drew)); exact HO276.out))) (below_size (by repeat (first | (with_reducible first | exact HB.out | apply below_alloc | apply pw_below_drewN | apply below_drew1 | refine below_set ?_ GE269.out) | exact HB.out))))
      have n2_ := Aside0.mk (blk_below (g := gb269) (o := .cells #[.int .i64 a0_0, .slice A0_1 l0_1.length c0_1, .int .i64 a0_2, .int .i64 a0_3, .slice A0_4 l0_4.length c0_4] 25 (0, 0)) (by (with_reducible repeat (first | refine blk_drewN ?_ _ | refine blk_drew ?_ | refine blk_alloc ?_ _)); exact BK269.out) hb)
      have n3_ := Aside0.mk (below_step (by repeat (first | (with_reducible first | exact HB.out | apply below_alloc | apply pw_below_drewN | apply below_drew1 | refine below_set ?_ GE269.out) | exact HB.out)) hb)
      clear HO276
      clear BK269
      clear HB
      have HO276 := n0_
      have HO280 := n1_
      have BK269 := n2_
      have HB := n3_
      clear n0_ n1_ n2_ n3_
      (try clear hb)
      (try clear hb2)
      (try clear hk)
      (try clear hi)
      (try clear ho0)
      refine hK.out _ _ ⟨(blk_cell BK269.out 0).trans rfl, (blk_cell BK269.out 1).trans rfl, (blk_cell BK269.out 2).trans rfl, (blk_cell BK269.out 3).trans rfl, (blk_cell BK269.out 4).trans rfl⟩ (fun hHeld => ?_)
      clear hK K
      refine norm_ (a' := ?_) ?_ ?_
      rotate_left
      · show Act.put _ (some 45) _ = _
        simp only [Act.put, List.setIfInBounds_toArray, List.set_cons_zero, List.set_cons_succ, i64_w, i32_w]
        rfl
      refine pure_ (i := 9) (N := some 8) (v := ?_) (a' := ?_) #[true, true, true, true, true, true, true, true, true, true, false] rfl rfl (any_of HT_.out (by kernel_rfl)) (fun _ _ _ h => h) (Or.inl ⟨by rfl, ?_⟩) ?_ ?_
      rotate_left
      · intro w'
        go_simp
        with_reducible rfl
      rotate_left
      · simp only [Act.put, List.setIfInBounds_toArray, List.set_cons_zero, List.set_cons_succ, i64_w, i32_w]
        rfl
      refine pure_ (i := 10) (N := some 9) (v := ?_) (a' := ?_) #[true, true, true, true, true, true, true, true, true, true, true] rfl rfl (any_of HT_.out (by kernel_rfl)) (fun _ _ _ h => h) (Or.inl ⟨by rfl, ?_⟩) ?_ ?_
      rotate_left
      · intro w'
        go_simp
        with_reducible rfl
      rotate_left
      · simp only [Act.put, List.setIfInBounds_toArray, List.set_cons_zero, List.set_cons_succ, i64_w, i32_w]
        rfl
      refine done_ (done_of HT_.out (by kernel_rfl)) ?_
      obtain ⟨Ao41, co41, eo41⟩ := Kd.R_slice HO276.out
      subst eo41
      obtain ⟨Ao42, co42, eo42⟩ := Kd.R_slice HO280.out
      subst eo42
      try go_wp2
      go_loopg [10] kj5 (fun kq v10 w' => ∃ (x10_2 : Int), v10 = .int .i64 x10_2 ∧ Aside0 (ductuslaw18_DerivShifts.l0 kq ji32 t274 t278 x10_2 a0_0 l0_1 a0_2 a0_3 l0_4 = some r) ∧ Aside0 (kq ≤ kj5) ∧ Aside0 (Kd.R (Kd.int .i64) 3 w' w.heap.size (fun k_ => some k_ ≠ ((.slice Ao42 t278.length co42) : Value).ownBlock) (.slice Ao41 t274.length co41) t274) ∧ Aside0 (Kd.R (Kd.int .i64) 3 w' w.heap.size (fun k_ => some k_ ≠ ((.slice Ao41 t274.length co41) : Value).ownBlock) (.slice Ao42 t278.length co42) t278) ∧ Aside0 (w'.heap[gb269]? = some (.cells #[.int .i64 a0_0, (.slice A0_1 l0_1.length c0_1), .int .i64 a0_2, .int .i64 a0_3, (.slice A0_4 l0_4.length c0_4)] 25 (0, 0))) ∧ Aside0 (Below w.heap.size w w'))
      case atStart => exact ⟨(0), (by first | rfl | (simp; done) | (simp [*]; done)), H', ⟨Nat.le_refl _⟩, ⟨by (with_reducible repeat (first | apply Kd.R_alloc | apply Kd.R_drewN | apply Kd.R_drew)); exact Kd.R_mono HO276.out (fun _ hk => hk.2)⟩, ⟨by (with_reducible repeat (first | apply Kd.R_alloc | apply Kd.R_drewN | apply Kd.R_drew)); exact Kd.R_mono HO280.out (fun _ hk => hk.2)⟩, ⟨by (with_reducible repeat (first | refine blk_drewN ?_ _ | refine blk_drew ?_ | refine blk_alloc ?_ _)); exact BK269.out⟩, ⟨by repeat (first | (with_reducible first | exact HB.out | apply below_alloc | apply pw_below_drewN | apply below_drew1 | refine below_set ?_ GE269.out) | exact HB.out)⟩⟩
      case round =>
        clear H'
        try clear c1
        try clear c2
        try clear p2
        try clear c3
        try clear c5
        try clear c6
        try clear p6
        try clear c7
        try clear c8
        try clear c10
        try clear c11
        try clear c11b0
        try clear c11b1
        try clear c14
        try clear c15
        try clear c15b0
        try clear c29
        try clear c30
        try clear c30b0
        try clear c30b1
        try clear c33
        try clear c33b0
        try clear c33b1
        try clear c34
        try clear c34b0
        try clear c34b1
        try clear c36
        try clear c36b0
        try clear c36b1
        try clear c36b2
        try clear hcz12_0
        try clear hcz12_1
        try clear hcz12_2
        try clear hcz12_3
        try clear hcz12_4
        try clear hcz16_0
        try clear hcz16_1
        try clear hcz16_2
        try clear hcz16_3
        try clear hcz16_4
        try clear hcz18_0
        try clear hcz18_1
        try clear hcz18_2
        try clear hcz18_3
        try clear hcz18_4
        try clear hcz21_0
        try clear hcz21_1
        try clear hcz21_2
        try clear hcz21_3
        try clear hcz21_4
        try clear hcz23_0
        try clear hcz23_1
        try clear hcz23_2
        try clear hcz23_3
        try clear hcz23_4
        try clear hcz25_0
        try clear hcz25_1
        try clear hcz25_2
        try clear hcz25_3
        try clear hcz25_4
        try clear hcz27_0
        try clear hcz27_1
        try clear hcz27_2
        try clear hcz27_3
        try clear hcz27_4
        try clear hfz12_0
        try clear hfz12_1
        try clear hfz12_2
        try clear hfz12_3
        try clear hfz12_4
        try clear hfz16_0
        try clear hfz16_1
        try clear hfz16_2
        try clear hfz16_3
        try clear hfz16_4
        try clear hfz18_0
        try clear hfz18_1
        try clear hfz18_2
        try clear hfz18_3
        try clear hfz18_4
        try clear hfz21_0
        try clear hfz21_1
        try clear hfz21_2
        try clear hfz21_3
        try clear hfz21_4
        try clear hfz23_0
        try clear hfz23_1
        try clear hfz23_2
        try clear hfz23_3
        try clear hfz23_4
        try clear hfz25_0
        try clear hfz25_1
        try clear hfz25_2
        try clear hfz25_3
        try clear hfz25_4
        try clear hfz27_0
        try clear hfz27_1
        try clear hfz27_2
        try clear hfz27_3
        try clear hfz27_4
        try clear p2
        obtain ⟨x10_2, rfl, HA, HK2, HO_8, HO_9, BK269, HB⟩ := hrel
        cases gk with
        | zero => exact absurd HA.out (by simp [ductuslaw18_DerivShifts.l0])
        | succ k2 =>
          have H := HA.out
          clear HA
          simp only [ductuslaw18_DerivShifts.l0] at H
          by_cases c43 : x10_2 < (t274.length : Int)
          rotate_left
          · rw [if_neg c43] at H
            have c43b0 : decide (x10_2 < (t274.length : Int)) = false := decide_eq_false c43
            clear c43
            replace H := Option.bind_eq_some_iff.mp H
            obtain ⟨t283, A480, H⟩ := H
            replace H : ((deriv_Null.f k2 a0_0 l0_1 a0_2 a0_3 l0_4 true true).bind fun t284 => (some (t283 == t284))) = some r := H
            have A48 := Aside0.mk A480
            clear A480
            replace H := Option.bind_eq_some_iff.mp H
            obtain ⟨t284, A490, H⟩ := H
            replace H : (some (t283 == t284)) = some r := H
            have A49 := Aside0.mk A490
            clear A490
            obtain rfl := Option.some.inj H
            try go_wp2
            have n0_ := Aside0.mk (Kd.R_drew HO_8.out)
            have n1_ := Aside0.mk (Kd.R_drew HO_9.out)
            have n2_ := Aside0.mk (blk_drew BK269.out)
            have n3_ := Aside0.mk (below_drew1 HB.out)
            clear HO_8
            clear HO_9
            clear BK269
            clear HB
            have HO_8 := n0_
            have HO_9 := n1_
            have BK269 := n2_
            have HB := n3_
            clear n0_ n1_ n2_ n3_
            refine start_ (n := 6) (S := fun w' => w'.cell? ⟨gb269, 0, none⟩ = some (.int .i64 a0_0) ∧ w'.cell? ⟨gb269, 1, none⟩ = some (.slice A0_1 l0_1.length c0_1) ∧ w'.cell? ⟨gb269, 2, none⟩ = some (.int .i64 a0_2) ∧ w'.cell? ⟨gb269, 3, none⟩ = some (.int .i64 a0_3) ∧ w'.cell? ⟨gb269, 4, none⟩ = some (.slice A0_4 l0_4.length c0_4)) (ds := []) #[false, false, false, false, false, false] (by kernel_rfl) rfl rfl ⟨(blk_cell BK269.out 0).trans rfl, (blk_cell BK269.out 1).trans rfl, (blk_cell BK269.out 2).trans rfl, (blk_cell BK269.out 3).trans rfl, (blk_cell BK269.out 4).trans rfl⟩ (fun hHeld => ?_)
            generalize wr.drew = w50 at HO_8 HO_9 BK269 HB hHeld ⊢
            refine take_ (i := 0) (N := some 68) (v := ?_) (a' := ?_) #[true, false, false, false, false, false] rfl rfl (by kernel_rfl) (fun _ _ _ h => h) (Or.inl ⟨by rfl, ?_⟩) hHeld ?_ ?_
            rotate_left
            · rintro w' ⟨s0, s1, s2, s3, s4⟩
              go_simp
              with_reducible rfl
            rotate_left
            · simp only [Act.put, List.setIfInBounds_toArray, List.set_cons_zero, List.set_cons_succ, i64_w, i32_w]
              rfl
            refine take_ (i := 2) (N := some 70) (v := ?_) (a' := ?_) #[true, false, true, false, false, false] rfl rfl (by kernel_rfl) (fun _ _ _ h => h) (Or.inl ⟨by rfl, ?_⟩) hHeld ?_ ?_
            rotate_left
            · rintro w' ⟨s0, s1, s2, s3, s4⟩
              go_simp
              with_reducible rfl
            rotate_left
            · simp only [Act.put, List.setIfInBounds_toArray, List.set_cons_zero, List.set_cons_succ, i64_w, i32_w]
              rfl
            refine one_ (i := 1) (N := some 69) #[true, true, true, false, false, false] rfl rfl (by kernel_rfl) (by decide) (fun K hK => ?_)
            refine goes_ Try.func12 (by kernel_rfl) rfl #[.agg #[.int .i64 a0_0, .slice A0_1 l0_1.length c0_1, .int .i64 a0_2, .int .i64 a0_3, .slice A0_4 l0_4.length c0_4], .bool false, .bool false] (by rfl) rfl rfl (by (try simp only [List.map_toArray, List.map_cons, List.map_nil]); first | done | rfl | (simp only [List.length_drop, List.length_take]; rfl)) ?_
            with_reducible refine (deriv_Null.calls k2 a0_0 _ _ l0_1 a0_2 a0_3 _ _ l0_4 false false t283 _ ?side1 ?side2 ?side3 ?side4 A48.out).mono ?_
            (case side1 => repeat (first | exact (Kd.C_below HR0_1.out HB.out) | (with_reducible refine Kd.C_alloc ?_ _) | (with_reducible refine Kd.C_drewN ?_ _) | (with_reducible refine Kd.C_drew ?_)))
            (case side2 => exact HC0_1.out)
            (case side3 => repeat (first | exact (Kd.C_below HR0_4.out HB.out) | (with_reducible refine Kd.C_alloc ?_ _) | (with_reducible refine Kd.C_drewN ?_ _) | (with_reducible refine Kd.C_drew ?_)))
            (case side4 => exact HC0_4.out)
            rintro e w51 ⟨rfl, hb⟩
            refine ⟨_, rfl, ?_⟩
            have n0_ := Aside0.mk (Kd.R_below (by (with_reducible repeat (first | apply Kd.R_alloc | apply Kd.R_drewN | apply Kd.R_drew)); exact HO_8.out) hb)
            have n1_ := Aside0.mk (Kd.R_below (by (with_reducible repeat (first | apply Kd.R_alloc | apply Kd.R_drewN | apply Kd.R_drew)); exact HO_9.out) hb)
            have n2_ := Aside0.mk (blk_below (g := gb269) (o := .cells #[.int .i64 a0_0, .slice A0_1 l0_1.length c0_1, .int .i64 a0_2, .int .i64 a0_3, .slice A0_4 l0_4.length c0_4] 25 (0, 0)) (by (with_reducible repeat (first | refine blk_drewN ?_ _ | refine blk_drew ?_ | refine blk_alloc ?_ _)); exact BK269.out) hb)
            have n3_ := Aside0.mk (below_step (by repeat (first | (with_reducible first | exact HB.out | apply below_alloc | apply pw_below_drewN | apply below_drew1 | refine below_set ?_ GE269.out) | exact HB.out)) hb)
            clear HO_8
            clear HO_9
            clear BK269
            clear HB
            have HO_8 := n0_
            have HO_9 := n1_
            have BK269 := n2_
            have HB := n3_
            clear n0_ n1_ n2_ n3_
            (try clear hb)
            (try clear hb2)
            (try clear hk)
            (try clear hi)
            refine hK.out _ _ ⟨(blk_cell BK269.out 0).trans rfl, (blk_cell BK269.out 1).trans rfl, (blk_cell BK269.out 2).trans rfl, (blk_cell BK269.out 3).trans rfl, (blk_cell BK269.out 4).trans rfl⟩ (fun hHeld => ?_)
            clear hK K
            refine norm_ (a' := ?_) ?_ ?_
            rotate_left
            · show Act.put _ (some 69) _ = _
              simp only [Act.put, List.setIfInBounds_toArray, List.set_cons_zero, List.set_cons_succ, i64_w, i32_w]
              rfl
            refine one_ (i := 3) (N := some 71) #[true, true, true, true, false, false] rfl rfl (by kernel_rfl) (by decide) (fun K hK => ?_)
            refine goes_ Try.func12 (by kernel_rfl) rfl #[.agg #[.int .i64 a0_0, .slice A0_1 l0_1.length c0_1, .int .i64 a0_2, .int .i64 a0_3, .slice A0_4 l0_4.length c0_4], .bool true, .bool true] (by rfl) rfl rfl (by (try simp only [List.map_toArray, List.map_cons, List.map_nil]); first | done | rfl | (simp only [List.length_drop, List.length_take]; rfl)) ?_
            with_reducible refine (deriv_Null.calls k2 a0_0 _ _ l0_1 a0_2 a0_3 _ _ l0_4 true true t284 _ ?side1 ?side2 ?side3 ?side4 A49.out).mono ?_
            (case side1 => repeat (first | exact (Kd.C_below HR0_1.out HB.out) | (with_reducible refine Kd.C_alloc ?_ _) | (with_reducible refine Kd.C_drewN ?_ _) | (with_reducible refine Kd.C_drew ?_)))
            (case side2 => exact HC0_1.out)
            (case side3 => repeat (first | exact (Kd.C_below HR0_4.out HB.out) | (with_reducible refine Kd.C_alloc ?_ _) | (with_reducible refine Kd.C_drewN ?_ _) | (with_reducible refine Kd.C_drew ?_)))
            (case side4 => exact HC0_4.out)
            rintro e w52 ⟨rfl, hb⟩
            refine ⟨_, rfl, ?_⟩
            have n0_ := Aside0.mk (Kd.R_below (by (with_reducible repeat (first | apply Kd.R_alloc | apply Kd.R_drewN | apply Kd.R_drew)); exact HO_8.out) hb)
            have n1_ := Aside0.mk (Kd.R_below (by (with_reducible repeat (first | apply Kd.R_alloc | apply Kd.R_drewN | apply Kd.R_drew)); exact HO_9.out) hb)
            have n2_ := Aside0.mk (blk_below (g := gb269) (o := .cells #[.int .i64 a0_0, .slice A0_1 l0_1.length c0_1, .int .i64 a0_2, .int .i64 a0_3, .slice A0_4 l0_4.length c0_4] 25 (0, 0)) (by (with_reducible repeat (first | refine blk_drewN ?_ _ | refine blk_drew ?_ | refine blk_alloc ?_ _)); exact BK269.out) hb)
            have n3_ := Aside0.mk (below_step (by repeat (first | (with_reducible first | exact HB.out | apply below_alloc | apply pw_below_drewN | apply below_drew1 | refine below_set ?_ GE269.out) | exact HB.out)) hb)
            clear HO_8
            clear HO_9
            clear BK269
            clear HB
            have HO_8 := n0_
            have HO_9 := n1_
            have BK269 := n2_
            have HB := n3_
            clear n0_ n1_ n2_ n3_
            (try clear hb)
            (try clear hb2)
            (try clear hk)
            (try clear hi)
            refine hK.out _ _ ⟨(blk_cell BK269.out 0).trans rfl, (blk_cell BK269.out 1).trans rfl, (blk_cell BK269.out 2).trans rfl, (blk_cell BK269.out 3).trans rfl, (blk_cell BK269.out 4).trans rfl⟩ (fun hHeld => ?_)
            clear hK K
            refine norm_ (a' := ?_) ?_ ?_
            rotate_left
            · show Act.put _ (some 71) _ = _
              simp only [Act.put, List.setIfInBounds_toArray, List.set_cons_zero, List.set_cons_succ, i64_w, i32_w]
              rfl
            refine pure_ (i := 4) (N := some 72) (v := ?_) (a' := ?_) #[true, true, true, true, true, false] rfl rfl (by kernel_rfl) (fun _ _ _ h => h) (Or.inl ⟨by rfl, ?_⟩) ?_ ?_
            rotate_left
            · intro w'
              go_simp
              with_reducible rfl
            rotate_left
            · simp only [Act.put, List.setIfInBounds_toArray, List.set_cons_zero, List.set_cons_succ, i64_w, i32_w]
              rfl
            refine pure_ (i := 5) (N := some 6) (v := ?_) (a' := ?_) #[true, true, true, true, true, true] rfl rfl (by kernel_rfl) (fun _ _ _ h => h) (Or.inl ⟨by rfl, ?_⟩) ?_ ?_
            rotate_left
            · intro w'
              go_simp
              with_reducible rfl
            rotate_left
            · simp only [Act.put, List.setIfInBounds_toArray, List.set_cons_zero, List.set_cons_succ, i64_w, i32_w]
              rfl
            refine done_ (by kernel_rfl) ?_
            try go_wp2
            go_ret
            exact ⟨by first | rfl | (simp [errW_none, errW_some] <;> rfl) | (simp only [← hji32]; first | rfl | (simp [errW_none, errW_some] <;> rfl)) | (simp [*, errW_none, errW_some] <;> rfl), by repeat (first | (with_reducible first | exact HB.out | apply below_alloc | apply pw_below_drewN | apply below_drew1 | refine below_set ?_ GE269.out) | exact HB.out)⟩
          rw [if_pos c43] at H
          have c43b0 : decide (x10_2 < (t274.length : Int)) = true := decide_eq_true c43
          clear c43
          by_cases c44 : 0 ≤ x10_2
          rotate_left
          · rw [if_neg c44] at H
            exact absurd H (by simp)
          rw [if_pos c44] at H
          have c44b0 : decide (0 ≤ x10_2) = true := decide_eq_true c44
          clear c44
          by_cases c45 : x10_2 < (t278.length : Int)
          rotate_left
          · rw [if_neg c45] at H
            exact absurd H (by simp)
          rw [if_pos c45] at H
          have c45b0 : decide (x10_2 < (t278.length : Int)) = true := decide_eq_true c45
          clear c45
          by_cases c46 : (rd t274 x10_2) = (wrap64 ((rd t278 x10_2) + ji32))
          rotate_left
          · rw [if_neg c46] at H
            exact absurd H (by simp)
          rw [if_pos c46] at H
          have c46b0 : ((rd t274 x10_2) == (wrap64 ((rd t278 x10_2) + ji32))) = true := beq_iff_eq.mpr c46
          have c46b1 : ((rd t274 x10_2) != (wrap64 ((rd t278 x10_2) + ji32))) = false := bne_eq_false_iff_eq.mpr c46
          clear c46
          have H' := Aside0.mk H
          clear H
          try go_wp2
          have n0_ := Aside0.mk (Kd.R_drew HO_8.out)
          have n1_ := Aside0.mk (Kd.R_drew HO_9.out)
          have n2_ := Aside0.mk (blk_drew BK269.out)
          have n3_ := Aside0.mk (below_drew1 HB.out)
          clear HO_8
          clear HO_9
          clear BK269
          clear HB
          have HO_8 := n0_
          have HO_9 := n1_
          have BK269 := n2_
          have HB := n3_
          clear n0_ n1_ n2_ n3_
          have p281 : 0 ≤ (x10_2 : Int) := of_decide_eq_true (by first | (with_reducible assumption) | assumption)
          have q281 : x10_2 < (t274.length : Int) := of_decide_eq_true (by first | (with_reducible assumption) | assumption)
          obtain ⟨ad281, e281, hx281_0⟩ := Kd.at_int (Kd.R_reads' HO_8.out).2.2 x10_2 p281 q281
          cases e281
          replace p281 := eq_true p281
          replace q281 := eq_true q281
          have p282 : 0 ≤ (x10_2 : Int) := of_decide_eq_true (by first | (with_reducible assumption) | assumption)
          have q282 : x10_2 < (t278.length : Int) := of_decide_eq_true (by first | (with_reducible assumption) | assumption)
          obtain ⟨ad282, e282, hx282_0⟩ := Kd.at_int (Kd.R_reads' HO_9.out).2.2 x10_2 p282 q282
          cases e282
          replace p282 := eq_true p282
          replace q282 := eq_true q282
          refine start_ (n := 11) (S := fun w' => w'.cell? (ad281.add (x10_2).toNat) = some (.int .i64 (rd t274 x10_2)) ∧ w'.cell? (ad282.add (x10_2).toNat) = some (.int .i64 (rd t278 x10_2))) (ds := []) #[false, false, false, false, false, false, false, false, false, false, false] (by kernel_rfl) rfl rfl ⟨hx281_0, hx282_0⟩ (fun hHeld => ?_); refine with_tabW ductuslaw18_DerivShifts.tab12 ductuslaw18_DerivShifts.bits12 (fun HT_ HW_ => ?_)
          generalize wr.drew = w47 at HO_8 HO_9 BK269 HB hx281_0 hx282_0 hHeld ⊢
          refine pure_ (i := 0) (N := some 57) (v := ?_) (a' := ?_) #[true, false, false, false, false, false, false, false, false, false, false] rfl rfl (any_of HT_.out (by kernel_rfl)) (fun _ _ _ h => h) (Or.inl ⟨by rfl, ?_⟩) ?_ ?_
          rotate_left
          · intro w'
            go_simp
            with_reducible rfl
          rotate_left
          · simp only [Act.put, List.setIfInBounds_toArray, List.set_cons_zero, List.set_cons_succ, i64_w, i32_w]
            rfl
          refine pure_ (i := 1) (N := some 58) (v := ?_) (a' := ?_) #[true, true, false, false, false, false, false, false, false, false, false] rfl rfl (any_of HT_.out (by kernel_rfl)) (fun _ _ _ h => h) (Or.inl ⟨by rfl, ?_⟩) ?_ ?_
          rotate_left
          · intro w'
            go_simp
            with_reducible rfl
          rotate_left
          · simp only [Act.put, List.setIfInBounds_toArray, List.set_cons_zero, List.set_cons_succ, i64_w, i32_w]
            rfl
          refine pure_ (i := 2) (N := some 59) (v := ?_) (a' := ?_) #[true, true, true, false, false, false, false, false, false, false, false] rfl rfl (any_of HT_.out (by kernel_rfl)) (fun _ _ _ h => h) (Or.inl ⟨by rfl, ?_⟩) ?_ ?_
          rotate_left
          · intro w'
            go_simp
            with_reducible rfl
          rotate_left
          · simp only [Act.put, List.setIfInBounds_toArray, List.set_cons_zero, List.set_cons_succ, i64_w, i32_w]
            rfl
          refine pure_ (i := 4) (N := some 61) (v := ?_) (a' := ?_) #[true, true, true, false, true, false, false, false, false, false, false] rfl rfl (any_of HT_.out (by kernel_rfl)) (fun _ _ _ h => h) (Or.inl ⟨by rfl, ?_⟩) ?_ ?_
          rotate_left
          · intro w'
            go_simp
            with_reducible rfl
          rotate_left
          · simp only [Act.put, List.setIfInBounds_toArray, List.set_cons_zero, List.set_cons_succ, i64_w, i32_w]
            rfl
          refine pure_ (i := 5) (N := some 62) (v := ?_) (a' := ?_) #[true, true, true, false, true, true, false, false, false, false, false] rfl rfl (any_of HT_.out (by kernel_rfl)) (fun _ _ _ h => h) (Or.inl ⟨by rfl, ?_⟩) ?_ ?_
          rotate_left
          · intro w'
            go_simp
            with_reducible rfl
          rotate_left
          · simp only [Act.put, List.setIfInBounds_toArray, List.set_cons_zero, List.set_cons_succ, i64_w, i32_w]
            rfl
          refine pure_ (i := 6) (N := some 63) (v := ?_) (a' := ?_) #[true, true, true, false, true, true, true, false, false, false, false] rfl rfl (any_of HT_.out (by kernel_rfl)) (fun _ _ _ h => h) (Or.inl ⟨by rfl, ?_⟩) ?_ ?_
          rotate_left
          · intro w'
            go_simp
            with_reducible rfl
          rotate_left
          · simp only [Act.put, List.setIfInBounds_toArray, List.set_cons_zero, List.set_cons_succ, i64_w, i32_w]
            rfl
          refine pure_ (i := 8) (N := some 65) (v := ?_) (a' := ?_) #[true, true, true, false, true, true, true, false, true, false, false] rfl rfl (any_of HT_.out (by kernel_rfl)) (fun _ _ _ h => h) (Or.inl ⟨by rfl, ?_⟩) ?_ ?_
          rotate_left
          · intro w'
            go_simp
            with_reducible rfl
          rotate_left
          · simp only [Act.put, List.setIfInBounds_toArray, List.set_cons_zero, List.set_cons_succ, i64_w, i32_w]
            rfl
          refine take_ (i := 3) (N := some 60) (v := ?_) (a' := ?_) #[true, true, true, true, true, true, true, false, true, false, false] rfl rfl (take_ofW HT_.out HW_.out (by kernel_rfl)) (fun _ _ _ h => h) (Or.inl ⟨by rfl, ?_⟩) hHeld ?_ ?_
          rotate_left
          · rintro w' ⟨s0, s1⟩
            go_simp
            with_reducible rfl
          rotate_left
          · simp only [Act.put, List.setIfInBounds_toArray, List.set_cons_zero, List.set_cons_succ, i64_w, i32_w]
            rfl
          refine take_ (i := 7) (N := some 64) (v := ?_) (a' := ?_) #[true, true, true, true, true, true, true, true, true, false, false] rfl rfl (take_ofW HT_.out HW_.out (by kernel_rfl)) (fun _ _ _ h => h) (Or.inl ⟨by rfl, ?_⟩) hHeld ?_ ?_
          rotate_left
          · rintro w' ⟨s0, s1⟩
            go_simp
            with_reducible rfl
          rotate_left
          · simp only [Act.put, List.setIfInBounds_toArray, List.set_cons_zero, List.set_cons_succ, i64_w, i32_w]
            rfl
          refine pure_ (i := 9) (N := some 66) (v := ?_) (a' := ?_) #[true, true, true, true, true, true, true, true, true, true, false] rfl rfl (any_of HT_.out (by kernel_rfl)) (fun _ _ _ h => h) (Or.inl ⟨by rfl, ?_⟩) ?_ ?_
          rotate_left
          · intro w'
            go_simp
            with_reducible rfl
          rotate_left
          · simp only [Act.put, List.setIfInBounds_toArray, List.set_cons_zero, List.set_cons_succ, i64_w, i32_w]
            rfl
          refine pure_ (i := 10) (N := some 67) (v := ?_) (a' := ?_) #[true, true, true, true, true, true, true, true, true, true, true] rfl rfl (any_of HT_.out (by kernel_rfl)) (fun _ _ _ h => h) (Or.inl ⟨by rfl, ?_⟩) ?_ ?_
          rotate_left
          · intro w'
            go_simp
            with_reducible rfl
          rotate_left
          · simp only [Act.put, List.setIfInBounds_toArray, List.set_cons_zero, List.set_cons_succ, i64_w, i32_w]
            rfl
          refine done_ (done_of HT_.out (by kernel_rfl)) ?_
          try go_wp2
          go_roundg k2
          case measure => have := HJ5.out; have := HK2.out; omega
          case rel => exact ⟨(wrap64 (x10_2 + 1)), (by first | rfl | (simp; done) | (simp [*]; done)), H', ⟨by have := HJ5.out; have := HK2.out; omega⟩, ⟨by (with_reducible repeat (first | apply Kd.R_alloc | apply Kd.R_drewN | apply Kd.R_drew)); exact HO_8.out⟩, ⟨by (with_reducible repeat (first | apply Kd.R_alloc | apply Kd.R_drewN | apply Kd.R_drew)); exact HO_9.out⟩, ⟨by (with_reducible repeat (first | refine blk_drewN ?_ _ | refine blk_drew ?_ | refine blk_alloc ?_ _)); exact BK269.out⟩, ⟨by repeat (first | (with_reducible first | exact HB.out | apply below_alloc | apply pw_below_drewN | apply below_drew1 | refine below_set ?_ GE269.out) | exact HB.out)⟩⟩

end Go.Proofs.Ytaphbechnjmlgaa.P
namespace Go.Proofs.Ytaphbechnjmlgaa.P
open Go.RowKit Go.Proofs.YtaphbechnjmlgaaW.PrintWords Go.Proofs.YtaphbechnjmlgaaW.PrintLast
set_option linter.unusedVariables false

theorem wrap_id {x : Int} (h0 : -9223372036854775808 ≤ x) (h1 : x ≤ 9223372036854775807) : wrap64 x = x := by
  unfold wrap64
  omega
theorem wrap_succ (i : Nat) (h : i < 9223372036854775807) : wrap64 ((i : Int) + 1) = ((i + 1 : Nat) : Int) := by
  rw [wrap_id (by omega) (by omega)]
  omega
theorem rd_nat (xs : List Int) (i : Nat) : rd xs (i : Int) = xs.getD i 0 := by
  unfold rd
  rw [Int.toNat_natCast]
theorem rd_get (xs : List Int) (i : Nat) (h : i < xs.length) : rd xs (i : Int) = xs[i] := by
  rw [rd_nat, List.getD_eq_getElem?_getD, List.getElem?_eq_getElem h, Option.getD_some]
theorem drop_cons (xs : List Int) (i : Nat) (h : i < xs.length) : xs.drop i = rd xs (i : Int) :: xs.drop (i + 1) := by
  rw [rd_get xs i h]
  exact List.drop_eq_getElem_cons h
theorem more {α : Type} {g : Nat → Option α} (h : ∀ k, LeO (g k) (g (k + 1))) (k k' : Nat) (hk : k ≤ k') (r : α) (hr : g k = some r) : g k' = some r := at_rounds h hk hr
end Go.Proofs.Ytaphbechnjmlgaa.P
namespace Go.Proofs.Ytaphbechnjmlgaa.P
open Go.RowKit Go.Proofs.YtaphbechnjmlgaaW.PrintWords Go.Proofs.YtaphbechnjmlgaaW.PrintLast
set_option linter.unusedVariables false

theorem ev_step {α β : Type} {f : Nat → Option α} {g : Nat → Option β} {a : α} {r : β} (H : Ev f a) (h : ∀ k, f k = some a → g (k + 1) = some r) : Ev g r := by
  obtain ⟨K, H⟩ := H
  refine ⟨K + 1, fun k hk => ?_⟩
  obtain ⟨k, rfl⟩ : ∃ m, k = m + 1 := ⟨k - 1, by omega⟩
  exact h k (H k (by omega))
theorem ev_step2 {α β γ : Type} {f : Nat → Option α} {f2 : Nat → Option γ} {g : Nat → Option β} {a : α} {b : γ} {r : β} (H : Ev f a) (H2 : Ev f2 b) (h : ∀ k, f k = some a → f2 k = some b → g (k + 1) = some r) : Ev g r := by
  obtain ⟨K, H⟩ := H
  obtain ⟨K2, H2⟩ := H2
  refine ⟨K + K2 + 1, fun k hk => ?_⟩
  obtain ⟨k, rfl⟩ : ∃ m, k = m + 1 := ⟨k - 1, by omega⟩
  exact h k (H k (by omega)) (H2 k (by omega))
theorem ev_step3 {α β γ δ : Type} {f : Nat → Option α} {f2 : Nat → Option γ} {f3 : Nat → Option δ} {g : Nat → Option β} {a : α} {b : γ} {c : δ} {r : β} (H : Ev f a) (H2 : Ev f2 b) (H3 : Ev f3 c) (h : ∀ k, f k = some a → f2 k = some b → f3 k = some c → g (k + 1) = some r) : Ev g r := by
  obtain ⟨K, H⟩ := H
  obtain ⟨K2, H2⟩ := H2
  obtain ⟨K3, H3⟩ := H3
  refine ⟨K + K2 + K3 + 1, fun k hk => ?_⟩
  obtain ⟨k, rfl⟩ : ∃ m, k = m + 1 := ⟨k - 1, by omega⟩
  exact h k (H k (by omega)) (H2 k (by omega)) (H3 k (by omega))
theorem ev_one {β : Type} {g : Nat → Option β} {r : β} (h : ∀ k, g (k + 1) = some r) : Ev g r := ⟨1, fun k hk => by
  obtain ⟨k, rfl⟩ : ∃ m, k = m + 1 := ⟨k - 1, by omega⟩
  exact h k⟩
theorem ev_now {β : Type} {g : Nat → Option β} {r : β} (h : ∀ k, g k = some r) : Ev g r := ⟨0, fun k _ => h k⟩
theorem ev_same {α β : Type} {f : Nat → Option α} {g : Nat → Option β} {a : α} {r : β} (H : Ev f a) (h : ∀ k, f k = some a → g k = some r) : Ev g r := by
  obtain ⟨K, H⟩ := H
  exact ⟨K, fun k hk => h k (H k hk)⟩
theorem ev_same2 {α β γ : Type} {f : Nat → Option α} {f2 : Nat → Option γ} {g : Nat → Option β} {a : α} {b : γ} {r : β} (H : Ev f a) (H2 : Ev f2 b) (h : ∀ k, f k = some a → f2 k = some b → g k = some r) : Ev g r := by
  obtain ⟨K, H⟩ := H
  obtain ⟨K2, H2⟩ := H2
  exact ⟨K + K2, fun k hk => h k (H k (by omega)) (H2 k (by omega))⟩
theorem ev_same3 {α β γ δ : Type} {f : Nat → Option α} {f2 : Nat → Option γ} {f3 : Nat → Option δ} {g : Nat → Option β} {a : α} {b : γ} {c : δ} {r : β} (H : Ev f a) (H2 : Ev f2 b) (H3 : Ev f3 c) (h : ∀ k, f k = some a → f2 k = some b → f3 k = some c → g k = some r) : Ev g r := by
  obtain ⟨K, H⟩ := H
  obtain ⟨K2, H2⟩ := H2
  obtain ⟨K3, H3⟩ := H3
  exact ⟨K + K2 + K3, fun k hk => h k (H k (by omega)) (H2 k (by omega)) (H3 k (by omega))⟩
/-- Two answers at once. -/
theorem ev_and {α γ : Type} {f : Nat → Option α} {f2 : Nat → Option γ} {a : α} {b : γ} (H : Ev f a) (H2 : Ev f2 b) : Ev (fun k => (f k).bind fun x => (f2 k).map fun y => (x, y)) (a, b) :=
  ev_same2 H H2 fun k h h2 => by rw [h, h2]; rfl
theorem ev_fst {α γ : Type} {o : Option α} {o2 : Option γ} {a : α} {b : γ} (h : (o.bind fun x => o2.map fun y => (x, y)) = some (a, b)) : o = some a ∧ o2 = some b := by
  cases o with
  | none => cases h
  | some x =>
    cases o2 with
    | none => cases h
    | some y =>
      simp only [Option.bind_some, Option.map_some, Option.some.injEq, Prod.mk.injEq] at h
      rw [h.1, h.2]
      exact ⟨rfl, rfl⟩
end Go.Proofs.Ytaphbechnjmlgaa.P
namespace Go.Proofs.Ytaphbechnjmlgaa.P
open Go.RowKit Go.Proofs.YtaphbechnjmlgaaW.PrintWords Go.Proofs.YtaphbechnjmlgaaW.PrintLast
set_option linter.unusedVariables false
set_option linter.unusedSimpArgs false

abbrev TNode : Type := S25
abbrev TRange : Type := S52
def i64b (x : Int) : Prop := -9223372036854775808 ≤ x ∧ x ≤ 9223372036854775807
/-- A tree that can lie in memory. -/
inductive WfN : TNode → Prop
  | mk (x : TNode) (h0 : i64b x.f0) (h1 : ∀ r ∈ x.f1, i64b r.f0 ∧ i64b r.f1) (l1 : x.f1.length < 8796093022208) (h2 : i64b x.f2) (h3 : i64b x.f3) (l4 : x.f4.length < 2199023255552) (hk : ∀ y ∈ x.f4, WfN y) : WfN x
theorem node_ind {P : TNode → Prop} (h : ∀ x : TNode, (∀ y ∈ x.f4, P y) → P x) (x : TNode) : P x := by
  have key : ∀ n (x : TNode), SizeOf.sizeOf x ≤ n → P x := by
    intro n
    induction n with
    | zero =>
      intro x hx
      exact absurd hx (by cases x; simp)
    | succ n ih =>
      intro x hx
      refine h x fun y hy => ih y ?_
      have h1 := List.sizeOf_lt_of_mem hy
      have h2 : SizeOf.sizeOf x.f4 < SizeOf.sizeOf x := by cases x; simp; omega
      omega
  exact key _ x (Nat.le_refl _)
theorem tn_rd (l : List TNode) (i : Nat) (h : i < l.length) : rd_T25 l (i : Int) = l[i] := by
  unfold rd_T25
  rw [Int.toNat_natCast, List.getD_eq_getElem?_getD, List.getElem?_eq_getElem h, Option.getD_some]
theorem tn_mem (l : List TNode) (i : Nat) (h : i < l.length) : rd_T25 l (i : Int) ∈ l := by
  rw [tn_rd l i h]
  exact List.getElem_mem h
abbrev weightE (k : Nat) (x : TNode) (d : Int) : Option Int := ductusref16_Weight.f k x.f0 x.f1 x.f2 x.f3 x.f4 d
theorem weight_loop (f0 : Int) (f1 : List TRange) (f2 f3 : Int) (l : List TNode) (d B : Int) (hd : 0 ≤ d ∧ d ≤ 100) (hB : 0 ≤ B ∧ B < 8000000000000000000) (hl : l.length < 2199023255552) (hk : ∀ y ∈ l, ∃ W, Ev (fun k => weightE k y (d + 1)) W ∧ 1 ≤ W ∧ W ≤ B) (m : Nat) :
    ∀ (i : Nat) (s : Int), i + m = l.length → 1 ≤ s → s ≤ 9000000000000000000 → ∃ W, Ev (fun k => ductusref16_Weight.l0 k d s (i : Int) f0 f1 f2 f3 l) W ∧ s ≤ W ∧ (W ≤ s ∨ W ≤ 2000 + B) := by
  induction m with
  | zero =>
    intro i s hi h1 h2
    refine ⟨s, ev_one fun k => ?_, Int.le_refl _, .inl (Int.le_refl _)⟩
    simp only [ductusref16_Weight.l0]
    rw [if_neg (by omega)]
  | succ m ih =>
    intro i s hi h1 h2
    by_cases hs : s ≤ 2000
    · obtain ⟨V, hV, hV1, hV2⟩ := hk _ (tn_mem l i (by omega))
      obtain ⟨W, hW, hW1, hW2⟩ := ih (i + 1) (s + V) (by omega) (by omega) (by omega)
      refine ⟨W, ?_, by omega, by omega⟩
      have w1 : wrap64 (d + 1) = d + 1 := wrap_id (by omega) (by omega)
      have c1 : (i : Int) < (l.length : Int) := by omega
      have c2 : (0 : Int) ≤ (i : Int) := by omega
      have w2 : wrap64 (s + V) = s + V := wrap_id (by omega) (by omega)
      have w3 : wrap64 ((i : Int) + 1) = ((i + 1 : Nat) : Int) := wrap_succ i (by omega)
      refine ev_step2 hV hW fun k h1 h2 => ?_
      simp only [ductusref16_Weight.l0]
      rw [if_pos c1, if_pos hs, if_pos c2, w1]
      have h1' : ductusref16_Weight.f k (rd_T25 l (i : Int)).f0 (rd_T25 l (i : Int)).f1 (rd_T25 l (i : Int)).f2 (rd_T25 l (i : Int)).f3 (rd_T25 l (i : Int)).f4 (d + 1) = some V := h1
      rw [h1', Option.bind_some, w2, w3]
      exact h2
    · have c1 : (i : Int) < (l.length : Int) := by omega
      refine ⟨s, ev_one fun k => ?_, Int.le_refl _, .inl (Int.le_refl _)⟩
      simp only [ductusref16_Weight.l0]
      rw [if_pos c1, if_neg hs]
theorem weight_ev (x : TNode) : WfN x → ∀ d : Nat, d ≤ 101 → ∃ W, Ev (fun k => weightE k x (d : Int)) W ∧ 1 ≤ W ∧ W ≤ 8796093025208 + 2000 * (101 - (d : Int)) := by
  induction x using node_ind with
  | h x ih =>
    intro hw d hd
    obtain ⟨_, h0, h1, l1, h2, h3, l4, hk⟩ := hw
    by_cases hd1 : d = 101
    · subst hd1
      refine ⟨3000, ev_one fun k => ?_, by omega, by omega⟩
      simp only [weightE, ductusref16_Weight.f]
      rw [if_pos (by omega)]
    · have w1 : wrap64 (1 + (x.f1.length : Int)) = 1 + (x.f1.length : Int) := wrap_id (by omega) (by omega)
      obtain ⟨W, hW, hW1, hW2⟩ := weight_loop x.f0 x.f1 x.f2 x.f3 x.f4 (d : Int) (8796093025208 + 2000 * (101 - ((d + 1 : Nat) : Int))) (by omega) (by omega) l4 (fun y hy => by
        obtain ⟨W, hW, hW1, hW2⟩ := ih y hy (hk y hy) (d + 1) (by omega)
        exact ⟨W, hW, hW1, hW2⟩) x.f4.length 0 (1 + (x.f1.length : Int)) (by omega) (by omega) (by omega)
      refine ⟨W, ?_, by omega, by omega⟩
      refine ev_step hW fun k h => ?_
      simp only [weightE, ductusref16_Weight.f]
      rw [if_neg (by omega), w1]
      exact h
mutual
def sizeT : TNode → Int
  | ⟨f0, _, f2, f3, f4⟩ => sizesT (multT f0 f2 f3) f4 1
def sizesT (t : Int) : List TNode → Int → Int
  | [], s => s
  | x :: l, s => sizesT t l (mn 1000000 (s + t * sizeT x))
end
theorem mn_le (a b : Int) : mn a b ≤ a ∧ mn a b ≤ b := by unfold mn; split <;> omega
theorem sizes_rng (t : Int) (ht : 1 ≤ t ∧ t ≤ 1000000) : ∀ (l : List TNode), (∀ y ∈ l, 1 ≤ sizeT y ∧ sizeT y ≤ 1000000) → ∀ s, 1 ≤ s → s ≤ 1000000 → s ≤ sizesT t l s ∧ sizesT t l s ≤ 1000000
  | [], _, s, h1, h2 => by simp only [sizesT]; omega
  | y :: l, hy, s, h1, h2 => by
    have h3 := hy y (by simp)
    have h4 : 0 ≤ t * sizeT y := Int.mul_nonneg (by omega) (by omega)
    have h5 := mn_le 1000000 (s + t * sizeT y)
    have h6 : s ≤ mn 1000000 (s + t * sizeT y) := by unfold mn; split <;> omega
    have h7 := sizes_rng t ht l (fun z hz => hy z (by simp [hz])) (mn 1000000 (s + t * sizeT y)) (by omega) (by omega)
    simp only [sizesT]
    omega
theorem size_rng (x : TNode) : 1 ≤ sizeT x ∧ sizeT x ≤ 1000000 := by
  induction x using node_ind with
  | h x ih =>
    obtain ⟨f0, f1, f2, f3, f4⟩ := x
    simp only [sizeT]
    exact sizes_rng _ (multT_le _ _ _) f4 ih 1 (by omega) (by omega)
abbrev sizeE (k : Nat) (x : TNode) : Option Int := ductusref16_Size.f k x.f0 x.f1 x.f2 x.f3 x.f4
theorem sizes_ev (t : Int) (ht : 1 ≤ t ∧ t ≤ 1000000) : ∀ (l : List TNode), (∀ y ∈ l, Ev (fun k => sizeC k y) (sizeT y)) → ∀ s, 1 ≤ s → s ≤ 1000000 → Ev (fun k => sizesC (sizeC k) t l s) (sizesT t l s)
  | [], _, s, h1, h2 => ev_now fun k => by simp only [sizesC, sizesT]
  | y :: l, hy, s, h1, h2 => by
    have h3 := size_rng y
    have h4 : 0 ≤ t * sizeT y := Int.mul_nonneg (by omega) (by omega)
    have h5 : 1 ≤ mn 1000000 (s + t * sizeT y) ∧ mn 1000000 (s + t * sizeT y) ≤ 1000000 := by unfold mn; split <;> omega
    refine ev_same2 (hy y (by simp)) (sizes_ev t ht l (fun z hz => hy z (by simp [hz])) _ h5.1 h5.2) fun k e1 e2 => ?_
    simp only [sizesC, sizesT]
    rw [e1, Option.bind_some, if_pos ⟨h3.1, h3.2, h1, h2⟩]
    exact e2
theorem size_ev (x : TNode) : WfN x → Ev (fun k => sizeE k x) (sizeT x) := by
  have e : (fun k => sizeE k x) = fun k => sizeC k x := by
    funext k
    obtain ⟨f0, f1, f2, f3, f4⟩ := x
    rfl
  rw [e]
  clear e
  induction x using node_ind with
  | h x ih =>
    intro hw
    obtain ⟨_, h0, h1, l1, h2, h3, l4, hk⟩ := hw
    obtain ⟨f0, f1, f2, f3, f4⟩ := x
    refine ev_step (sizes_ev (multT f0 f2 f3) (multT_le _ _ _) f4 (fun y hy => ih y hy (hk y hy)) 1 (by omega) (by omega)) fun k e => ?_
    simp only [sizeC, sizeT]
    rw [if_pos h2.1]
    exact e
end Go.Proofs.Ytaphbechnjmlgaa.P
namespace Go.Proofs.Ytaphbechnjmlgaa.P
open Go.RowKit Go.Proofs.YtaphbechnjmlgaaW.PrintWords Go.Proofs.YtaphbechnjmlgaaW.PrintLast
set_option linter.unusedVariables false
set_option linter.unusedSimpArgs false

/-- So often, one behind the other. -/
def Times (R : Int → Int → Prop) : Nat → Int → Int → Prop
  | 0, i, j => i = j
  | m + 1, i, j => ∃ t, R i t ∧ Times R m t j
theorem times_right (R : Int → Int → Prop) : ∀ (m : Nat) (i j : Int), Times R (m + 1) i j ↔ ∃ t, Times R m i t ∧ R t j
  | 0, i, j => by
    simp only [Times]
    exact ⟨fun ⟨t, h1, h2⟩ => ⟨i, rfl, h2 ▸ h1⟩, fun ⟨t, h1, h2⟩ => ⟨j, h1 ▸ h2, rfl⟩⟩
  | m + 1, i, j => by
    constructor
    · rintro ⟨t, h1, h2⟩
      obtain ⟨s, h3, h4⟩ := (times_right R m t j).1 h2
      exact ⟨s, ⟨t, h1, h3⟩, h4⟩
    · rintro ⟨s, ⟨t, h1, h3⟩, h4⟩
      exact ⟨t, h1, (times_right R m t j).2 ⟨s, h3, h4⟩⟩
theorem times_add (R : Int → Int → Prop) : ∀ (m n : Nat) (i j : Int), Times R (m + n) i j ↔ ∃ t, Times R m i t ∧ Times R n t j
  | 0, n, i, j => by
    simp only [Times, Nat.zero_add]
    exact ⟨fun h => ⟨i, rfl, h⟩, fun ⟨t, h1, h2⟩ => h1 ▸ h2⟩
  | m + 1, n, i, j => by
    rw [show m + 1 + n = (m + n) + 1 by omega]
    constructor
    · rintro ⟨t, h1, h2⟩
      obtain ⟨s, h3, h4⟩ := (times_add R m n t j).1 h2
      exact ⟨s, ⟨t, h1, h3⟩, h4⟩
    · rintro ⟨s, ⟨t, h1, h3⟩, h4⟩
      exact ⟨t, h1, (times_add R m n t j).2 ⟨s, h3, h4⟩⟩
/-- How often a repeat may be. -/
def Often (lo hi : Int) (R : Int → Int → Prop) (i j : Int) : Prop := ∃ m : Nat, lo ≤ (m : Int) ∧ (hi < 0 ∨ (m : Int) ≤ hi) ∧ Times R m i j
mutual
/-- A tree matches a text from a place up to another one. -/
def M (l : List Int) : TNode → Int → Int → Prop
  | ⟨f0, f1, f2, f3, f4⟩, i, j => if f0 = 1 then i = j
    else if f0 = 2 then i < (l.length : Int) ∧ hasM f1 (rd l i) = true ∧ j = i + 1
    else if f0 = 6 then i = 0 ∧ j = 0
    else if f0 = 7 then i = (l.length : Int) ∧ j = (l.length : Int)
    else if f0 = 3 then MJ l f4 i j
    else if f0 = 4 then MO l f4 i j
    else if f0 = 5 then f4.length = 1 ∧ (f3 < 0 ∨ f2 ≤ f3) ∧ Often f2 f3 (M1 l f4) i j
    else False
def MJ (l : List Int) : List TNode → Int → Int → Prop
  | [], i, j => i = j
  | y :: ys, i, j => ∃ t, M l y i t ∧ MJ l ys t j
def MO (l : List Int) : List TNode → Int → Int → Prop
  | [], i, j => False
  | y :: ys, i, j => M l y i j ∨ MO l ys i j
def M1 (l : List Int) : List TNode → Int → Int → Prop
  | [], i, j => False
  | y :: _, i, j => M l y i j
end
theorem M_eq (l : List Int) (x : TNode) (i j : Int) : M l x i j ↔ (if x.f0 = 1 then i = j
    else if x.f0 = 2 then i < (l.length : Int) ∧ hasM x.f1 (rd l i) = true ∧ j = i + 1
    else if x.f0 = 6 then i = 0 ∧ j = 0
    else if x.f0 = 7 then i = (l.length : Int) ∧ j = (l.length : Int)
    else if x.f0 = 3 then MJ l x.f4 i j
    else if x.f0 = 4 then MO l x.f4 i j
    else if x.f0 = 5 then x.f4.length = 1 ∧ (x.f3 < 0 ∨ x.f2 ≤ x.f3) ∧ Often x.f2 x.f3 (M1 l x.f4) i j
    else False) := by
  cases x
  rw [M]
section
variable (l : List Int) (x : TNode) (i j : Int)
theorem M_1 (h : x.f0 = 1) : M l x i j ↔ i = j := by rw [M_eq, h]; simp
theorem M_2 (h : x.f0 = 2) : M l x i j ↔ i < (l.length : Int) ∧ hasM x.f1 (rd l i) = true ∧ j = i + 1 := by rw [M_eq, h]; simp
theorem M_6 (h : x.f0 = 6) : M l x i j ↔ i = 0 ∧ j = 0 := by rw [M_eq, h]; simp
theorem M_7 (h : x.f0 = 7) : M l x i j ↔ i = (l.length : Int) ∧ j = (l.length : Int) := by rw [M_eq, h]; simp
theorem M_3 (h : x.f0 = 3) : M l x i j ↔ MJ l x.f4 i j := by rw [M_eq, h]; simp
theorem M_4 (h : x.f0 = 4) : M l x i j ↔ MO l x.f4 i j := by rw [M_eq, h]; simp
theorem M_5 (h : x.f0 = 5) : M l x i j ↔ x.f4.length = 1 ∧ (x.f3 < 0 ∨ x.f2 ≤ x.f3) ∧ Often x.f2 x.f3 (M1 l x.f4) i j := by rw [M_eq, h]; simp
theorem M_5' (h : x.f0 = 5) (y : TNode) (hy : x.f4 = [y]) : M l x i j ↔ (x.f3 < 0 ∨ x.f2 ≤ x.f3) ∧ Often x.f2 x.f3 (M l y) i j := by
  rw [M_5 l x i j h, hy, show M1 l [y] = M l y by funext a b; rw [M1]]
  simp
theorem M_0 (h : x.f0 < 1 ∨ x.f0 > 7) : ¬ M l x i j := by
  rw [M_eq, if_neg (by omega), if_neg (by omega), if_neg (by omega), if_neg (by omega), if_neg (by omega), if_neg (by omega), if_neg (by omega)]
  exact id
end
theorem MO_iff (l : List Int) (i j : Int) : ∀ ys : List TNode, MO l ys i j ↔ ∃ y ∈ ys, M l y i j
  | [] => by rw [MO]; simp
  | y :: ys => by rw [MO, MO_iff l i j ys]; simp
abbrev Bnd (n : Int) (R : Int → Int → Prop) : Prop := ∀ i j, R i j → 0 ≤ i → i ≤ n → i ≤ j ∧ j ≤ n
theorem bnd_times {n : Int} {R : Int → Int → Prop} (h : Bnd n R) : ∀ m, Bnd n (Times R m)
  | 0, i, j, hr, h1, h2 => by
    obtain rfl : i = j := hr
    omega
  | m + 1, i, j, ⟨t, hr, ht⟩, h1, h2 => by
    have := h i t hr h1 h2
    have := bnd_times h m t j ht (by omega) (by omega)
    omega
theorem bnd_often {n lo hi : Int} {R : Int → Int → Prop} (h : Bnd n R) : Bnd n (Often lo hi R) := fun i j ⟨m, _, _, ht⟩ h1 h2 => bnd_times h m i j ht h1 h2
theorem bnd_MJ (l : List Int) : ∀ ys : List TNode, (∀ y ∈ ys, Bnd (l.length : Int) (M l y)) → Bnd (l.length : Int) (MJ l ys)
  | [], h, i, j, hm, h1, h2 => by
    rw [MJ] at hm
    omega
  | y :: ys, h, i, j, hm, h1, h2 => by
    rw [MJ] at hm
    obtain ⟨t, ht, hm⟩ := hm
    have := h y (by simp) i t ht h1 h2
    have := bnd_MJ l ys (fun z hz => h z (by simp [hz])) t j hm (by omega) (by omega)
    omega
theorem bnd_M (l : List Int) (x : TNode) : Bnd (l.length : Int) (M l x) := by
  induction x using node_ind with
  | h x ih =>
    intro i j hm h1 h2
    rw [M_eq] at hm
    split at hm
    · omega
    split at hm
    · omega
    split at hm
    · omega
    split at hm
    · omega
    split at hm
    · exact bnd_MJ l _ ih i j hm h1 h2
    split at hm
    · obtain ⟨y, hy, hm⟩ := (MO_iff l i j _).1 hm
      exact ih y hy i j hm h1 h2
    split at hm
    · obtain ⟨hl, _, hm⟩ := hm
      obtain ⟨y, hy⟩ : ∃ y, x.f4 = [y] := List.length_eq_one_iff.1 hl
      rw [hy, show M1 l [y] = M l y by funext a b; rw [M1]] at hm
      exact bnd_often (ih y (by rw [hy]; simp)) i j hm h1 h2
    · exact hm.elim
abbrev Srt (xs : List Int) : Prop := xs.Pairwise (· < ·)
theorem srt_len : ∀ (a b : List Int), Srt a → Srt b → (∀ p ∈ a, p ∈ b) → a.length ≤ b.length ∧ (a.length = b.length → a = b)
  | [], b, _, _, _ => ⟨Nat.zero_le _, fun h => (List.length_eq_zero_iff.1 h.symm).symm⟩
  | p :: a, b, ha, hb, hs => by
    obtain ⟨u, v, rfl⟩ := List.append_of_mem (hs p (by simp))
    replace ha := List.pairwise_cons.1 ha
    have h2 : ∀ q ∈ a, q ∈ v := by
      intro q hq
      have h3 := hs q (by simp [hq])
      have h4 := ha.1 q hq
      rw [List.mem_append, List.mem_cons] at h3
      rcases h3 with h3 | h3 | h3
      · have := (List.pairwise_append.1 hb).2.2 q h3 p (by simp)
        omega
      · omega
      · exact h3
    have hv : Srt v := (List.pairwise_cons.1 (List.pairwise_append.1 hb).2.1).2
    obtain ⟨h5, h6⟩ := srt_len a v ha.2 hv h2
    constructor
    · simp only [List.length_cons, List.length_append]
      omega
    · intro hl
      simp only [List.length_cons, List.length_append] at hl
      have : u = [] := List.length_eq_zero_iff.1 (by omega)
      subst this
      rw [h6 (by omega), List.nil_append]
theorem srt_ext {a b : List Int} (ha : Srt a) (hb : Srt b) (h : ∀ p, p ∈ a ↔ p ∈ b) : a = b :=
  (srt_len a b ha hb fun p hp => (h p).1 hp).2 (Nat.le_antisymm (srt_len a b ha hb fun p hp => (h p).1 hp).1 (srt_len b a hb ha fun p hp => (h p).2 hp).1)
def upto (n : Nat) : List Int := (List.range (n + 1)).map fun i : Nat => (i : Int)
theorem upto_srt (n : Nat) : Srt (upto n) := by
  unfold upto Srt
  rw [List.pairwise_map]
  exact List.Pairwise.imp (fun h => by omega) List.pairwise_lt_range
theorem mem_upto (n : Nat) (p : Int) : p ∈ upto n ↔ 0 ≤ p ∧ p ≤ (n : Int) := by
  unfold upto
  simp only [List.mem_map, List.mem_range]
  exact ⟨fun ⟨i, h1, h2⟩ => by omega, fun h => ⟨p.toNat, by omega, by omega⟩⟩
theorem upto_len (n : Nat) : (upto n).length = n + 1 := by simp [upto]
open Classical in
/-- The places of a text that a tree matches up to, from a place. -/
noncomputable def endsM (l : List Int) (x : TNode) (i : Int) : List Int := (upto l.length).filter fun j => decide (M l x i j)
theorem endsM_srt (l : List Int) (x : TNode) (i : Int) : Srt (endsM l x i) := List.Pairwise.filter _ (upto_srt _)
open Classical in
theorem mem_endsM (l : List Int) (x : TNode) (i j : Int) (h : 0 ≤ i ∧ i ≤ (l.length : Int)) : j ∈ endsM l x i ↔ M l x i j := by
  unfold endsM
  rw [List.mem_filter, mem_upto, decide_eq_true_iff]
  exact ⟨fun h => h.2, fun hm => ⟨by have := bnd_M l x i j hm h.1 h.2; omega, hm⟩⟩
end Go.Proofs.Ytaphbechnjmlgaa.P
namespace Go.Proofs.Ytaphbechnjmlgaa.P
open Go.RowKit Go.Proofs.YtaphbechnjmlgaaW.PrintWords Go.Proofs.YtaphbechnjmlgaaW.PrintLast
set_option linter.unusedVariables false
set_option linter.unusedSimpArgs false

theorem half_64 {i j : Nat} (h : i ≤ 1000) (h2 : j ≤ 1000) : wrap64 ((IntKind.u64.wrap (wrap64 ((i : Int) + (j : Int)))) / 2) = (((i + j) / 2 : Nat) : Int) := by
  rw [wrap_id (x := (i : Int) + (j : Int)) (by omega) (by omega), IntKind.wrap_u64, show ((i : Int) + (j : Int)) % 18446744073709551616 = (i : Int) + (j : Int) by omega, wrap_id (by omega) (by omega)]
  omega
theorem less_int (a b : Int) : cmp_Less_int.f a b = some (decide (a < b)) := by
  unfold cmp_Less_int.f cmp_isNaN_int.f
  simp
theorem rd_srt {xs : List Int} (hs : Srt xs) {a b : Nat} (h : a < b) (hb : b < xs.length) : rd xs (a : Int) < rd xs (b : Int) := by
  rw [rd_get xs a (by omega), rd_get xs b hb]
  exact List.pairwise_iff_getElem.1 hs a b (by omega) hb h
theorem mem_rd {xs : List Int} {p : Int} : p ∈ xs ↔ ∃ i : Nat, i < xs.length ∧ rd xs (i : Int) = p := by
  constructor
  · intro h
    obtain ⟨i, hi, rfl⟩ := List.getElem_of_mem h
    exact ⟨i, hi, rd_get xs i hi⟩
  · rintro ⟨i, hi, rfl⟩
    rw [rd_get xs i hi]
    exact List.getElem_mem hi
theorem bs_ok (xs : List Int) (p : Int) (hl : xs.length ≤ 500) (hs : Srt xs) : ∀ (k i j : Nat), i ≤ j → j ≤ xs.length → j - i < k → (∀ q : Nat, q < i → rd xs (q : Int) < p) → (∀ q : Nat, j ≤ q → q < xs.length → p ≤ rd xs (q : Int)) →
    ∃ m : Nat, m ≤ xs.length ∧ (∀ q : Nat, q < m → rd xs (q : Int) < p) ∧ (∀ q : Nat, m ≤ q → q < xs.length → p ≤ rd xs (q : Int)) ∧ slices_BinarySearch_deriv_set_int.l0 k xs p (xs.length : Int) (i : Int) (j : Int) = some ((m : Int), decide (p ∈ xs))
  | 0, i, j, _, _, h, _, _ => absurd h (by omega)
  | k + 1, i, j, hij, hj, hf, h1, h2 => by
    by_cases c : i < j
    · have hm := half_64 (i := i) (j := j) (by omega) (by omega)
      obtain ⟨h, hh⟩ : ∃ h, (i + j) / 2 = h := ⟨_, rfl⟩
      have e1 : i ≤ h := by omega
      have e2 : h < j := by omega
      rw [hh] at hm
      by_cases c2 : rd xs (h : Int) < p
      · obtain ⟨m, a1, a2, a3, a4⟩ := bs_ok xs p hl hs k (h + 1) j (by omega) hj (by omega) (fun q hq => by
          rcases Nat.lt_or_ge q h with hq2 | hq2
          · have := rd_srt hs hq2 (by omega)
            omega
          · obtain rfl : q = h := by omega
            exact c2) h2
        refine ⟨m, a1, a2, a3, ?_⟩
        unfold slices_BinarySearch_deriv_set_int.l0
        rw [if_pos (by omega), hm, if_pos (by omega), if_pos (by omega), less_int, Option.bind_some, if_pos (decide_eq_true c2), wrap_succ h (by omega)]
        exact a4
      · obtain ⟨m, a1, a2, a3, a4⟩ := bs_ok xs p hl hs k i h (by omega) (by omega) (by omega) h1 (fun q hq hq2 => by
          rcases Nat.lt_or_ge h q with hq3 | hq3
          · have := rd_srt hs hq3 hq2
            omega
          · obtain rfl : q = h := by omega
            omega)
        refine ⟨m, a1, a2, a3, ?_⟩
        unfold slices_BinarySearch_deriv_set_int.l0
        rw [if_pos (by omega), hm, if_pos (by omega), if_pos (by omega), less_int, Option.bind_some, if_neg (by rw [decide_eq_false c2]; decide)]
        exact a4
    · obtain rfl : i = j := by omega
      refine ⟨i, hj, h1, h2, ?_⟩
      unfold slices_BinarySearch_deriv_set_int.l0
      rw [if_neg (by omega)]
      by_cases c3 : i < xs.length
      · rw [if_pos (by omega), if_pos (by omega), if_pos (by omega)]
        by_cases c4 : rd xs (i : Int) = p
        · rw [if_pos c4, decide_eq_true (mem_rd.2 ⟨i, c3, c4⟩)]
        · have hn : ¬ p ∈ xs := by
            intro hp
            obtain ⟨q, hq, hq2⟩ := mem_rd.1 hp
            rcases Nat.lt_trichotomy q i with h | h | h
            · have := h1 q h
              omega
            · subst h
              exact c4 hq2
            · have := rd_srt hs h hq
              have := h2 i (by omega) c3
              omega
          rw [if_neg c4, decide_eq_false hn]
          simp [slices_isNaN_int.f]
      · have hn : ¬ p ∈ xs := by
          intro hp
          obtain ⟨q, hq, hq2⟩ := mem_rd.1 hp
          have := h1 q (by omega)
          omega
        rw [if_neg (by omega), decide_eq_false hn]
/-- A set of places of a text. -/
structure SetOK (n : Nat) (xs : List Int) : Prop where
  srt : Srt xs
  rng : ∀ p ∈ xs, 0 ≤ p ∧ p ≤ (n : Int)
theorem SetOK.len {n : Nat} {xs : List Int} (h : SetOK n xs) : xs.length ≤ n + 1 := by
  have := (srt_len xs (upto n) h.srt (upto_srt n) (fun p hp => (mem_upto n p).2 (h.rng p hp))).1
  rw [upto_len] at this
  exact this
theorem setOK_nil (n : Nat) : SetOK n [] := ⟨List.Pairwise.nil, fun p hp => by simp at hp⟩
theorem setOK_one {n : Nat} {p : Int} (h : 0 ≤ p ∧ p ≤ (n : Int)) : SetOK n [p] := ⟨by simp [Srt], fun q hq => by simp at hq; omega⟩
theorem with_ok {n k : Nat} (hn : n ≤ 64) (hk : 100 ≤ k) {xs : List Int} (hx : SetOK n xs) {p : Int} (hp : 0 ≤ p ∧ p ≤ (n : Int)) :
    ∃ ys, withS k xs p = some ys ∧ SetOK n ys ∧ ∀ q, q ∈ ys ↔ q = p ∨ q ∈ xs := by
  have hl := hx.len
  obtain ⟨m, h1, h2, h3, h4⟩ := bs_ok xs p (by omega) hx.srt k 0 xs.length (by omega) (by omega) (by omega) (fun q hq => absurd hq (by omega)) (fun q h h' => absurd h' (by omega))
  have h5 : slices_BinarySearch_deriv_set_int.f k xs p = some ((m : Int), decide (p ∈ xs)) := h4
  unfold withS
  rw [h5, Option.bind_some]
  by_cases c : p ∈ xs
  · rw [if_pos (decide_eq_true c)]
    exact ⟨xs, rfl, hx, fun q => ⟨fun h => .inr h, fun h => by rcases h with rfl | h; exact c; exact h⟩⟩
  · have hc : ¬ (((m : Int), decide (p ∈ xs)) : Int × Bool).2 = true := by simp [c]
    rw [if_neg hc, if_pos ⟨by simp, by simp only []; omega, by omega⟩]
    refine ⟨_, rfl, ⟨?_, ?_⟩, ?_⟩
    · simp only [Int.toNat_natCast]
      refine List.pairwise_append.2 ⟨List.Pairwise.sublist (List.take_sublist m xs) hx.srt, List.pairwise_cons.2 ⟨?_, List.Pairwise.sublist (List.drop_sublist m xs) hx.srt⟩, ?_⟩
      · intro q hq
        obtain ⟨i, hi, hq2⟩ := List.getElem_of_mem hq
        rw [List.getElem_drop] at hq2
        rw [List.length_drop] at hi
        have := h3 (m + i) (by omega) (by omega)
        rw [rd_get xs _ (by omega), hq2] at this
        rcases Int.lt_or_eq_of_le this with h | h
        · exact h
        · exact absurd (h ▸ List.mem_of_mem_drop hq) c
      · intro a ha q hq
        obtain ⟨i, hi, ha2⟩ := List.getElem_of_mem ha
        rw [List.length_take] at hi
        rw [List.getElem_take] at ha2
        have h6 := h2 i (by omega)
        rw [rd_get xs _ (by omega), ha2] at h6
        rcases List.mem_cons.1 hq with rfl | hq
        · exact h6
        · obtain ⟨j, hj, hq2⟩ := List.getElem_of_mem hq
          rw [List.getElem_drop] at hq2
          rw [List.length_drop] at hj
          have := h3 (m + j) (by omega) (by omega)
          rw [rd_get xs _ (by omega), hq2] at this
          omega
    · intro q hq
      simp only [Int.toNat_natCast] at hq
      rcases List.mem_append.1 hq with h | h
      · exact hx.rng q (List.mem_of_mem_take h)
      · rcases List.mem_cons.1 h with rfl | h
        · exact hp
        · exact hx.rng q (List.mem_of_mem_drop h)
    · intro q
      simp only [Int.toNat_natCast]
      rw [List.mem_append, List.mem_cons]
      constructor
      · rintro (h | h | h)
        · exact .inr (List.mem_of_mem_take h)
        · exact .inl h
        · exact .inr (List.mem_of_mem_drop h)
      · rintro (h | h)
        · exact .inr (.inl h)
        · rw [← List.take_append_drop m xs, List.mem_append] at h
          rcases h with h | h
          · exact .inl h
          · exact .inr (.inr h)
theorem withs_ok {n k : Nat} (hn : n ≤ 64) (hk : 100 ≤ k) : ∀ (ps : List Int) {xs : List Int}, SetOK n xs → (∀ p ∈ ps, 0 ≤ p ∧ p ≤ (n : Int)) →
    ∃ ys, withsS k ps xs = some ys ∧ SetOK n ys ∧ ∀ q, q ∈ ys ↔ q ∈ ps ∨ q ∈ xs
  | [], xs, hx, _ => ⟨xs, rfl, hx, fun q => by simp⟩
  | p :: ps, xs, hx, hp => by
    obtain ⟨ys, e1, h1, h2⟩ := with_ok hn hk hx (hp p (by simp))
    obtain ⟨zs, e2, h3, h4⟩ := withs_ok hn hk ps h1 (fun q hq => hp q (by simp [hq]))
    refine ⟨zs, by rw [withsS, e1, Option.bind_some, e2], h3, fun q => ?_⟩
    rw [h4, h2, List.mem_cons]
    constructor
    · rintro (h | h | h)
      · exact .inl (.inr h)
      · exact .inl (.inl h)
      · exact .inr h
    · rintro ((h | h) | h)
      · exact .inr (.inl h)
      · exact .inl h
      · exact .inr (.inr h)
/-- What is reached by a relation from some places. -/
abbrev Img (R : Int → Int → Prop) (xs : List Int) (j : Int) : Prop := ∃ i ∈ xs, R i j
/-- A step answers what a relation reaches. -/
def Lifts (n : Nat) (R : Int → Int → Prop) (f : List Int → Option (List Int)) : Prop := ∀ xs, SetOK n xs → ∃ r, f xs = some r ∧ SetOK n r ∧ ∀ j, j ∈ r ↔ Img R xs j
theorem set_ok {k : Nat} (hk : 100 ≤ k) (rl : List TRange) (l : List Int) (hl : l.length ≤ 64) : ∀ (ps xs : List Int), SetOK l.length xs → (∀ p ∈ ps, 0 ≤ p ∧ p ≤ (l.length : Int)) →
    ∃ ys, setL k rl l ps xs = some ys ∧ SetOK l.length ys ∧ ∀ q, q ∈ ys ↔ (∃ i ∈ ps, i < (l.length : Int) ∧ hasM rl (rd l i) = true ∧ q = i + 1) ∨ q ∈ xs
  | [], xs, hx, _ => ⟨xs, rfl, hx, fun q => by simp⟩
  | p :: ps, xs, hx, hp => by
    have hp0 := hp p (by simp)
    have hps : ∀ q ∈ ps, 0 ≤ q ∧ q ≤ (l.length : Int) := fun q hq => hp q (by simp [hq])
    rw [setL]
    by_cases c : p < (l.length : Int)
    · rw [if_pos c, if_pos hp0.1]
      by_cases c2 : hasM rl (rd l p) = true
      · rw [if_pos c2, wrap_id (by omega) (by omega)]
        obtain ⟨ys, e1, h1, h2⟩ := with_ok (p := p + 1) hl hk hx (by omega)
        obtain ⟨zs, e2, h3, h4⟩ := set_ok hk rl l hl ps ys h1 hps
        refine ⟨zs, by rw [e1, Option.bind_some, e2], h3, fun q => ?_⟩
        rw [h4, h2]
        constructor
        · rintro (⟨i, h, h'⟩ | h | h)
          · exact .inl ⟨i, by simp [h], h'⟩
          · exact .inl ⟨p, by simp, c, c2, h⟩
          · exact .inr h
        · rintro (⟨i, h, h'⟩ | h)
          · rcases List.mem_cons.1 h with rfl | h
            · exact .inr (.inl h'.2.2)
            · exact .inl ⟨i, h, h'⟩
          · exact .inr (.inr h)
      · rw [if_neg c2]
        obtain ⟨zs, e2, h3, h4⟩ := set_ok hk rl l hl ps xs hx hps
        refine ⟨zs, e2, h3, fun q => ?_⟩
        rw [h4]
        constructor
        · rintro (⟨i, h, h'⟩ | h)
          · exact .inl ⟨i, by simp [h], h'⟩
          · exact .inr h
        · rintro (⟨i, h, h'⟩ | h)
          · rcases List.mem_cons.1 h with rfl | h
            · exact absurd h'.2.1 c2
            · exact .inl ⟨i, h, h'⟩
          · exact .inr h
    · rw [if_neg c]
      obtain ⟨zs, e2, h3, h4⟩ := set_ok hk rl l hl ps xs hx hps
      refine ⟨zs, e2, h3, fun q => ?_⟩
      rw [h4]
      constructor
      · rintro (⟨i, h, h'⟩ | h)
        · exact .inl ⟨i, by simp [h], h'⟩
        · exact .inr h
      · rintro (⟨i, h, h'⟩ | h)
        · rcases List.mem_cons.1 h with rfl | h
          · exact absurd h'.1 c
          · exact .inl ⟨i, h, h'⟩
        · exact .inr h
theorem index_ok (xs : List Int) (p : Int) (hl : xs.length ≤ 500) (d : Nat) : ∀ (k i : Nat), i + d = xs.length → d < k → ∃ m : Int, slices_Index_deriv_set_int.l0 k xs p (xs.length : Int) (i : Int) = some m ∧ (0 ≤ m ↔ p ∈ xs.drop i) := by
  induction d with
  | zero =>
    intro k i hi hk
    obtain ⟨k, rfl⟩ : ∃ m, k = m + 1 := ⟨k - 1, by omega⟩
    refine ⟨-1, ?_, ?_⟩
    · unfold slices_Index_deriv_set_int.l0
      rw [if_neg (by omega)]
    · rw [List.drop_eq_nil_of_le (by omega)]
      simp
  | succ d ih =>
    intro k i hi hk
    obtain ⟨k, rfl⟩ : ∃ m, k = m + 1 := ⟨k - 1, by omega⟩
    rw [drop_cons xs i (by omega)]
    unfold slices_Index_deriv_set_int.l0
    rw [if_pos (by omega), if_pos (by omega), if_pos (by omega)]
    by_cases c : p = rd xs (i : Int)
    · exact ⟨i, by rw [if_pos c], by simp [c]⟩
    · obtain ⟨m, h1, h2⟩ := ih k (i + 1) (by omega) (by omega)
      refine ⟨m, by rw [if_neg c, wrap_succ i (by omega), h1], ?_⟩
      rw [h2, List.mem_cons]
      simp [c]
theorem contains_ok (k : Nat) (xs : List Int) (p : Int) (hl : xs.length ≤ 500) (hk : xs.length < k) : slices_Contains_deriv_set_int.f k xs p = some (decide (p ∈ xs)) := by
  obtain ⟨m, h1, h2⟩ := index_ok xs p hl xs.length k 0 (by omega) hk
  unfold slices_Contains_deriv_set_int.f
  rw [show slices_Index_deriv_set_int.f k xs p = some m from h1, Option.bind_some]
  rw [List.drop_zero] at h2
  rw [Option.some.injEq, decide_eq_decide]
  exact h2
theorem edge_ok {n k : Nat} (hn : n ≤ 64) (hk : 100 ≤ k) (e : Int) (he : 0 ≤ e ∧ e ≤ (n : Int)) : Lifts n (fun i j => i = e ∧ j = e) (edgeS k e) := by
  intro xs hx
  have hl := hx.len
  unfold edgeS
  rw [contains_ok k xs e (by omega) (by omega), Option.map_some]
  by_cases c : e ∈ xs
  · rw [if_pos (decide_eq_true c)]
    refine ⟨_, rfl, setOK_one he, fun j => ?_⟩
    rw [List.mem_singleton]
    exact ⟨fun h => ⟨e, c, rfl, h⟩, fun ⟨i, _, _, h⟩ => h⟩
  · rw [if_neg (by simp [c])]
    refine ⟨_, rfl, setOK_nil n, fun j => ?_⟩
    simp only [List.not_mem_nil, false_iff]
    rintro ⟨i, h, rfl, _⟩
    exact c h
theorem join_ok {n : Nat} (l : List Int) (f : DNode → List Int → Option (List Int)) : ∀ ys : List DNode, (∀ y ∈ ys, Lifts n (M l y) (f y)) → Lifts n (MJ l ys) (joinRS f ys)
  | [], _, xs, hx => ⟨xs, rfl, hx, fun j => by simp [MJ]⟩
  | y :: ys, h, xs, hx => by
    obtain ⟨r, e1, h1, h2⟩ := h y (by simp) xs hx
    obtain ⟨s, e2, h3, h4⟩ := join_ok l f ys (fun z hz => h z (by simp [hz])) r h1
    refine ⟨s, by rw [joinRS, e1, Option.bind_some, e2], h3, fun j => ?_⟩
    rw [h4]
    constructor
    · rintro ⟨t, ht, hm⟩
      obtain ⟨i, hi, hr⟩ := (h2 t).1 ht
      exact ⟨i, hi, by rw [MJ]; exact ⟨t, hr, hm⟩⟩
    · rintro ⟨i, hi, hm⟩
      rw [MJ] at hm
      obtain ⟨t, hr, hm⟩ := hm
      exact ⟨t, (h2 t).2 ⟨i, hi, hr⟩, hm⟩
theorem or_ok {n k : Nat} (hn : n ≤ 64) (hk : 100 ≤ k) (l : List Int) (at_ : List Int) (f : DNode → Option (List Int)) : ∀ (ys : List DNode) (xs : List Int), (∀ y ∈ ys, ∃ r, f y = some r ∧ SetOK n r ∧ ∀ j, j ∈ r ↔ Img (M l y) at_ j) → SetOK n xs →
    ∃ r, orRS k f ys xs = some r ∧ SetOK n r ∧ ∀ j, j ∈ r ↔ Img (MO l ys) at_ j ∨ j ∈ xs
  | [], xs, _, hx => ⟨xs, rfl, hx, fun j => by simp [MO]⟩
  | y :: ys, xs, h, hx => by
    obtain ⟨r, e1, h1, h2⟩ := h y (by simp)
    obtain ⟨t, e2, h3, h4⟩ := withs_ok hn hk r hx h1.rng
    obtain ⟨s, e3, h5, h6⟩ := or_ok hn hk l at_ f ys t (fun z hz => h z (by simp [hz])) h3
    refine ⟨s, by rw [orRS, e1, Option.bind_some, e2, Option.bind_some, e3], h5, fun j => ?_⟩
    rw [h6, h4, h2]
    constructor
    · rintro (⟨i, hi, hm⟩ | ⟨i, hi, hm⟩ | hm)
      · exact .inl ⟨i, hi, by rw [MO]; exact .inr hm⟩
      · exact .inl ⟨i, hi, by rw [MO]; exact .inl hm⟩
      · exact .inr hm
    · rintro (⟨i, hi, hm⟩ | hm)
      · rw [MO] at hm
        rcases hm with hm | hm
        · exact .inr (.inl ⟨i, hi, hm⟩)
        · exact .inl ⟨i, hi, hm⟩
      · exact .inr (.inr hm)
end Go.Proofs.Ytaphbechnjmlgaa.P
namespace Go.Proofs.Ytaphbechnjmlgaa.P
open Go.RowKit Go.Proofs.YtaphbechnjmlgaaW.PrintWords Go.Proofs.YtaphbechnjmlgaaW.PrintLast
set_option linter.unusedVariables false
set_option linter.unusedSimpArgs false

theorem times_ok {n : Nat} {R : Int → Int → Prop} {f : List Int → Option (List Int)} (hf : Lifts n R f) : ∀ m, Lifts n (Times R m) (timesRS f m)
  | 0 => fun xs hx => ⟨xs, rfl, hx, fun j => by simp [Times]⟩
  | m + 1 => fun xs hx => by
    obtain ⟨r, e1, h1, h2⟩ := hf xs hx
    obtain ⟨s, e2, h3, h4⟩ := times_ok hf m r h1
    refine ⟨s, by rw [timesRS, e1, Option.bind_some, e2], h3, fun j => ?_⟩
    rw [h4]
    constructor
    · rintro ⟨t, ht, hm⟩
      obtain ⟨i, hi, hr⟩ := (h2 t).1 ht
      exact ⟨i, hi, t, hr, hm⟩
    · rintro ⟨i, hi, t, hr, hm⟩
      exact ⟨t, (h2 t).2 ⟨i, hi, hr⟩, hm⟩
theorem img_right {R : Int → Int → Prop} {at_ : List Int} {m : Nat} {j : Int} : Img (Times R (m + 1)) at_ j ↔ ∃ t, Img (Times R m) at_ t ∧ R t j := by
  constructor
  · rintro ⟨i, hi, h⟩
    obtain ⟨t, h1, h2⟩ := (times_right R m i j).1 h
    exact ⟨t, ⟨i, hi, h1⟩, h2⟩
  · rintro ⟨t, ⟨i, hi, h1⟩, h2⟩
    exact ⟨i, hi, (times_right R m i j).2 ⟨t, h1, h2⟩⟩
theorem more_ok {n k : Nat} (hn : n ≤ 64) (hk : 100 ≤ k) {R : Int → Int → Prop} {f : List Int → Option (List Int)} (hf : Lifts n R f) (at_ : List Int) (lo : Nat) (hi : Int) : ∀ (fuel d m : Nat) (last all : List Int),
    d < fuel → lo ≤ m → m + d ≤ 1000 → (hi < 0 ∨ (m : Int) ≤ hi) → SetOK n last → SetOK n all → (∀ j, j ∈ last ↔ Img (Times R m) at_ j) → (∀ j, j ∈ all ↔ ∃ m' : Nat, lo ≤ m' ∧ m' ≤ m ∧ Img (Times R m') at_ j) →
    (hi < 0 → n + 1 ≤ all.length + d) → (0 ≤ hi → hi ≤ (m : Int) + (d : Int)) → ∃ r, moreS k f hi fuel (m : Int) last all = some r ∧ SetOK n r ∧ ∀ j, j ∈ r ↔ Img (Often (lo : Int) hi R) at_ j
  | 0, d, m, last, all, h, _, _, _, _, _, _, _, _, _ => absurd h (by omega)
  | fuel + 1, d, m, last, all, hd, hlo, hmd, hm, hl, ha, il, ia, d1, d2 => by
    rw [moreS]
    by_cases c : hi < 0 ∨ (m : Int) < hi
    · rw [if_pos c]
      obtain ⟨l2, e1, h1, h2⟩ := hf last hl
      obtain ⟨a2, e2, h3, h4⟩ := withs_ok hn hk l2 ha h1.rng
      have il2 : ∀ j, j ∈ l2 ↔ Img (Times R (m + 1)) at_ j := by
        intro j
        rw [h2, img_right]
        exact ⟨fun ⟨t, ht, hr⟩ => ⟨t, (il t).1 ht, hr⟩, fun ⟨t, ht, hr⟩ => ⟨t, (il t).2 ht, hr⟩⟩
      have ia2 : ∀ j, j ∈ a2 ↔ ∃ m' : Nat, lo ≤ m' ∧ m' ≤ m + 1 ∧ Img (Times R m') at_ j := by
        intro j
        rw [h4, il2, ia]
        constructor
        · rintro (h | ⟨m', q1, q2, q3⟩)
          · exact ⟨m + 1, by omega, by omega, h⟩
          · exact ⟨m', q1, by omega, q3⟩
        · rintro ⟨m', q1, q2, q3⟩
          by_cases cm : m' = m + 1
          · subst cm
            exact .inl q3
          · exact .inr ⟨m', q1, by omega, q3⟩
      have hsub := srt_len all a2 ha.srt h3.srt (fun p hp => (h4 p).2 (.inr hp))
      rw [e1, Option.bind_some, e2, Option.bind_some]
      by_cases st : (a2.length = all.length ∧ hi < 0) ∨ l2.length = 0
      · rw [if_pos st]
        refine ⟨a2, rfl, h3, fun j => ?_⟩
        rw [ia2]
        constructor
        · rintro ⟨m', q1, q2, i, q3, q4⟩
          exact ⟨i, q3, m', by omega, by omega, q4⟩
        · rintro ⟨i, q3, m', q1, q2, q4⟩
          rcases st with ⟨st, _⟩ | st
          · have heq := hsub.2 st.symm
            have cl : ∀ c : Nat, ∀ j, Img (Times R (lo + c)) at_ j → j ∈ all := by
              intro c
              induction c with
              | zero =>
                intro j h
                exact (ia j).2 ⟨lo, by omega, by omega, h⟩
              | succ c ih =>
                intro j h
                obtain ⟨t, q5, q6⟩ := img_right.1 h
                obtain ⟨m'', q7, q8, q9⟩ := (ia t).1 (ih t q5)
                rw [heq]
                exact (ia2 j).2 ⟨m'' + 1, by omega, by omega, img_right.2 ⟨t, q9, q6⟩⟩
            have := cl (m' - lo) j (by rw [show lo + (m' - lo) = m' by omega]; exact ⟨i, q3, q4⟩)
            rw [heq] at this
            exact (ia2 j).1 this
          · by_cases cm : m' ≤ m + 1
            · exact ⟨m', by omega, cm, i, q3, q4⟩
            · rw [show m' = (m + 1) + (m' - (m + 1)) by omega] at q4
              obtain ⟨t, q5, q6⟩ := (times_add R _ _ i j).1 q4
              have := (il2 t).2 ⟨i, q3, q5⟩
              rw [List.length_eq_zero_iff.1 st] at this
              simp at this
      · rw [if_neg st, wrap_succ m (by omega)]
        have hl3 := h3.len
        refine more_ok hn hk hf at_ lo hi fuel (d - 1) (m + 1) l2 a2 ?_ (by omega) ?_ (by omega) h1 h3 il2 ia2 ?_ ?_
        · rcases c with c | c
          · have := d1 c
            have : a2.length ≠ all.length := fun h => st (.inl ⟨h, c⟩)
            omega
          · have := d2 (by omega)
            omega
        · rcases c with c | c
          · have := d1 c
            have : a2.length ≠ all.length := fun h => st (.inl ⟨h, c⟩)
            omega
          · have := d2 (by omega)
            omega
        · intro c
          have := d1 c
          have : a2.length ≠ all.length := fun h => st (.inl ⟨h, c⟩)
          omega
        · intro c2
          have := d2 c2
          omega
    · rw [if_neg c]
      refine ⟨all, rfl, ha, fun j => ?_⟩
      rw [ia]
      constructor
      · rintro ⟨m', q1, q2, i, q3, q4⟩
        exact ⟨i, q3, m', by omega, by omega, q4⟩
      · rintro ⟨i, q3, m', q1, q2, q4⟩
        exact ⟨m', by omega, by omega, i, q3, q4⟩
theorem again_ok {n k : Nat} (hn : n ≤ 64) (hk : 200 ≤ k) {R : Int → Int → Prop} {f : List Int → Option (List Int)} (hf : Lifts n R f) (lo hi : Int) (h0 : 0 ≤ lo ∧ lo ≤ 20) (h1 : hi ≤ 20) (h2 : hi < 0 ∨ lo ≤ hi) : Lifts n (Often lo hi R) (againS k f lo hi) := by
  intro xs hx
  obtain ⟨r, e1, h3, h4⟩ := times_ok hf lo.toNat xs hx
  obtain ⟨s, e2, h5, h6⟩ := more_ok (k := k) hn (by omega) hf xs lo.toNat hi k 100 lo.toNat r r (by omega) (by omega) (by omega) (by omega) h3 h3 h4 (fun j => by
    rw [h4]
    constructor
    · intro h
      exact ⟨_, Nat.le_refl _, Nat.le_refl _, h⟩
    · rintro ⟨m', q1, q2, q3⟩
      rw [show lo.toNat = m' by omega]
      exact q3) (by omega) (by omega)
  rw [show ((lo.toNat : Nat) : Int) = lo by omega] at e2 h6
  exact ⟨s, by rw [againS, if_pos (by omega), e1, Option.bind_some, e2], h5, h6⟩
/-- Bounds of repeats that are not great. -/
inductive GoodN : TNode → Prop
  | mk (x : TNode) (h : x.f0 = 5 → 0 ≤ x.f2 ∧ x.f2 ≤ 20 ∧ x.f3 ≤ 20) (hk : ∀ y ∈ x.f4, GoodN y) : GoodN x
mutual
/-- How deep a tree is. -/
def dep : TNode → Nat
  | ⟨_, _, _, _, f4⟩ => deps f4 + 1
def deps : List TNode → Nat
  | [] => 0
  | y :: ys => max (dep y) (deps ys)
end
theorem dep_mem : ∀ (ys : List TNode) (y : TNode), y ∈ ys → dep y ≤ deps ys
  | z :: ys, y, h => by
    rw [deps]
    rcases List.mem_cons.1 h with rfl | h
    · omega
    · have := dep_mem ys y h
      omega
theorem dep_eq (x : TNode) : dep x = deps x.f4 + 1 := by
  cases x
  rw [dep]
theorem dep_kid {x y : TNode} (h : y ∈ x.f4) : dep y < dep x := by
  have := dep_mem _ y h
  rw [dep_eq x]
  omega
theorem reach_ok {k : Nat} (hk : 200 ≤ k) (l : List Int) (hl : l.length ≤ 64) (x : TNode) : GoodN x → ∀ m, dep x ≤ m → Lifts l.length (M l x) (reachS k l m x) := by
  induction x using node_ind with
  | h x ih =>
    rintro ⟨_, hg, hgk⟩ m hm
    obtain ⟨m, rfl⟩ : ∃ m', m = m' + 1 := ⟨m - 1, by rw [dep_eq] at hm; omega⟩
    have ihk : ∀ y ∈ x.f4, Lifts l.length (M l y) (reachS k l m y) := fun y hy => ih y hy (hgk y hy) m (by have := dep_kid hy; omega)
    intro xs hx
    rw [reachS]
    by_cases c1 : x.f0 = 1
    · rw [if_pos c1]
      refine ⟨xs, rfl, hx, fun j => ?_⟩
      simp [Img, M_1 l x _ j c1]
    rw [if_neg c1]
    by_cases c2 : x.f0 = 2
    · rw [if_pos c2]
      obtain ⟨r, e1, h1, h2⟩ := set_ok (by omega : 100 ≤ k) x.f1 l hl xs [] (setOK_nil _) hx.rng
      refine ⟨r, e1, h1, fun j => ?_⟩
      rw [h2]
      simp only [List.not_mem_nil, or_false, Img, M_2 l x _ j c2]
    rw [if_neg c2]
    by_cases c6 : x.f0 = 6
    · rw [if_pos c6]
      obtain ⟨r, e1, h1, h2⟩ := edge_ok hl (by omega : 100 ≤ k) 0 (by omega) xs hx
      refine ⟨r, e1, h1, fun j => ?_⟩
      rw [h2]
      simp only [Img, M_6 l x _ j c6]
    rw [if_neg c6]
    by_cases c7 : x.f0 = 7
    · rw [if_pos c7]
      obtain ⟨r, e1, h1, h2⟩ := edge_ok hl (by omega : 100 ≤ k) (l.length : Int) (by omega) xs hx
      refine ⟨r, e1, h1, fun j => ?_⟩
      rw [h2]
      simp only [Img, M_7 l x _ j c7]
    rw [if_neg c7]
    by_cases c3 : x.f0 = 3
    · rw [if_pos c3]
      obtain ⟨r, e1, h1, h2⟩ := join_ok l (reachS k l m) x.f4 ihk xs hx
      refine ⟨r, e1, h1, fun j => ?_⟩
      rw [h2]
      simp only [Img, M_3 l x _ j c3]
    rw [if_neg c3]
    by_cases c4 : x.f0 = 4
    · rw [if_pos c4]
      obtain ⟨r, e1, h1, h2⟩ := or_ok hl (by omega : 100 ≤ k) l xs (fun y => reachS k l m y xs) x.f4 [] (fun y hy => ihk y hy xs hx) (setOK_nil _)
      refine ⟨r, e1, h1, fun j => ?_⟩
      rw [h2]
      simp only [List.not_mem_nil, or_false, Img, M_4 l x _ j c4]
    rw [if_neg c4]
    by_cases c5 : x.f0 = 5
    · rw [if_pos c5]
      by_cases cl : x.f4.length = 1 ∧ (x.f3 < 0 ∨ x.f3 ≥ x.f2)
      · rw [if_pos cl]
        obtain ⟨y, hy⟩ : ∃ y, x.f4 = [y] := List.length_eq_one_iff.1 cl.1
        have hyl := ihk y (by rw [hy]; simp)
        rw [show x.f4.getD 0 z25 = y by rw [hy]; rfl]
        obtain ⟨r, e1, h1, h2⟩ := again_ok hl hk hyl x.f2 x.f3 ⟨(hg c5).1, (hg c5).2.1⟩ (hg c5).2.2 (by omega) xs hx
        refine ⟨r, e1, h1, fun j => ?_⟩
        rw [h2]
        have : x.f3 < 0 ∨ x.f2 ≤ x.f3 := by omega
        simp only [Img, M_5' l x _ j c5 y hy, this, true_and]
      · rw [if_neg cl]
        refine ⟨[], rfl, setOK_nil _, fun j => ?_⟩
        simp only [List.not_mem_nil, false_iff]
        rintro ⟨i, _, h⟩
        rw [M_5 l x i j c5] at h
        exact cl ⟨h.1, by omega⟩
    · rw [if_neg c5]
      refine ⟨[], rfl, setOK_nil _, fun j => ?_⟩
      simp only [List.not_mem_nil, false_iff]
      rintro ⟨i, _, h⟩
      exact M_0 l x i j (by omega) h
theorem ends_ok {k : Nat} (l : List Int) (hl : l.length ≤ 64) (x : TNode) (hg : GoodN x) (hk : 200 ≤ k) (hd : dep x ≤ k) (a : Int) (ha : 0 ≤ a ∧ a ≤ (l.length : Int)) : endsS k x l a = some (endsM l x a) := by
  unfold endsS
  rw [if_neg (by omega)]
  obtain ⟨r, e, h1, h2⟩ := reach_ok hk l hl x hg k hd [a] (setOK_one ha)
  rw [e]
  congr 1
  refine srt_ext h1.srt (endsM_srt l x a) fun j => ?_
  rw [h2, mem_endsM l x a j ha]
  simp [Img]
end Go.Proofs.Ytaphbechnjmlgaa.P
