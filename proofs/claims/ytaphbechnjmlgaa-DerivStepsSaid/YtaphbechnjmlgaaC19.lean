/- Texts of this claim put together by a program of its own (Px16, SLit, SRefP), what the law does not use left out: each part's statements bear their own conditions. -/
import Derived.Test.YtaphbechnjmlgaaC12
import Derived.Test.YtaphbechnjmlgaaC17
import Derived.Test.YtaphbechnjmlgaaC18
namespace Go.Proofs.Ytaphbechnjmlgaa.P
open Go.RowKit Go.Proofs.YtaphbechnjmlgaaW.PrintWords Go.Proofs.YtaphbechnjmlgaaW.PrintLast Go.Proofs.YtaphbechnjmlgaaW.PrintMore
attribute [local go_sem] max2_int min2_int max_two min_two
set_option linter.unusedVariables false
set_option linter.unusedSimpArgs false

-- BY HAND: function 19 (ductusref18_Parsed)

def ductuslaw18_small.f (k : Nat) (a0_0 : Int) (l0_1 : List (S52)) (a0_2 : Int) (a0_3 : Int) (l0_4 : List (S25)) (l1 : List Int) : Option (Bool) := (ductusref16_Weight.f k a0_0 l0_1 a0_2 a0_3 l0_4 0).bind fun t199 => (if t199 ≤ 300 then (if (l1.length : Int) ≤ 40 then ((ductusref18_Parsed.f k a0_0 l0_1 a0_2 a0_3 l0_4).bind fun t200 => (some t200)) else (some false)) else (some false))
set_option maxHeartbeats 8000000 in
set_option maxRecDepth 100000 in
theorem ductuslaw18_small.calls (k : Nat) (a0_0 : Int) (A0_1 : Option Addr) (c0_1 : Nat) (l0_1 : List (S52)) (a0_2 : Int) (a0_3 : Int) (A0_4 : Option Addr) (c0_4 : Nat) (l0_4 : List (S25)) (A1 : Option Addr) (c1 : Nat) (l1 : List Int) (r : Bool) (w : World) (hr0_1 : Kd.C k52 w A0_1 l0_1.length l0_1) (hc0_1 : l0_1.length ≤ c0_1) (hr0_4 : Kd.C k25 w A0_4 l0_4.length l0_4) (hc0_4 : l0_4.length ≤ c0_4) (hr1 : Kd.C (Kd.int .i64) w A1 l1.length l1) (hc1 : l1.length ≤ c1) (h : ductuslaw18_small.f k a0_0 l0_1 a0_2 a0_3 l0_4 l1 = some r) :
    Calls Try.prog 8 #[.agg #[.int .i64 a0_0, .slice A0_1 l0_1.length c0_1, .int .i64 a0_2, .int .i64 a0_3, .slice A0_4 l0_4.length c0_4], .slice A1 l1.length c1] w fun e w' => e = .returned (.bool r) ∧ Below w.heap.size w w' := by
  have hu25 := Try.underlying25
  have HR0_1 := Aside0.mk hr0_1
  have HC0_1 := Aside0.mk hc0_1
  clear hr0_1 hc0_1
  have HR0_4 := Aside0.mk hr0_4
  have HC0_4 := Aside0.mk hc0_4
  clear hr0_4 hc0_4
  have HR1 := Aside0.mk hr1
  have HC1 := Aside0.mk hc1
  clear hr1 hc1
  have HB := Aside0.mk (Below.refl w.heap.size w)
  have H : ((ductusref16_Weight.f k a0_0 l0_1 a0_2 a0_3 l0_4 0).bind fun t199 => (if t199 ≤ 300 then (if (l1.length : Int) ≤ 40 then ((ductusref18_Parsed.f k a0_0 l0_1 a0_2 a0_3 l0_4).bind fun t200 => (some t200)) else (some false)) else (some false))) = some r := h
  clear h
  replace H := Option.bind_eq_some_iff.mp H
  obtain ⟨t199, A30, H⟩ := H
  replace H : (if t199 ≤ 300 then (if (l1.length : Int) ≤ 40 then ((ductusref18_Parsed.f k a0_0 l0_1 a0_2 a0_3 l0_4).bind fun t200 => (some t200)) else (some false)) else (some false)) = some r := H
  have A3 := Aside0.mk A30
  clear A30
  by_cases c4 : t199 ≤ 300
  rotate_left
  · rw [if_neg c4] at H
    have c4b0 : decide (t199 ≤ 300) = false := decide_eq_false c4
    clear c4
    obtain rfl := Option.some.inj H
    go_enter Try.func8, Try.ntmps8
    go_wp2_with (first | ((with_reducible refine gate_dst (N := 2) rfl ?_); (try (refine gate_guard (by rfl) ?_; dsimp only)); refine box_event ?hg (N := 2) ?hd (cs := #[.int .i64 a0_0, .slice A0_1 l0_1.length c0_1, .int .i64 a0_2, .int .i64 a0_3, .slice A0_4 l0_4.length c0_4]) (t := 25) ?hr ?_; (case hd => rfl); (case hg => rfl); (case hr => first | (go_simp; done) | (go_simp; rfl)); intro gb198 hg w15 hbox hb; have n0_ := Aside0.mk (below_step (by repeat (first | (with_reducible first | exact HB.out | apply below_alloc | apply pw_below_drewN | apply below_drew1) | exact HB.out)) hb); have n1_ := Aside0.mk (hbox); have n2_ := Aside0.mk ((by rw [hg]; exact (below_size (by repeat (first | (with_reducible first | exact HB.out | apply below_alloc | apply pw_below_drewN | apply below_drew1) | exact HB.out))) : w.heap.size ≤ gb198)); have n3_ := Aside0.mk ((by rw [hg]; exact (below_size (by repeat (first | (with_reducible first | exact HB.out | apply below_alloc | apply pw_below_drewN | apply below_drew1) | exact HB.out))) : w.heap.size ≤ gb198)); clear HB; have HB := n0_; have BK198 := n1_; have GW198 := n2_; have GE198 := n3_; clear n0_ n1_ n2_ n3_; clear hb hbox hg; have hcz16_0 : w15.cell? ⟨gb198, 0, none⟩ = some (.int .i64 a0_0) := (blk_cell BK198.out 0).trans rfl; have hcz16_1 : w15.cell? ⟨gb198, 1, none⟩ = some (.slice A0_1 l0_1.length c0_1) := (blk_cell BK198.out 1).trans rfl; have hcz16_2 : w15.cell? ⟨gb198, 2, none⟩ = some (.int .i64 a0_2) := (blk_cell BK198.out 2).trans rfl; have hcz16_3 : w15.cell? ⟨gb198, 3, none⟩ = some (.int .i64 a0_3) := (blk_cell BK198.out 3).trans rfl; have hcz16_4 : w15.cell? ⟨gb198, 4, none⟩ = some (.slice A0_4 l0_4.length c0_4) := (blk_cell BK198.out 4).trans rfl; have hfz16_0 := blk_frozen BK198.out 0; have hfz16_1 := blk_frozen BK198.out 1; have hfz16_2 := blk_frozen BK198.out 2; have hfz16_3 := blk_frozen BK198.out 3; have hfz16_4 := blk_frozen BK198.out 4) | ((with_reducible refine gate_callee (f := 10) rfl ?_); refine goesL_ (some 6) rfl rfl Try.func10 (by kernel_rfl) rfl #[.agg #[.int .i64 a0_0, .slice A0_1 l0_1.length c0_1, .int .i64 a0_2, .int .i64 a0_3, .slice A0_4 l0_4.length c0_4], .int .i64 0] rfl (by (try simp only [List.map_toArray, List.map_cons, List.map_nil]); first | done | rfl | (simp only [List.length_drop, List.length_take]; rfl)) ?_; (with_reducible refine (ductusref16_Weight.calls k a0_0 _ _ l0_1 a0_2 a0_3 _ _ l0_4 0 t199 _ ?side1 ?side2 ?side3 ?side4 A3.out).mono ?_); (case side1 => repeat (first | exact (Kd.C_below HR0_1.out HB.out) | (with_reducible refine Kd.C_alloc ?_ _) | (with_reducible refine Kd.C_drewN ?_ _) | (with_reducible refine Kd.C_drew ?_))); (case side2 => exact HC0_1.out); (case side3 => repeat (first | exact (Kd.C_below HR0_4.out HB.out) | (with_reducible refine Kd.C_alloc ?_ _) | (with_reducible refine Kd.C_drewN ?_ _) | (with_reducible refine Kd.C_drew ?_))); (case side4 => exact HC0_4.out); rintro e w17 ⟨rfl, hb⟩; refine ⟨_, rfl, ?_⟩; have n0_ := Aside0.mk (blk_below (g := gb198) (o := .cells #[.int .i64 a0_0, .slice A0_1 l0_1.length c0_1, .int .i64 a0_2, .int .i64 a0_3, .slice A0_4 l0_4.length c0_4] 25 (0, 0)) (by (with_reducible repeat (first | refine blk_drewN ?_ _ | refine blk_drew ?_ | refine blk_alloc ?_ _)); exact BK198.out) hb); have n1_ := Aside0.mk (below_step (by repeat (first | (with_reducible first | exact HB.out | apply below_alloc | apply pw_below_drewN | apply below_drew1 | refine below_set ?_ GE198.out) | exact HB.out)) hb); clear BK198; clear HB; have BK198 := n0_; have HB := n1_; clear n0_ n1_; (try clear hb); (try clear hb2); (try clear hk); (try clear hi)))
    go_ret
    exact ⟨by first | rfl | (simp [errW_none, errW_some] <;> rfl) | (simp [*, errW_none, errW_some] <;> rfl), by repeat (first | (with_reducible first | exact HB.out | apply below_alloc | apply pw_below_drewN | apply below_drew1 | refine below_set ?_ GE198.out) | exact HB.out)⟩
  rw [if_pos c4] at H
  have c4b0 : decide (t199 ≤ 300) = true := decide_eq_true c4
  clear c4
  by_cases c5 : (l1.length : Int) ≤ 40
  rotate_left
  · rw [if_neg c5] at H
    have c5b0 : decide ((l1.length : Int) ≤ 40) = false := decide_eq_false c5
    have c5b1 : decide (l1.length ≤ 40) = false := decide_eq_false (by omega)
    clear c5
    obtain rfl := Option.some.inj H
    go_enter Try.func8, Try.ntmps8
    go_wp2_with (first | ((with_reducible refine gate_dst (N := 2) rfl ?_); (try (refine gate_guard (by rfl) ?_; dsimp only)); refine box_event ?hg (N := 2) ?hd (cs := #[.int .i64 a0_0, .slice A0_1 l0_1.length c0_1, .int .i64 a0_2, .int .i64 a0_3, .slice A0_4 l0_4.length c0_4]) (t := 25) ?hr ?_; (case hd => rfl); (case hg => rfl); (case hr => first | (go_simp; done) | (go_simp; rfl)); intro gb198 hg w12 hbox hb; have n0_ := Aside0.mk (below_step (by repeat (first | (with_reducible first | exact HB.out | apply below_alloc | apply pw_below_drewN | apply below_drew1) | exact HB.out)) hb); have n1_ := Aside0.mk (hbox); have n2_ := Aside0.mk ((by rw [hg]; exact (below_size (by repeat (first | (with_reducible first | exact HB.out | apply below_alloc | apply pw_below_drewN | apply below_drew1) | exact HB.out))) : w.heap.size ≤ gb198)); have n3_ := Aside0.mk ((by rw [hg]; exact (below_size (by repeat (first | (with_reducible first | exact HB.out | apply below_alloc | apply pw_below_drewN | apply below_drew1) | exact HB.out))) : w.heap.size ≤ gb198)); clear HB; have HB := n0_; have BK198 := n1_; have GW198 := n2_; have GE198 := n3_; clear n0_ n1_ n2_ n3_; clear hb hbox hg; have hcz13_0 : w12.cell? ⟨gb198, 0, none⟩ = some (.int .i64 a0_0) := (blk_cell BK198.out 0).trans rfl; have hcz13_1 : w12.cell? ⟨gb198, 1, none⟩ = some (.slice A0_1 l0_1.length c0_1) := (blk_cell BK198.out 1).trans rfl; have hcz13_2 : w12.cell? ⟨gb198, 2, none⟩ = some (.int .i64 a0_2) := (blk_cell BK198.out 2).trans rfl; have hcz13_3 : w12.cell? ⟨gb198, 3, none⟩ = some (.int .i64 a0_3) := (blk_cell BK198.out 3).trans rfl; have hcz13_4 : w12.cell? ⟨gb198, 4, none⟩ = some (.slice A0_4 l0_4.length c0_4) := (blk_cell BK198.out 4).trans rfl; have hfz13_0 := blk_frozen BK198.out 0; have hfz13_1 := blk_frozen BK198.out 1; have hfz13_2 := blk_frozen BK198.out 2; have hfz13_3 := blk_frozen BK198.out 3; have hfz13_4 := blk_frozen BK198.out 4) | ((with_reducible refine gate_callee (f := 10) rfl ?_); refine goesL_ (some 6) rfl rfl Try.func10 (by kernel_rfl) rfl #[.agg #[.int .i64 a0_0, .slice A0_1 l0_1.length c0_1, .int .i64 a0_2, .int .i64 a0_3, .slice A0_4 l0_4.length c0_4], .int .i64 0] rfl (by (try simp only [List.map_toArray, List.map_cons, List.map_nil]); first | done | rfl | (simp only [List.length_drop, List.length_take]; rfl)) ?_; (with_reducible refine (ductusref16_Weight.calls k a0_0 _ _ l0_1 a0_2 a0_3 _ _ l0_4 0 t199 _ ?side1 ?side2 ?side3 ?side4 A3.out).mono ?_); (case side1 => repeat (first | exact (Kd.C_below HR0_1.out HB.out) | (with_reducible refine Kd.C_alloc ?_ _) | (with_reducible refine Kd.C_drewN ?_ _) | (with_reducible refine Kd.C_drew ?_))); (case side2 => exact HC0_1.out); (case side3 => repeat (first | exact (Kd.C_below HR0_4.out HB.out) | (with_reducible refine Kd.C_alloc ?_ _) | (with_reducible refine Kd.C_drewN ?_ _) | (with_reducible refine Kd.C_drew ?_))); (case side4 => exact HC0_4.out); rintro e w14 ⟨rfl, hb⟩; refine ⟨_, rfl, ?_⟩; have n0_ := Aside0.mk (blk_below (g := gb198) (o := .cells #[.int .i64 a0_0, .slice A0_1 l0_1.length c0_1, .int .i64 a0_2, .int .i64 a0_3, .slice A0_4 l0_4.length c0_4] 25 (0, 0)) (by (with_reducible repeat (first | refine blk_drewN ?_ _ | refine blk_drew ?_ | refine blk_alloc ?_ _)); exact BK198.out) hb); have n1_ := Aside0.mk (below_step (by repeat (first | (with_reducible first | exact HB.out | apply below_alloc | apply pw_below_drewN | apply below_drew1 | refine below_set ?_ GE198.out) | exact HB.out)) hb); clear BK198; clear HB; have BK198 := n0_; have HB := n1_; clear n0_ n1_; (try clear hb); (try clear hb2); (try clear hk); (try clear hi)))
    go_ret
    exact ⟨by first | rfl | (simp [errW_none, errW_some] <;> rfl) | (simp [*, errW_none, errW_some] <;> rfl), by repeat (first | (with_reducible first | exact HB.out | apply below_alloc | apply pw_below_drewN | apply below_drew1 | refine below_set ?_ GE198.out) | exact HB.out)⟩
  rw [if_pos c5] at H
  have c5b0 : decide ((l1.length : Int) ≤ 40) = true := decide_eq_true c5
  have c5b1 : decide (l1.length ≤ 40) = true := decide_eq_true (by omega)
  clear c5
  replace H := Option.bind_eq_some_iff.mp H
  obtain ⟨t200, A60, H⟩ := H
  replace H : (some t200) = some r := H
  have A6 := Aside0.mk A60
  clear A60
  obtain rfl := Option.some.inj H
  go_enter Try.func8, Try.ntmps8
  go_wp2_with (first | ((with_reducible refine gate_dst (N := 2) rfl ?_); (try (refine gate_guard (by rfl) ?_; dsimp only)); refine box_event ?hg (N := 2) ?hd (cs := #[.int .i64 a0_0, .slice A0_1 l0_1.length c0_1, .int .i64 a0_2, .int .i64 a0_3, .slice A0_4 l0_4.length c0_4]) (t := 25) ?hr ?_; (case hd => rfl); (case hg => rfl); (case hr => first | (go_simp; done) | (go_simp; rfl)); intro gb198 hg w7 hbox hb; have n0_ := Aside0.mk (below_step (by repeat (first | (with_reducible first | exact HB.out | apply below_alloc | apply pw_below_drewN | apply below_drew1) | exact HB.out)) hb); have n1_ := Aside0.mk (hbox); have n2_ := Aside0.mk ((by rw [hg]; exact (below_size (by repeat (first | (with_reducible first | exact HB.out | apply below_alloc | apply pw_below_drewN | apply below_drew1) | exact HB.out))) : w.heap.size ≤ gb198)); have n3_ := Aside0.mk ((by rw [hg]; exact (below_size (by repeat (first | (with_reducible first | exact HB.out | apply below_alloc | apply pw_below_drewN | apply below_drew1) | exact HB.out))) : w.heap.size ≤ gb198)); clear HB; have HB := n0_; have BK198 := n1_; have GW198 := n2_; have GE198 := n3_; clear n0_ n1_ n2_ n3_; clear hb hbox hg; have hcz8_0 : w7.cell? ⟨gb198, 0, none⟩ = some (.int .i64 a0_0) := (blk_cell BK198.out 0).trans rfl; have hcz8_1 : w7.cell? ⟨gb198, 1, none⟩ = some (.slice A0_1 l0_1.length c0_1) := (blk_cell BK198.out 1).trans rfl; have hcz8_2 : w7.cell? ⟨gb198, 2, none⟩ = some (.int .i64 a0_2) := (blk_cell BK198.out 2).trans rfl; have hcz8_3 : w7.cell? ⟨gb198, 3, none⟩ = some (.int .i64 a0_3) := (blk_cell BK198.out 3).trans rfl; have hcz8_4 : w7.cell? ⟨gb198, 4, none⟩ = some (.slice A0_4 l0_4.length c0_4) := (blk_cell BK198.out 4).trans rfl; have hfz8_0 := blk_frozen BK198.out 0; have hfz8_1 := blk_frozen BK198.out 1; have hfz8_2 := blk_frozen BK198.out 2; have hfz8_3 := blk_frozen BK198.out 3; have hfz8_4 := blk_frozen BK198.out 4) | ((with_reducible refine gate_callee (f := 10) rfl ?_); refine goesL_ (some 6) rfl rfl Try.func10 (by kernel_rfl) rfl #[.agg #[.int .i64 a0_0, .slice A0_1 l0_1.length c0_1, .int .i64 a0_2, .int .i64 a0_3, .slice A0_4 l0_4.length c0_4], .int .i64 0] rfl (by (try simp only [List.map_toArray, List.map_cons, List.map_nil]); first | done | rfl | (simp only [List.length_drop, List.length_take]; rfl)) ?_; (with_reducible refine (ductusref16_Weight.calls k a0_0 _ _ l0_1 a0_2 a0_3 _ _ l0_4 0 t199 _ ?side1 ?side2 ?side3 ?side4 A3.out).mono ?_); (case side1 => repeat (first | exact (Kd.C_below HR0_1.out HB.out) | (with_reducible refine Kd.C_alloc ?_ _) | (with_reducible refine Kd.C_drewN ?_ _) | (with_reducible refine Kd.C_drew ?_))); (case side2 => exact HC0_1.out); (case side3 => repeat (first | exact (Kd.C_below HR0_4.out HB.out) | (with_reducible refine Kd.C_alloc ?_ _) | (with_reducible refine Kd.C_drewN ?_ _) | (with_reducible refine Kd.C_drew ?_))); (case side4 => exact HC0_4.out); rintro e w9 ⟨rfl, hb⟩; refine ⟨_, rfl, ?_⟩; have n0_ := Aside0.mk (blk_below (g := gb198) (o := .cells #[.int .i64 a0_0, .slice A0_1 l0_1.length c0_1, .int .i64 a0_2, .int .i64 a0_3, .slice A0_4 l0_4.length c0_4] 25 (0, 0)) (by (with_reducible repeat (first | refine blk_drewN ?_ _ | refine blk_drew ?_ | refine blk_alloc ?_ _)); exact BK198.out) hb); have n1_ := Aside0.mk (below_step (by repeat (first | (with_reducible first | exact HB.out | apply below_alloc | apply pw_below_drewN | apply below_drew1 | refine below_set ?_ GE198.out) | exact HB.out)) hb); clear BK198; clear HB; have BK198 := n0_; have HB := n1_; clear n0_ n1_; (try clear hb); (try clear hb2); (try clear hk); (try clear hi); have hcz10_0 : w9.cell? ⟨gb198, 0, none⟩ = some (.int .i64 a0_0) := (blk_cell BK198.out 0).trans rfl; have hcz10_1 : w9.cell? ⟨gb198, 1, none⟩ = some (.slice A0_1 l0_1.length c0_1) := (blk_cell BK198.out 1).trans rfl; have hcz10_2 : w9.cell? ⟨gb198, 2, none⟩ = some (.int .i64 a0_2) := (blk_cell BK198.out 2).trans rfl; have hcz10_3 : w9.cell? ⟨gb198, 3, none⟩ = some (.int .i64 a0_3) := (blk_cell BK198.out 3).trans rfl; have hcz10_4 : w9.cell? ⟨gb198, 4, none⟩ = some (.slice A0_4 l0_4.length c0_4) := (blk_cell BK198.out 4).trans rfl; have hfz10_0 := blk_frozen BK198.out 0; have hfz10_1 := blk_frozen BK198.out 1; have hfz10_2 := blk_frozen BK198.out 2; have hfz10_3 := blk_frozen BK198.out 3; have hfz10_4 := blk_frozen BK198.out 4) | (go_at_call 19; (with_reducible refine (ductusref18_Parsed.calls k a0_0 _ _ l0_1 a0_2 a0_3 _ _ l0_4 t200 _ ?side1 ?side2 ?side3 ?side4 A6.out).mono ?_); (case side1 => repeat (first | exact (Kd.C_below HR0_1.out HB.out) | (with_reducible refine Kd.C_alloc ?_ _) | (with_reducible refine Kd.C_drewN ?_ _) | (with_reducible refine Kd.C_drew ?_))); (case side2 => exact HC0_1.out); (case side3 => repeat (first | exact (Kd.C_below HR0_4.out HB.out) | (with_reducible refine Kd.C_alloc ?_ _) | (with_reducible refine Kd.C_drewN ?_ _) | (with_reducible refine Kd.C_drew ?_))); (case side4 => exact HC0_4.out); rintro e w11 ⟨rfl, hb⟩; have n0_ := Aside0.mk (blk_below (g := gb198) (o := .cells #[.int .i64 a0_0, .slice A0_1 l0_1.length c0_1, .int .i64 a0_2, .int .i64 a0_3, .slice A0_4 l0_4.length c0_4] 25 (0, 0)) (by (with_reducible repeat (first | refine blk_drewN ?_ _ | refine blk_drew ?_ | refine blk_alloc ?_ _)); exact BK198.out) hb); have n1_ := Aside0.mk (below_step (by repeat (first | (with_reducible first | exact HB.out | apply below_alloc | apply pw_below_drewN | apply below_drew1 | refine below_set ?_ GE198.out) | exact HB.out)) hb); clear BK198; clear HB; have BK198 := n0_; have HB := n1_; clear n0_ n1_; (try clear hb); (try clear hb2); (try clear hk); (try clear hi)))
  go_ret
  exact ⟨by first | rfl | (simp [errW_none, errW_some] <;> rfl) | (simp [*, errW_none, errW_some] <;> rfl), by repeat (first | (with_reducible first | exact HB.out | apply below_alloc | apply pw_below_drewN | apply below_drew1 | refine below_set ?_ GE198.out) | exact HB.out)⟩

def ductusref18_places.f (l0 : List Int) : Option (List Bool) := if 0 ≤ (wrap64 ((l0.length : Int) + 1)) then (if (wrap64 ((l0.length : Int) + 1) : Int).toNat ≤ 281474976710656 then (some (List.replicate (wrap64 ((l0.length : Int) + 1) : Int).toNat false)) else (none)) else (none)
set_option maxHeartbeats 8000000 in
set_option maxRecDepth 100000 in
theorem ductusref18_places.calls (A0 : Option Addr) (c0 : Nat) (l0 : List Int) (r : List Bool) (w : World) (hr0 : Kd.C (Kd.int .i64) w A0 l0.length l0) (hc0 : l0.length ≤ c0) (h : ductusref18_places.f l0 = some r) :
    Calls Try.prog 20 #[.slice A0 l0.length c0] w fun e w' => ∃ v0_ : Value, e = .returned (v0_) ∧ Kd.R Kd.bool 4 w' w.heap.size (fun _ => True) v0_ r ∧ Below w.heap.size w w' := by
  have HR0 := Aside0.mk hr0
  have HC0 := Aside0.mk hc0
  clear hr0 hc0
  have HB := Aside0.mk (Below.refl w.heap.size w)
  have H : (if 0 ≤ (wrap64 ((l0.length : Int) + 1)) then (if (wrap64 ((l0.length : Int) + 1) : Int).toNat ≤ 281474976710656 then (some (List.replicate (wrap64 ((l0.length : Int) + 1) : Int).toNat false)) else (none)) else (none)) = some r := h
  clear h
  obtain ⟨ji2, hji2⟩ : ∃ j_ : Int, (wrap64 ((l0.length : Int) + 1)) = j_ := ⟨_, rfl⟩
  replace H : (if 0 ≤ (ji2) then (if (ji2 : Int).toNat ≤ 281474976710656 then (some (List.replicate (ji2 : Int).toNat false)) else (none)) else (none)) = some r := by first | (rw [hji2] at H; exact H) | (simp only [hji2] at H ⊢; exact H)
  have hji2w : (IntKind.i64.wrap ((l0.length : Int) + 1)) = ji2 := (i64_w _).trans hji2
  by_cases c3 : 0 ≤ (ji2)
  rotate_left
  · rw [if_neg c3] at H
    exact absurd H (by simp)
  rw [if_pos c3] at H
  have c3b0 := eq_true c3
  have c3b1 : decide (0 ≤ (ji2)) = true := decide_eq_true c3
  clear c3
  by_cases c4 : (ji2 : Int).toNat ≤ 281474976710656
  rotate_left
  · rw [if_neg c4] at H
    exact absurd H (by simp)
  rw [if_pos c4] at H
  have c4b0 := eq_true c4
  have c4b1 : decide ((ji2 : Int).toNat ≤ 281474976710656) = true := decide_eq_true c4
  clear c4
  obtain ⟨y201, hy201⟩ : ∃ y_ : List Bool, y_ = (List.replicate (ji2 : Int).toNat false) := ⟨_, rfl⟩
  replace H : (some y201) = some r := by first | (rw [hy201]; with_reducible exact H) | (have H2_ := (Option.bind_some _ _).symm.trans H; rw [hy201]; with_reducible exact H2_) | (have H2_ := (Option.bind_some _ _).symm.trans H; with_reducible exact H2_) | with_reducible exact H | (rw [hy201]; exact H) | exact H
  have Ny201 := Aside0.mk hy201
  clear hy201
  obtain rfl := Option.some.inj H
  go_enter Try.func20, Try.ntmps20
  go_wp2_with (first | ((with_reducible refine gate_dst (N := 6) rfl ?_); refine Kd.R_make Kd.bool _ 4 rfl (N := 6) rfl 36 _ _ rfl ji2 rfl rfl Try.underlying36 (.bool false) 1 info4 rfl (by decide) (by omega) false (ok := fun _ => True) (okp := fun _ => True) rfl (fun _ hk => hk) trivial (of_decide_eq_true (by first | (with_reducible assumption) | assumption)) (Nat.le_trans (Nat.mul_le_mul_right _ (of_decide_eq_true (by first | (with_reducible assumption) | assumption) : ji2.toNat ≤ 281474976710656)) (by omega)) (Below.refl _ _) (Nat.le_refl _) ?_; intro v202 w5 ho6 hb hg_ hnew_; clear hg_ hnew_; (first | rw [← Ny201.out] at ho6 | (simp only [Int.reduceToNat] at ho6; rw [← Ny201.out] at ho6)); have n0_ := Aside0.mk (Kd.R_lower ho6 (below_size (by repeat (first | (with_reducible first | exact HB.out | apply below_alloc | apply pw_below_drewN | apply below_drew1) | exact HB.out)))); have n1_ := Aside0.mk (below_step (by repeat (first | (with_reducible first | exact HB.out | apply below_alloc | apply pw_below_drewN | apply below_drew1) | exact HB.out)) hb); clear HB; have HO203 := n0_; have HB := n1_; clear n0_ n1_; clear hb ho6))
  go_ret
  exact ⟨_, by first | rfl | (simp [errW_none, errW_some] <;> rfl) | (simp only [← hji2]; first | rfl | (simp [errW_none, errW_some] <;> rfl)) | (simp [*, errW_none, errW_some] <;> rfl), by (with_reducible repeat (first | apply Kd.R_alloc | apply Kd.R_drewN | apply Kd.R_drew)); exact HO203.out, by repeat (first | (with_reducible first | exact HB.out | apply below_alloc | apply pw_below_drewN | apply below_drew1) | exact HB.out)⟩

def ductusref16_Has.l0 : Nat → List (S52) → Int → Int → Option (Bool)
  | 0, _, _, _ => none
  | k + 1, x0, x1, x5 => if x5 < (x0.length : Int) then (if 0 ≤ x5 then (if x1 ≥ ((rd_T52 x0 x5).f0) then (if x1 ≤ ((rd_T52 x0 x5).f1) then (some true) else (ductusref16_Has.l0 k x0 x1 (wrap64 (x5 + 1)))) else (ductusref16_Has.l0 k x0 x1 (wrap64 (x5 + 1)))) else (none)) else (some false)
def ductusref16_Has.f (k : Nat) (l0 : List (S52)) (a1 : Int) : Option (Bool) := ductusref16_Has.l0 k l0 a1 0
theorem ductusref16_Has.mono_l : ∀ k, (∀ y0 y1 y2, LeO (ductusref16_Has.l0 k y0 y1 y2) (ductusref16_Has.l0 (k + 1) y0 y1 y2))
  | 0 => fun _ _ _ r h => by simp [ductusref16_Has.l0] at h
  | k + 1 => by
    have ih0 := ductusref16_Has.mono_l k
    · intro y0 y1 y2
      unfold ductusref16_Has.l0
      repeat' first
      | (with_reducible exact ih0 _ _ _)
      | (with_reducible exact LeO.refl _)
      | (with_reducible exact LeO.none _)
      | (with_reducible refine LeO.ite ?_ ?_)
      | (with_reducible refine LeO.bind ?_ (fun _ => ?_))
      | exact ih0 _ _ _
      | exact LeO.none _
      | refine LeO.ite ?_ ?_
      | refine LeO.bind ?_ (fun _ => ?_)
theorem ductusref16_Has.mono : ∀ a0 a1 k, LeO (ductusref16_Has.f k a0 a1) (ductusref16_Has.f (k + 1) a0 a1) := by
  intro a0 a1 k
  have ih0 := ductusref16_Has.mono_l k
  unfold ductusref16_Has.f
  repeat' first
      | (with_reducible exact ih0 _ _ _)
      | (with_reducible exact LeO.refl _)
      | (with_reducible exact LeO.none _)
      | (with_reducible refine LeO.ite ?_ ?_)
      | (with_reducible refine LeO.bind ?_ (fun _ => ?_))
      | exact ih0 _ _ _
      | exact LeO.none _
      | refine LeO.ite ?_ ?_
      | refine LeO.bind ?_ (fun _ => ?_)
set_option maxHeartbeats 8000000 in
set_option maxRecDepth 100000 in
theorem ductusref16_Has.calls (k : Nat) (A0 : Option Addr) (c0 : Nat) (l0 : List (S52)) (a1 : Int) (r : Bool) (w : World) (hr0 : Kd.C k52 w A0 l0.length l0) (hc0 : l0.length ≤ c0) (h : ductusref16_Has.f k l0 a1 = some r) :
    Calls Try.prog 30 #[.slice A0 l0.length c0, .int .i64 a1] w fun e w' => e = .returned (.bool r) ∧ Drawn0 w w' := by
  have HR0 := Aside0.mk hr0
  have HC0 := Aside0.mk hc0
  clear hr0 hc0
  have H : (ductusref16_Has.l0 k l0 a1 0) = some r := h
  clear h
  have H' := Aside0.mk H
  clear H
  go_enter Try.func30, Try.ntmps30
  go_wp2
  go_loopg [5] k (fun kq v5 w' => ∃ (x5_1 : Int), v5 = .int .i64 x5_1 ∧ Aside0 (ductusref16_Has.l0 kq l0 a1 x5_1 = some r) ∧ Aside0 (kq ≤ k) ∧ Drawn0 w w')
  case atStart => exact ⟨(0), (by first | rfl | (simp; done) | (simp [*]; done)), H', ⟨Nat.le_refl _⟩, by repeat (first | exact Drawn0.refl _ | apply Drawn0.step)⟩
  case round =>
    clear H'
    try clear p2
    obtain ⟨x5_1, rfl, HA, HK1, ⟨m1, rfl⟩⟩ := hrel
    cases gk with
    | zero => exact absurd HA.out (by simp [ductusref16_Has.l0])
    | succ k1 =>
      have H := HA.out
      clear HA
      simp only [ductusref16_Has.l0] at H
      by_cases c3 : x5_1 < (l0.length : Int)
      rotate_left
      · rw [if_neg c3] at H
        have c3b0 : decide (x5_1 < (l0.length : Int)) = false := decide_eq_false c3
        clear c3
        obtain rfl := Option.some.inj H
        go_wp2
        go_ret
        exact ⟨by first | rfl | (simp; done) | (simp [*]; done), by repeat (first | exact Drawn0.refl _ | apply Drawn0.step)⟩
      rw [if_pos c3] at H
      have c3b0 : decide (x5_1 < (l0.length : Int)) = true := decide_eq_true c3
      clear c3
      by_cases c4 : 0 ≤ x5_1
      rotate_left
      · rw [if_neg c4] at H
        exact absurd H (by simp)
      rw [if_pos c4] at H
      have c4b0 : decide (0 ≤ x5_1) = true := decide_eq_true c4
      clear c4
      by_cases c5 : a1 ≥ ((rd_T52 l0 x5_1).f0)
      rotate_left
      · rw [if_neg c5] at H
        have c5b0 : decide (((rd_T52 l0 x5_1).f0) ≤ a1) = false := decide_eq_false c5
        clear c5
        have H' := Aside0.mk H
        clear H
        have p204 : 0 ≤ (x5_1 : Int) := of_decide_eq_true (by first | (with_reducible assumption) | assumption)
        have q204 : x5_1 < (l0.length : Int) := of_decide_eq_true (by first | (with_reducible assumption) | assumption)
        obtain ⟨ad204, e204, hx204_0, hx204_1⟩ := at_T52 HR0.out x5_1 p204 q204
        cases e204
        replace p204 := eq_true p204
        replace q204 := eq_true q204
        go_wp2
        go_roundg k1
        case measure => have := HK1.out; omega
        case rel => exact ⟨(wrap64 (x5_1 + 1)), (by first | rfl | (simp; done) | (simp [*]; done)), H', ⟨by have := HK1.out; omega⟩, by repeat (first | exact Drawn0.refl _ | apply Drawn0.step)⟩
      rw [if_pos c5] at H
      have c5b0 : decide (((rd_T52 l0 x5_1).f0) ≤ a1) = true := decide_eq_true c5
      clear c5
      by_cases c6 : a1 ≤ ((rd_T52 l0 x5_1).f1)
      · rw [if_pos c6] at H
        have c6b0 : decide (a1 ≤ ((rd_T52 l0 x5_1).f1)) = true := decide_eq_true c6
        clear c6
        obtain rfl := Option.some.inj H
        have p204 : 0 ≤ (x5_1 : Int) := of_decide_eq_true (by first | (with_reducible assumption) | assumption)
        have q204 : x5_1 < (l0.length : Int) := of_decide_eq_true (by first | (with_reducible assumption) | assumption)
        obtain ⟨ad204, e204, hx204_0, hx204_1⟩ := at_T52 HR0.out x5_1 p204 q204
        cases e204
        replace p204 := eq_true p204
        replace q204 := eq_true q204
        have p205 : 0 ≤ (x5_1 : Int) := of_decide_eq_true (by first | (with_reducible assumption) | assumption)
        have q205 : x5_1 < (l0.length : Int) := of_decide_eq_true (by first | (with_reducible assumption) | assumption)
        obtain ⟨ad205, e205, hx205_0, hx205_1⟩ := at_T52 HR0.out x5_1 p205 q205
        obtain rfl : ad204 = ad205 := (by injection e205)
        replace p205 := eq_true p205
        replace q205 := eq_true q205
        go_wp2
        go_ret
        exact ⟨by first | rfl | (simp; done) | (simp [*]; done), by repeat (first | exact Drawn0.refl _ | apply Drawn0.step)⟩
      rw [if_neg c6] at H
      have c6b0 : decide (a1 ≤ ((rd_T52 l0 x5_1).f1)) = false := decide_eq_false c6
      clear c6
      have H' := Aside0.mk H
      clear H
      have p204 : 0 ≤ (x5_1 : Int) := of_decide_eq_true (by first | (with_reducible assumption) | assumption)
      have q204 : x5_1 < (l0.length : Int) := of_decide_eq_true (by first | (with_reducible assumption) | assumption)
      obtain ⟨ad204, e204, hx204_0, hx204_1⟩ := at_T52 HR0.out x5_1 p204 q204
      cases e204
      replace p204 := eq_true p204
      replace q204 := eq_true q204
      have p205 : 0 ≤ (x5_1 : Int) := of_decide_eq_true (by first | (with_reducible assumption) | assumption)
      have q205 : x5_1 < (l0.length : Int) := of_decide_eq_true (by first | (with_reducible assumption) | assumption)
      obtain ⟨ad205, e205, hx205_0, hx205_1⟩ := at_T52 HR0.out x5_1 p205 q205
      obtain rfl : ad204 = ad205 := (by injection e205)
      replace p205 := eq_true p205
      replace q205 := eq_true q205
      go_wp2
      go_roundg k1
      case measure => have := HK1.out; omega
      case rel => exact ⟨(wrap64 (x5_1 + 1)), (by first | rfl | (simp; done) | (simp [*]; done)), H', ⟨by have := HK1.out; omega⟩, by repeat (first | exact Drawn0.refl _ | apply Drawn0.step)⟩

def ductusref18_either.l0 : Nat → List Bool → List Bool → List Bool → Int → Option (List Bool)
  | 0, _, _, _, _ => none
  | k + 1, x0, x1, x5, x6 => if x6 < (x0.length : Int) then (if 0 ≤ x6 then (if rdOf false x0 x6 = true then (if x6 < (x5.length : Int) then (ductusref18_either.l0 k x0 x1 (x5.set (x6 : Int).toNat true) (wrap64 (x6 + 1))) else (none)) else (if x6 < (x1.length : Int) then (if x6 < (x5.length : Int) then (ductusref18_either.l0 k x0 x1 (x5.set (x6 : Int).toNat (rdOf false x1 x6)) (wrap64 (x6 + 1))) else (none)) else (none))) else (none)) else (some x5)
def ductusref18_either.f (k : Nat) (l0 : List Bool) (l1 : List Bool) : Option (List Bool) := if 0 ≤ (l0.length : Int) then (if ((l0.length : Int) : Int).toNat ≤ 281474976710656 then (ductusref18_either.l0 k l0 l1 (List.replicate ((l0.length : Int) : Int).toNat false) 0) else (none)) else (none)
theorem ductusref18_either.mono_l : ∀ k, (∀ y0 y1 y2 y3, LeO (ductusref18_either.l0 k y0 y1 y2 y3) (ductusref18_either.l0 (k + 1) y0 y1 y2 y3))
  | 0 => fun _ _ _ _ r h => by simp [ductusref18_either.l0] at h
  | k + 1 => by
    have ih0 := ductusref18_either.mono_l k
    · intro y0 y1 y2 y3
      unfold ductusref18_either.l0
      repeat' first
      | (with_reducible exact ih0 _ _ _ _)
      | (with_reducible exact LeO.refl _)
      | (with_reducible exact LeO.none _)
      | (with_reducible refine LeO.ite ?_ ?_)
      | (with_reducible refine LeO.bind ?_ (fun _ => ?_))
      | exact ih0 _ _ _ _
      | exact LeO.none _
      | refine LeO.ite ?_ ?_
      | refine LeO.bind ?_ (fun _ => ?_)
theorem ductusref18_either.mono : ∀ a0 a1 k, LeO (ductusref18_either.f k a0 a1) (ductusref18_either.f (k + 1) a0 a1) := by
  intro a0 a1 k
  have ih0 := ductusref18_either.mono_l k
  unfold ductusref18_either.f
  repeat' first
      | (with_reducible exact ih0 _ _ _ _)
      | (with_reducible exact LeO.refl _)
      | (with_reducible exact LeO.none _)
      | (with_reducible refine LeO.ite ?_ ?_)
      | (with_reducible refine LeO.bind ?_ (fun _ => ?_))
      | exact ih0 _ _ _ _
      | exact LeO.none _
      | refine LeO.ite ?_ ?_
      | refine LeO.bind ?_ (fun _ => ?_)
set_option maxHeartbeats 8000000 in
set_option maxRecDepth 100000 in
theorem ductusref18_either.calls (k : Nat) (A0 : Option Addr) (c0 : Nat) (l0 : List Bool) (A1 : Option Addr) (c1 : Nat) (l1 : List Bool) (r : List Bool) (w : World) (hr0 : Kd.C Kd.bool w A0 l0.length l0) (hc0 : l0.length ≤ c0) (hr1 : Kd.C Kd.bool w A1 l1.length l1) (hc1 : l1.length ≤ c1) (h : ductusref18_either.f k l0 l1 = some r) :
    Calls Try.prog 31 #[.slice A0 l0.length c0, .slice A1 l1.length c1] w fun e w' => ∃ v0_ : Value, e = .returned (v0_) ∧ Kd.R Kd.bool 4 w' w.heap.size (fun _ => True) v0_ r ∧ Below w.heap.size w w' := by
  have HR0 := Aside0.mk hr0
  have HC0 := Aside0.mk hc0
  clear hr0 hc0
  have HR1 := Aside0.mk hr1
  have HC1 := Aside0.mk hc1
  clear hr1 hc1
  have HB := Aside0.mk (Below.refl w.heap.size w)
  have H : (if 0 ≤ (l0.length : Int) then (if ((l0.length : Int) : Int).toNat ≤ 281474976710656 then (ductusref18_either.l0 k l0 l1 (List.replicate ((l0.length : Int) : Int).toNat false) 0) else (none)) else (none)) = some r := h
  clear h
  by_cases c3 : 0 ≤ (l0.length : Int)
  rotate_left
  · rw [if_neg c3] at H
    exact absurd H (by simp)
  rw [if_pos c3] at H
  have c3b0 := eq_true c3
  have c3b1 : decide (0 ≤ (l0.length : Int)) = true := decide_eq_true c3
  clear c3
  by_cases c4 : ((l0.length : Int) : Int).toNat ≤ 281474976710656
  rotate_left
  · rw [if_neg c4] at H
    exact absurd H (by simp)
  rw [if_pos c4] at H
  have c4b0 := eq_true c4
  have c4b1 : decide (((l0.length : Int) : Int).toNat ≤ 281474976710656) = true := decide_eq_true c4
  clear c4
  obtain ⟨y206, hy206⟩ : ∃ y_ : List Bool, y_ = (List.replicate ((l0.length : Int) : Int).toNat false) := ⟨_, rfl⟩
  replace H : (ductusref18_either.l0 k l0 l1 y206 0) = some r := by first | (rw [hy206]; with_reducible exact H) | (have H2_ := (Option.bind_some _ _).symm.trans H; rw [hy206]; with_reducible exact H2_) | (have H2_ := (Option.bind_some _ _).symm.trans H; with_reducible exact H2_) | with_reducible exact H | (rw [hy206]; exact H) | exact H
  have Ny206 := Aside0.mk hy206
  clear hy206
  have H' := Aside0.mk H
  clear H
  go_enter Try.func31, Try.ntmps31
  go_wp2_with (first | ((with_reducible refine gate_dst (N := 9) rfl ?_); refine Kd.R_make Kd.bool _ 4 rfl (N := 9) rfl 36 _ _ rfl (l0.length : Int) rfl rfl Try.underlying36 (.bool false) 1 info4 rfl (by decide) (by omega) false (ok := fun _ => True) (okp := fun _ => True) rfl (fun _ hk => hk) trivial (of_decide_eq_true (by first | (with_reducible assumption) | assumption)) (Nat.le_trans (Nat.mul_le_mul_right _ (of_decide_eq_true (by first | (with_reducible assumption) | assumption) : (l0.length : Int).toNat ≤ 281474976710656)) (by omega)) (Below.refl _ _) (Nat.le_refl _) ?_; intro v207 w5 ho6 hb hg_ hnew_; clear hg_ hnew_; (first | rw [← Ny206.out] at ho6 | (simp only [Int.reduceToNat] at ho6; rw [← Ny206.out] at ho6)); have n0_ := Aside0.mk (Kd.R_lower ho6 (below_size (by repeat (first | (with_reducible first | exact HB.out | apply below_alloc | apply pw_below_drewN | apply below_drew1) | exact HB.out)))); have n1_ := Aside0.mk (below_step (by repeat (first | (with_reducible first | exact HB.out | apply below_alloc | apply pw_below_drewN | apply below_drew1) | exact HB.out)) hb); clear HB; have HO208 := n0_; have HB := n1_; clear n0_ n1_; clear hb ho6))
  go_loopg [6] k (fun kq v6 w' => ∃ (x5_1 : List Bool) (x6_1 : Int), v6 = .int .i64 x6_1 ∧ Aside0 (ductusref18_either.l0 kq l0 l1 x5_1 x6_1 = some r) ∧ Aside0 (kq ≤ k) ∧ Aside0 (Kd.R Kd.bool 4 w' w.heap.size (fun _ => True) v207 x5_1) ∧ Aside0 (Below w.heap.size w w'))
  case atStart => exact ⟨(y206), (0), (by first | rfl | (simp; done) | (simp [*]; done)), H', ⟨Nat.le_refl _⟩, ⟨by (with_reducible repeat (first | apply Kd.R_alloc | apply Kd.R_drewN | apply Kd.R_drew)); exact HO208.out⟩, ⟨by repeat (first | (with_reducible first | exact HB.out | apply below_alloc | apply pw_below_drewN | apply below_drew1) | exact HB.out)⟩⟩
  case round =>
    clear H'
    try clear c1
    try clear p2
    try clear c3
    try clear c3b0
    try clear c3b1
    try clear c4
    try clear c4b0
    try clear c4b1
    obtain ⟨x5_1, x6_1, rfl, HA, HK1, HO_5, HB⟩ := hrel
    cases gk with
    | zero => exact absurd HA.out (by simp [ductusref18_either.l0])
    | succ k1 =>
      have H := HA.out
      clear HA
      simp only [ductusref18_either.l0] at H
      by_cases c7 : x6_1 < (l0.length : Int)
      rotate_left
      · rw [if_neg c7] at H
        have c7b0 : decide (x6_1 < (l0.length : Int)) = false := decide_eq_false c7
        clear c7
        obtain rfl := Option.some.inj H
        go_wp2
        go_ret
        exact ⟨_, by first | rfl | (simp [errW_none, errW_some] <;> rfl) | (simp [*, errW_none, errW_some] <;> rfl), by (with_reducible repeat (first | apply Kd.R_alloc | apply Kd.R_drewN | apply Kd.R_drew)); exact HO_5.out, by repeat (first | (with_reducible first | exact HB.out | apply below_alloc | apply pw_below_drewN | apply below_drew1) | exact HB.out)⟩
      rw [if_pos c7] at H
      have c7b0 : decide (x6_1 < (l0.length : Int)) = true := decide_eq_true c7
      clear c7
      by_cases c8 : 0 ≤ x6_1
      rotate_left
      · rw [if_neg c8] at H
        exact absurd H (by simp)
      rw [if_pos c8] at H
      have c8b0 : decide (0 ≤ x6_1) = true := decide_eq_true c8
      clear c8
      obtain ⟨bq9, hbq9⟩ : ∃ b_ : Bool, b_ = (rdOf false l0 x6_1) := ⟨_, rfl⟩
      replace H : (if bq9 = true then (if x6_1 < (x5_1.length : Int) then (ductusref18_either.l0 k1 l0 l1 (x5_1.set (x6_1 : Int).toNat true) (wrap64 (x6_1 + 1))) else (none)) else (if x6_1 < (l1.length : Int) then (if x6_1 < (x5_1.length : Int) then (ductusref18_either.l0 k1 l0 l1 (x5_1.set (x6_1 : Int).toNat (rdOf false l1 x6_1)) (wrap64 (x6_1 + 1))) else (none)) else (none))) = some r := by rw [← hbq9] at H; exact H
      have Nbq9 := Aside0.mk hbq9
      clear hbq9
      by_cases c10 : bq9 = true
      · subst c10
        have H1 : (if x6_1 < (x5_1.length : Int) then (ductusref18_either.l0 k1 l0 l1 (x5_1.set (x6_1 : Int).toNat true) (wrap64 (x6_1 + 1))) else (none)) = some r := by rw [if_pos rfl] at H; exact H
        clear H
        have H := H1
        clear H1
        by_cases c11 : x6_1 < (x5_1.length : Int)
        rotate_left
        · rw [if_neg c11] at H
          exact absurd H (by simp)
        rw [if_pos c11] at H
        have c11b0 : decide (x6_1 < (x5_1.length : Int)) = true := decide_eq_true c11
        clear c11
        obtain ⟨y210, hy210⟩ : ∃ y_ : List Bool, y_ = (x5_1.set (x6_1 : Int).toNat true) := ⟨_, rfl⟩
        replace H : (ductusref18_either.l0 k1 l0 l1 y210 (wrap64 (x6_1 + 1))) = some r := by first | (rw [hy210]; with_reducible exact H) | (have H2_ := (Option.bind_some _ _).symm.trans H; rw [hy210]; with_reducible exact H2_) | (have H2_ := (Option.bind_some _ _).symm.trans H; with_reducible exact H2_) | with_reducible exact H | (rw [hy210]; exact H) | exact H
        have Ny210 := Aside0.mk hy210
        clear hy210
        have H' := Aside0.mk H
        clear H
        have p209 : 0 ≤ (x6_1 : Int) := of_decide_eq_true (by first | (with_reducible assumption) | assumption)
        have q209 : x6_1 < (l0.length : Int) := of_decide_eq_true (by first | (with_reducible assumption) | assumption)
        obtain ⟨ad209, e209, hx209_0⟩ := Kd.at_bool HR0.out x6_1 p209 q209
        (try rw [← Nbq9.out] at hx209_0)
        cases e209
        replace hx209_0 := (HB.out.cell (World.block_lt_of_cell? w _ hx209_0)).trans hx209_0
        replace p209 := eq_true p209
        replace q209 := eq_true q209
        have p12 : 0 ≤ (x6_1 : Int) := of_decide_eq_true (by first | (with_reducible assumption) | assumption)
        have q12 : (x6_1 : Int) < ((x5_1.length : Int) : Int) := of_decide_eq_true (by first | (with_reducible assumption) | assumption)
        obtain ⟨go12, co12, eo12, gb12, gl12, cl12, HG12⟩ := Kd.R_form HO_5.out (by omega)
        (first | cases eo12 | (injection eo12 with ea_ en_ ec_; (first | subst ea_ | (injection ea_ with ea_; subst ea_)); subst ec_; clear en_))
        have GB12 := Aside0.mk gb12
        have GG12 := Aside0.mk HG12
        clear gb12 gl12 HG12
        obtain ⟨hx12_0, hf12_0⟩ := Kd.R_celln false HO_5.out (x6_1 : Int) p12 q12
        replace p12 := eq_true p12
        replace q12 := eq_true q12
        have HP13 := Kd.R_putg HO_5.out (x6_1 : Int) true
        go_wp2_with (first | ((with_reducible refine gate_store (t := 4) (p := 28) rfl ?_); refine store_event (t := 4) (p := 28) (v := ?vo_w14) (w1 := (wr.setCell ⟨go12, (x6_1 : Int).toNat, none⟩ (.bool true))) ?hg ?ho ?hn ?hr ?_; (case ho => rfl); (case hg => rfl); (case hn => rfl); (case hr => first | (go_simp; done) | (go_simp; rfl)); intro w14 hw; have hg : wr.grownBy w14 (some go12) := (by rw [hw]; exact HP13.2); have hp_ : Kd.R Kd.bool 4 w14 w.heap.size (fun _ => True) (.slice (some ⟨go12, 0, none⟩) x5_1.length co12) y210 := (by rw [hw, Ny210.out]; exact HP13.1); clear HP13; have n0_ := Aside0.mk (hp_); have n1_ := Aside0.mk ((by rw [hw]; exact below_set (HB.out) GB12.out : Below w.heap.size w w14)); clear HO_5; clear HB; have HO_5 := n0_; have HB := n1_; clear n0_ n1_; clear hg hw hp_))
        go_roundg k1
        case measure => have := HK1.out; omega
        case rel => exact ⟨(y210), (wrap64 (x6_1 + 1)), (by first | rfl | (simp; done) | (simp [*]; done)), H', ⟨by have := HK1.out; omega⟩, ⟨by (with_reducible repeat (first | apply Kd.R_alloc | apply Kd.R_drewN | apply Kd.R_drew)); exact HO_5.out⟩, ⟨by repeat (first | (with_reducible first | exact HB.out | apply below_alloc | apply pw_below_drewN | apply below_drew1) | exact HB.out)⟩⟩
      replace c10 := Bool.eq_false_iff.mpr c10
      subst c10
      have H1 : (if x6_1 < (l1.length : Int) then (if x6_1 < (x5_1.length : Int) then (ductusref18_either.l0 k1 l0 l1 (x5_1.set (x6_1 : Int).toNat (rdOf false l1 x6_1)) (wrap64 (x6_1 + 1))) else (none)) else (none)) = some r := by rw [if_neg (show ¬ (false = true) by decide)] at H; exact H
      clear H
      have H := H1
      clear H1
      by_cases c15 : x6_1 < (l1.length : Int)
      rotate_left
      · rw [if_neg c15] at H
        exact absurd H (by simp)
      rw [if_pos c15] at H
      have c15b0 : decide (x6_1 < (l1.length : Int)) = true := decide_eq_true c15
      clear c15
      by_cases c16 : x6_1 < (x5_1.length : Int)
      rotate_left
      · rw [if_neg c16] at H
        exact absurd H (by simp)
      rw [if_pos c16] at H
      have c16b0 : decide (x6_1 < (x5_1.length : Int)) = true := decide_eq_true c16
      clear c16
      obtain ⟨y212, hy212⟩ : ∃ y_ : List Bool, y_ = (x5_1.set (x6_1 : Int).toNat (rdOf false l1 x6_1)) := ⟨_, rfl⟩
      replace H : (ductusref18_either.l0 k1 l0 l1 y212 (wrap64 (x6_1 + 1))) = some r := by first | (rw [hy212]; with_reducible exact H) | (have H2_ := (Option.bind_some _ _).symm.trans H; rw [hy212]; with_reducible exact H2_) | (have H2_ := (Option.bind_some _ _).symm.trans H; with_reducible exact H2_) | with_reducible exact H | (rw [hy212]; exact H) | exact H
      have Ny212 := Aside0.mk hy212
      clear hy212
      have H' := Aside0.mk H
      clear H
      have p209 : 0 ≤ (x6_1 : Int) := of_decide_eq_true (by first | (with_reducible assumption) | assumption)
      have q209 : x6_1 < (l0.length : Int) := of_decide_eq_true (by first | (with_reducible assumption) | assumption)
      obtain ⟨ad209, e209, hx209_0⟩ := Kd.at_bool HR0.out x6_1 p209 q209
      (try rw [← Nbq9.out] at hx209_0)
      cases e209
      replace hx209_0 := (HB.out.cell (World.block_lt_of_cell? w _ hx209_0)).trans hx209_0
      replace p209 := eq_true p209
      replace q209 := eq_true q209
      have p211 : 0 ≤ (x6_1 : Int) := of_decide_eq_true (by first | (with_reducible assumption) | assumption)
      have q211 : x6_1 < (l1.length : Int) := of_decide_eq_true (by first | (with_reducible assumption) | assumption)
      obtain ⟨ad211, e211, hx211_0⟩ := Kd.at_bool HR1.out x6_1 p211 q211
      (try rw [← Nbq9.out] at hx211_0)
      cases e211
      replace hx211_0 := (HB.out.cell (World.block_lt_of_cell? w _ hx211_0)).trans hx211_0
      replace p211 := eq_true p211
      replace q211 := eq_true q211
      have p17 : 0 ≤ (x6_1 : Int) := of_decide_eq_true (by first | (with_reducible assumption) | assumption)
      have q17 : (x6_1 : Int) < ((x5_1.length : Int) : Int) := of_decide_eq_true (by first | (with_reducible assumption) | assumption)
      obtain ⟨go17, co17, eo17, gb17, gl17, cl17, HG17⟩ := Kd.R_form HO_5.out (by omega)
      (first | cases eo17 | (injection eo17 with ea_ en_ ec_; (first | subst ea_ | (injection ea_ with ea_; subst ea_)); subst ec_; clear en_))
      have GB17 := Aside0.mk gb17
      have GG17 := Aside0.mk HG17
      clear gb17 gl17 HG17
      obtain ⟨hx17_0, hf17_0⟩ := Kd.R_celln false HO_5.out (x6_1 : Int) p17 q17
      replace p17 := eq_true p17
      replace q17 := eq_true q17
      have HP18 := Kd.R_putg HO_5.out (x6_1 : Int) (rdOf false l1 x6_1)
      go_wp2_with (first | ((with_reducible refine gate_store (t := 4) (p := 28) rfl ?_); refine store_event (t := 4) (p := 28) (v := ?vo_w19) (w1 := (wr.setCell ⟨go17, (x6_1 : Int).toNat, none⟩ (.bool (rdOf false l1 x6_1)))) ?hg ?ho ?hn ?hr ?_; (case ho => rfl); (case hg => rfl); (case hn => rfl); (case hr => first | (go_simp; done) | (go_simp; rfl)); intro w19 hw; have hg : wr.grownBy w19 (some go17) := (by rw [hw]; exact HP18.2); have hp_ : Kd.R Kd.bool 4 w19 w.heap.size (fun _ => True) (.slice (some ⟨go17, 0, none⟩) x5_1.length co17) y212 := (by rw [hw, Ny212.out]; exact HP18.1); clear HP18; have n0_ := Aside0.mk (hp_); have n1_ := Aside0.mk ((by rw [hw]; exact below_set (HB.out) GB17.out : Below w.heap.size w w19)); clear HO_5; clear HB; have HO_5 := n0_; have HB := n1_; clear n0_ n1_; clear hg hw hp_))
      go_roundg k1
      case measure => have := HK1.out; omega
      case rel => exact ⟨(y212), (wrap64 (x6_1 + 1)), (by first | rfl | (simp; done) | (simp [*]; done)), H', ⟨by have := HK1.out; omega⟩, ⟨by (with_reducible repeat (first | apply Kd.R_alloc | apply Kd.R_drewN | apply Kd.R_drew)); exact HO_5.out⟩, ⟨by repeat (first | (with_reducible first | exact HB.out | apply below_alloc | apply pw_below_drewN | apply below_drew1) | exact HB.out)⟩⟩

end Go.Proofs.Ytaphbechnjmlgaa.P
namespace Go.Proofs.Ytaphbechnjmlgaa.P
open Go.RowKit Go.Proofs.YtaphbechnjmlgaaW.PrintWords Go.Proofs.YtaphbechnjmlgaaW.PrintLast Go.Proofs.YtaphbechnjmlgaaW.PrintMore
set_option linter.unusedVariables false
set_option linter.unusedSimpArgs false

theorem size_node (k : Nat) {W : World} {x : DNode} {cs : Array Value} (hx : NodeAt W x (.agg cs)) {r : Int} (h : ductusref16_Size.f k x.f0 x.f1 x.f2 x.f3 x.f4 = some r) :
    Calls Try.prog 11 #[.agg cs] W fun e w' => e = .returned (.int .i64 r) ∧ Below W.heap.size W w' := by
  obtain ⟨A1, c1, A4, c4, e, l1, g1, l4, g4⟩ := hx
  cases e
  exact ductusref16_Size.calls k x.f0 A1 c1 x.f1 x.f2 x.f3 A4 c4 x.f4 r W g1 l1 g4 l4 h
theorem small_node (k : Nat) {W : World} {x : DNode} {cs : Array Value} (hx : NodeAt W x (.agg cs)) {A : Option Addr} {c : Nat} {l : List Int} {r : Bool} (hl : Kd.C (Kd.int .i64) W A l.length l) (hc : l.length ≤ c) (h : ductuslaw18_small.f k x.f0 x.f1 x.f2 x.f3 x.f4 l = some r) :
    Calls Try.prog 8 #[.agg cs, .slice A l.length c] W fun e w' => e = .returned (.bool r) ∧ Below W.heap.size W w' := by
  obtain ⟨A1, c1, A4, c4, e, l1, g1, l4, g4⟩ := hx
  cases e
  exact ductuslaw18_small.calls k x.f0 A1 c1 x.f1 x.f2 x.f3 A4 c4 x.f4 A c l r W g1 l1 g4 l4 hl hc h
end Go.Proofs.Ytaphbechnjmlgaa.P
namespace Go.Proofs.Ytaphbechnjmlgaa.P
open Go.RowKit Go.Proofs.YtaphbechnjmlgaaW.PrintWords Go.Proofs.YtaphbechnjmlgaaW.PrintLast Go.Proofs.YtaphbechnjmlgaaW.PrintMore
attribute [local go_sem] max2_int min2_int max_two min_two
set_option linter.unusedVariables false
set_option linter.unusedSimpArgs false

/-- Any reach, with its contract. -/
structure RefReach where
  f : Nat → Int → List (S52) → Int → Int → List (S25) → List Int → List Bool → Option (List Bool)
  mono : ∀ a0 a1 a2 a3 a4 a5 a6 k, LeO (f k a0 a1 a2 a3 a4 a5 a6) (f (k + 1) a0 a1 a2 a3 a4 a5 a6)
  calls : ∀ (k : Nat) (a0_0 : Int) (A0_1 : Option Addr) (c0_1 : Nat) (l0_1 : List (S52)) (a0_2 : Int) (a0_3 : Int) (A0_4 : Option Addr) (c0_4 : Nat) (l0_4 : List (S25)) (A1 : Option Addr) (c1 : Nat) (l1 : List Int) (A2 : Option Addr) (c2 : Nat) (l2 : List Bool) (r : List Bool) (w : World) (hr0_1 : Kd.C k52 w A0_1 l0_1.length l0_1) (hc0_1 : l0_1.length ≤ c0_1) (hr0_4 : Kd.C k25 w A0_4 l0_4.length l0_4) (hc0_4 : l0_4.length ≤ c0_4) (hr1 : Kd.C (Kd.int .i64) w A1 l1.length l1) (hc1 : l1.length ≤ c1) (hr2 : Kd.C Kd.bool w A2 l2.length l2) (hc2 : l2.length ≤ c2) (h : f k a0_0 l0_1 a0_2 a0_3 l0_4 l1 l2 = some r), Calls Try.prog 21 #[.agg #[.int .i64 a0_0, .slice A0_1 l0_1.length c0_1, .int .i64 a0_2, .int .i64 a0_3, .slice A0_4 l0_4.length c0_4], .slice A1 l1.length c1, .slice A2 l2.length c2] w fun e w' => ∃ v0_ : Value, e = .returned (v0_) ∧ Kd.R Kd.bool 4 w' w.heap.size (fun _ => True) v0_ r ∧ Below w.heap.size w w'
variable (R : RefReach)
-- BY HAND: function 21 (ductusref18_reach)

mutual
def ductusref18_repeat.j1 : Nat → List Int → List Bool → Int → List (S52) → Int → Int → List (S25) → Option (List Bool)
  | 0, _, _, _, _, _, _, _ => none
  | k + 1, x1, x7, x214000, x214001, x214002, x214003, x214004 => if x214003 ≥ 0 then (ductusref18_repeat.j2 k x1 x7 (mn (wrap64 ((x1.length : Int) + 1)) (wrap64 (x214003 - (mx 0 x214002)))) x214000 x214001 x214002 x214003 x214004) else (ductusref18_repeat.j2 k x1 x7 (wrap64 ((x1.length : Int) + 1)) x214000 x214001 x214002 x214003 x214004)
def ductusref18_repeat.j2 : Nat → List Int → List Bool → Int → Int → List (S52) → Int → Int → List (S25) → Option (List Bool)
  | 0, _, _, _, _, _, _, _, _ => none
  | k + 1, x1, x7, x9, x214000, x214001, x214002, x214003, x214004 => ductusref18_repeat.l1 k x1 x7 x9 x7 0 x214000 x214001 x214002 x214003 x214004
def ductusref18_repeat.l1 : Nat → List Int → List Bool → Int → List Bool → Int → Int → List (S52) → Int → Int → List (S25) → Option (List Bool)
  | 0, _, _, _, _, _, _, _, _, _, _ => none
  | k + 1, x1, x7, x9, x10, x11, x214000, x214001, x214002, x214003, x214004 => if x11 < x9 then (if 0 < (x214004.length : Int) then ((R.f k ((rd_T25 x214004 0).f0) ((rd_T25 x214004 0).f1) ((rd_T25 x214004 0).f2) ((rd_T25 x214004 0).f3) ((rd_T25 x214004 0).f4) x1 x10).bind fun t225 => ((ductusref18_either.f k x7 t225).bind fun t228 => (ductusref18_repeat.l1 k x1 t228 x9 t225 (wrap64 (x11 + 1)) x214000 x214001 x214002 x214003 x214004))) else (none)) else (if x214003 ≥ 0 then (if x214003 < x214002 then ((ductusref18_places.f x1).bind fun t231 => (some t231)) else (some x7)) else (some x7))
def ductusref18_repeat.l0 : Nat → List Int → List Bool → Int → Int → List (S52) → Int → Int → List (S25) → Option (List Bool)
  | 0, _, _, _, _, _, _, _, _ => none
  | k + 1, x1, x7, x8, x214000, x214001, x214002, x214003, x214004 => if x8 < x214002 then (if x8 < 2000 then (if 0 < (x214004.length : Int) then ((R.f k ((rd_T25 x214004 0).f0) ((rd_T25 x214004 0).f1) ((rd_T25 x214004 0).f2) ((rd_T25 x214004 0).f3) ((rd_T25 x214004 0).f4) x1 x7).bind fun t221 => (ductusref18_repeat.l0 k x1 t221 (wrap64 (x8 + 1)) x214000 x214001 x214002 x214003 x214004)) else (none)) else (ductusref18_repeat.j1 k x1 x7 x214000 x214001 x214002 x214003 x214004)) else (ductusref18_repeat.j1 k x1 x7 x214000 x214001 x214002 x214003 x214004)
end
def ductusref18_repeat.f (k : Nat) (a0_0 : Int) (l0_1 : List (S52)) (a0_2 : Int) (a0_3 : Int) (l0_4 : List (S25)) (l1 : List Int) (l2 : List Bool) : Option (List Bool) := (some (([] : List Bool) : List Bool)).bind fun y214 => (if y214.length + l2.length < 140737488355328 then (ductusref18_repeat.l0 R k l1 (y214 ++ l2) 0 a0_0 l0_1 a0_2 a0_3 l0_4) else (none))
theorem ductusref18_repeat.mono_l : ∀ k, (∀ y0 y1 y2 y3 y4 y5 y6, LeO (ductusref18_repeat.j1 R k y0 y1 y2 y3 y4 y5 y6) (ductusref18_repeat.j1 R (k + 1) y0 y1 y2 y3 y4 y5 y6)) ∧ (∀ y0 y1 y2 y3 y4 y5 y6 y7, LeO (ductusref18_repeat.j2 R k y0 y1 y2 y3 y4 y5 y6 y7) (ductusref18_repeat.j2 R (k + 1) y0 y1 y2 y3 y4 y5 y6 y7)) ∧ (∀ y0 y1 y2 y3 y4 y5 y6 y7 y8 y9, LeO (ductusref18_repeat.l1 R k y0 y1 y2 y3 y4 y5 y6 y7 y8 y9) (ductusref18_repeat.l1 R (k + 1) y0 y1 y2 y3 y4 y5 y6 y7 y8 y9)) ∧ (∀ y0 y1 y2 y3 y4 y5 y6 y7, LeO (ductusref18_repeat.l0 R k y0 y1 y2 y3 y4 y5 y6 y7) (ductusref18_repeat.l0 R (k + 1) y0 y1 y2 y3 y4 y5 y6 y7))
  | 0 => ⟨fun _ _ _ _ _ _ _ r h => by simp [ductusref18_repeat.j1] at h, fun _ _ _ _ _ _ _ _ r h => by simp [ductusref18_repeat.j2] at h, fun _ _ _ _ _ _ _ _ _ _ r h => by simp [ductusref18_repeat.l1] at h, fun _ _ _ _ _ _ _ _ r h => by simp [ductusref18_repeat.l0] at h⟩
  | k + 1 => by
    obtain ⟨ih0, ih1, ih2, ih3⟩ := ductusref18_repeat.mono_l k
    refine ⟨?_, ?_, ?_, ?_⟩
    · intro y0 y1 y2 y3 y4 y5 y6
      unfold ductusref18_repeat.j1
      repeat' first
      | (with_reducible exact ih0 _ _ _ _ _ _ _)
      | (with_reducible exact ih1 _ _ _ _ _ _ _ _)
      | (with_reducible exact ih2 _ _ _ _ _ _ _ _ _ _)
      | (with_reducible exact ih3 _ _ _ _ _ _ _ _)
      | (with_reducible exact ductusref18_either.mono _ _ _)
      | (with_reducible exact R.mono _ _ _ _ _ _ _ _)
      | (with_reducible exact LeO.refl _)
      | (with_reducible exact LeO.none _)
      | (with_reducible refine LeO.ite ?_ ?_)
      | (with_reducible refine LeO.bind ?_ (fun _ => ?_))
      | exact ih0 _ _ _ _ _ _ _
      | exact ih1 _ _ _ _ _ _ _ _
      | exact ih2 _ _ _ _ _ _ _ _ _ _
      | exact ih3 _ _ _ _ _ _ _ _
      | exact ductusref18_either.mono _ _ _
      | exact R.mono _ _ _ _ _ _ _ _
      | exact LeO.none _
      | refine LeO.ite ?_ ?_
      | refine LeO.bind ?_ (fun _ => ?_)
    · intro y0 y1 y2 y3 y4 y5 y6 y7
      unfold ductusref18_repeat.j2
      repeat' first
      | (with_reducible exact ih0 _ _ _ _ _ _ _)
      | (with_reducible exact ih1 _ _ _ _ _ _ _ _)
      | (with_reducible exact ih2 _ _ _ _ _ _ _ _ _ _)
      | (with_reducible exact ih3 _ _ _ _ _ _ _ _)
      | (with_reducible exact ductusref18_either.mono _ _ _)
      | (with_reducible exact R.mono _ _ _ _ _ _ _ _)
      | (with_reducible exact LeO.refl _)
      | (with_reducible exact LeO.none _)
      | (with_reducible refine LeO.ite ?_ ?_)
      | (with_reducible refine LeO.bind ?_ (fun _ => ?_))
      | exact ih0 _ _ _ _ _ _ _
      | exact ih1 _ _ _ _ _ _ _ _
      | exact ih2 _ _ _ _ _ _ _ _ _ _
      | exact ih3 _ _ _ _ _ _ _ _
      | exact ductusref18_either.mono _ _ _
      | exact R.mono _ _ _ _ _ _ _ _
      | exact LeO.none _
      | refine LeO.ite ?_ ?_
      | refine LeO.bind ?_ (fun _ => ?_)
    · intro y0 y1 y2 y3 y4 y5 y6 y7 y8 y9
      unfold ductusref18_repeat.l1
      repeat' first
      | (with_reducible exact ih0 _ _ _ _ _ _ _)
      | (with_reducible exact ih1 _ _ _ _ _ _ _ _)
      | (with_reducible exact ih2 _ _ _ _ _ _ _ _ _ _)
      | (with_reducible exact ih3 _ _ _ _ _ _ _ _)
      | (with_reducible exact ductusref18_either.mono _ _ _)
      | (with_reducible exact R.mono _ _ _ _ _ _ _ _)
      | (with_reducible exact LeO.refl _)
      | (with_reducible exact LeO.none _)
      | (with_reducible refine LeO.ite ?_ ?_)
      | (with_reducible refine LeO.bind ?_ (fun _ => ?_))
      | exact ih0 _ _ _ _ _ _ _
      | exact ih1 _ _ _ _ _ _ _ _
      | exact ih2 _ _ _ _ _ _ _ _ _ _
      | exact ih3 _ _ _ _ _ _ _ _
      | exact ductusref18_either.mono _ _ _
      | exact R.mono _ _ _ _ _ _ _ _
      | exact LeO.none _
      | refine LeO.ite ?_ ?_
      | refine LeO.bind ?_ (fun _ => ?_)
    · intro y0 y1 y2 y3 y4 y5 y6 y7
      unfold ductusref18_repeat.l0
      repeat' first
      | (with_reducible exact ih0 _ _ _ _ _ _ _)
      | (with_reducible exact ih1 _ _ _ _ _ _ _ _)
      | (with_reducible exact ih2 _ _ _ _ _ _ _ _ _ _)
      | (with_reducible exact ih3 _ _ _ _ _ _ _ _)
      | (with_reducible exact ductusref18_either.mono _ _ _)
      | (with_reducible exact R.mono _ _ _ _ _ _ _ _)
      | (with_reducible exact LeO.refl _)
      | (with_reducible exact LeO.none _)
      | (with_reducible refine LeO.ite ?_ ?_)
      | (with_reducible refine LeO.bind ?_ (fun _ => ?_))
      | exact ih0 _ _ _ _ _ _ _
      | exact ih1 _ _ _ _ _ _ _ _
      | exact ih2 _ _ _ _ _ _ _ _ _ _
      | exact ih3 _ _ _ _ _ _ _ _
      | exact ductusref18_either.mono _ _ _
      | exact R.mono _ _ _ _ _ _ _ _
      | exact LeO.none _
      | refine LeO.ite ?_ ?_
      | refine LeO.bind ?_ (fun _ => ?_)
theorem ductusref18_repeat.mono2_l (R2 : RefReach) (hR : ∀ a0 a1 a2 a3 a4 a5 a6 k, LeO (R.f k a0 a1 a2 a3 a4 a5 a6) (R2.f (k + 1) a0 a1 a2 a3 a4 a5 a6)) : ∀ k, (∀ y0 y1 y2 y3 y4 y5 y6, LeO (ductusref18_repeat.j1 R k y0 y1 y2 y3 y4 y5 y6) (ductusref18_repeat.j1 R2 (k + 1) y0 y1 y2 y3 y4 y5 y6)) ∧ (∀ y0 y1 y2 y3 y4 y5 y6 y7, LeO (ductusref18_repeat.j2 R k y0 y1 y2 y3 y4 y5 y6 y7) (ductusref18_repeat.j2 R2 (k + 1) y0 y1 y2 y3 y4 y5 y6 y7)) ∧ (∀ y0 y1 y2 y3 y4 y5 y6 y7 y8 y9, LeO (ductusref18_repeat.l1 R k y0 y1 y2 y3 y4 y5 y6 y7 y8 y9) (ductusref18_repeat.l1 R2 (k + 1) y0 y1 y2 y3 y4 y5 y6 y7 y8 y9)) ∧ (∀ y0 y1 y2 y3 y4 y5 y6 y7, LeO (ductusref18_repeat.l0 R k y0 y1 y2 y3 y4 y5 y6 y7) (ductusref18_repeat.l0 R2 (k + 1) y0 y1 y2 y3 y4 y5 y6 y7))
  | 0 => ⟨fun _ _ _ _ _ _ _ r h => by simp [ductusref18_repeat.j1] at h, fun _ _ _ _ _ _ _ _ r h => by simp [ductusref18_repeat.j2] at h, fun _ _ _ _ _ _ _ _ _ _ r h => by simp [ductusref18_repeat.l1] at h, fun _ _ _ _ _ _ _ _ r h => by simp [ductusref18_repeat.l0] at h⟩
  | k + 1 => by
    obtain ⟨ih0, ih1, ih2, ih3⟩ := ductusref18_repeat.mono2_l R2 hR k
    refine ⟨?_, ?_, ?_, ?_⟩
    · intro y0 y1 y2 y3 y4 y5 y6
      unfold ductusref18_repeat.j1
      repeat' first
      | (with_reducible exact ih0 _ _ _ _ _ _ _)
      | (with_reducible exact ih1 _ _ _ _ _ _ _ _)
      | (with_reducible exact ih2 _ _ _ _ _ _ _ _ _ _)
      | (with_reducible exact ih3 _ _ _ _ _ _ _ _)
      | (with_reducible exact ductusref18_either.mono _ _ _)
      | (with_reducible exact hR _ _ _ _ _ _ _ _)
      | (with_reducible exact LeO.refl _)
      | (with_reducible exact LeO.none _)
      | (with_reducible refine LeO.ite ?_ ?_)
      | (with_reducible refine LeO.bind ?_ (fun _ => ?_))
      | exact ih0 _ _ _ _ _ _ _
      | exact ih1 _ _ _ _ _ _ _ _
      | exact ih2 _ _ _ _ _ _ _ _ _ _
      | exact ih3 _ _ _ _ _ _ _ _
      | exact ductusref18_either.mono _ _ _
      | exact hR _ _ _ _ _ _ _ _
      | exact LeO.none _
      | refine LeO.ite ?_ ?_
      | refine LeO.bind ?_ (fun _ => ?_)
    · intro y0 y1 y2 y3 y4 y5 y6 y7
      unfold ductusref18_repeat.j2
      repeat' first
      | (with_reducible exact ih0 _ _ _ _ _ _ _)
      | (with_reducible exact ih1 _ _ _ _ _ _ _ _)
      | (with_reducible exact ih2 _ _ _ _ _ _ _ _ _ _)
      | (with_reducible exact ih3 _ _ _ _ _ _ _ _)
      | (with_reducible exact ductusref18_either.mono _ _ _)
      | (with_reducible exact hR _ _ _ _ _ _ _ _)
      | (with_reducible exact LeO.refl _)
      | (with_reducible exact LeO.none _)
      | (with_reducible refine LeO.ite ?_ ?_)
      | (with_reducible refine LeO.bind ?_ (fun _ => ?_))
      | exact ih0 _ _ _ _ _ _ _
      | exact ih1 _ _ _ _ _ _ _ _
      | exact ih2 _ _ _ _ _ _ _ _ _ _
      | exact ih3 _ _ _ _ _ _ _ _
      | exact ductusref18_either.mono _ _ _
      | exact hR _ _ _ _ _ _ _ _
      | exact LeO.none _
      | refine LeO.ite ?_ ?_
      | refine LeO.bind ?_ (fun _ => ?_)
    · intro y0 y1 y2 y3 y4 y5 y6 y7 y8 y9
      unfold ductusref18_repeat.l1
      repeat' first
      | (with_reducible exact ih0 _ _ _ _ _ _ _)
      | (with_reducible exact ih1 _ _ _ _ _ _ _ _)
      | (with_reducible exact ih2 _ _ _ _ _ _ _ _ _ _)
      | (with_reducible exact ih3 _ _ _ _ _ _ _ _)
      | (with_reducible exact ductusref18_either.mono _ _ _)
      | (with_reducible exact hR _ _ _ _ _ _ _ _)
      | (with_reducible exact LeO.refl _)
      | (with_reducible exact LeO.none _)
      | (with_reducible refine LeO.ite ?_ ?_)
      | (with_reducible refine LeO.bind ?_ (fun _ => ?_))
      | exact ih0 _ _ _ _ _ _ _
      | exact ih1 _ _ _ _ _ _ _ _
      | exact ih2 _ _ _ _ _ _ _ _ _ _
      | exact ih3 _ _ _ _ _ _ _ _
      | exact ductusref18_either.mono _ _ _
      | exact hR _ _ _ _ _ _ _ _
      | exact LeO.none _
      | refine LeO.ite ?_ ?_
      | refine LeO.bind ?_ (fun _ => ?_)
    · intro y0 y1 y2 y3 y4 y5 y6 y7
      unfold ductusref18_repeat.l0
      repeat' first
      | (with_reducible exact ih0 _ _ _ _ _ _ _)
      | (with_reducible exact ih1 _ _ _ _ _ _ _ _)
      | (with_reducible exact ih2 _ _ _ _ _ _ _ _ _ _)
      | (with_reducible exact ih3 _ _ _ _ _ _ _ _)
      | (with_reducible exact ductusref18_either.mono _ _ _)
      | (with_reducible exact hR _ _ _ _ _ _ _ _)
      | (with_reducible exact LeO.refl _)
      | (with_reducible exact LeO.none _)
      | (with_reducible refine LeO.ite ?_ ?_)
      | (with_reducible refine LeO.bind ?_ (fun _ => ?_))
      | exact ih0 _ _ _ _ _ _ _
      | exact ih1 _ _ _ _ _ _ _ _
      | exact ih2 _ _ _ _ _ _ _ _ _ _
      | exact ih3 _ _ _ _ _ _ _ _
      | exact ductusref18_either.mono _ _ _
      | exact hR _ _ _ _ _ _ _ _
      | exact LeO.none _
      | refine LeO.ite ?_ ?_
      | refine LeO.bind ?_ (fun _ => ?_)
theorem ductusref18_repeat.mono2 (R2 : RefReach) (hR : ∀ a0 a1 a2 a3 a4 a5 a6 k, LeO (R.f k a0 a1 a2 a3 a4 a5 a6) (R2.f (k + 1) a0 a1 a2 a3 a4 a5 a6)) : ∀ a0 a1 a2 a3 a4 a5 a6 k, LeO (ductusref18_repeat.f R k a0 a1 a2 a3 a4 a5 a6) (ductusref18_repeat.f R2 (k + 1) a0 a1 a2 a3 a4 a5 a6) := by
  intro a0 a1 a2 a3 a4 a5 a6 k
  obtain ⟨ih0, ih1, ih2, ih3⟩ := ductusref18_repeat.mono2_l R R2 hR k
  unfold ductusref18_repeat.f
  repeat' first
      | (with_reducible exact ih0 _ _ _ _ _ _ _)
      | (with_reducible exact ih1 _ _ _ _ _ _ _ _)
      | (with_reducible exact ih2 _ _ _ _ _ _ _ _ _ _)
      | (with_reducible exact ih3 _ _ _ _ _ _ _ _)
      | (with_reducible exact ductusref18_either.mono _ _ _)
      | (with_reducible exact hR _ _ _ _ _ _ _ _)
      | (with_reducible exact LeO.refl _)
      | (with_reducible exact LeO.none _)
      | (with_reducible refine LeO.ite ?_ ?_)
      | (with_reducible refine LeO.bind ?_ (fun _ => ?_))
      | exact ih0 _ _ _ _ _ _ _
      | exact ih1 _ _ _ _ _ _ _ _
      | exact ih2 _ _ _ _ _ _ _ _ _ _
      | exact ih3 _ _ _ _ _ _ _ _
      | exact ductusref18_either.mono _ _ _
      | exact hR _ _ _ _ _ _ _ _
      | exact LeO.none _
      | refine LeO.ite ?_ ?_
      | refine LeO.bind ?_ (fun _ => ?_)
set_option maxHeartbeats 8000000 in
set_option maxRecDepth 100000 in
theorem ductusref18_repeat.calls (k : Nat) (a0_0 : Int) (A0_1 : Option Addr) (c0_1 : Nat) (l0_1 : List (S52)) (a0_2 : Int) (a0_3 : Int) (A0_4 : Option Addr) (c0_4 : Nat) (l0_4 : List (S25)) (A1 : Option Addr) (c1 : Nat) (l1 : List Int) (A2 : Option Addr) (c2 : Nat) (l2 : List Bool) (r : List Bool) (w : World) (hr0_1 : Kd.C k52 w A0_1 l0_1.length l0_1) (hc0_1 : l0_1.length ≤ c0_1) (hr0_4 : Kd.C k25 w A0_4 l0_4.length l0_4) (hc0_4 : l0_4.length ≤ c0_4) (hr1 : Kd.C (Kd.int .i64) w A1 l1.length l1) (hc1 : l1.length ≤ c1) (hr2 : Kd.C Kd.bool w A2 l2.length l2) (hc2 : l2.length ≤ c2) (h : ductusref18_repeat.f R k a0_0 l0_1 a0_2 a0_3 l0_4 l1 l2 = some r) :
    Calls Try.prog 32 #[.agg #[.int .i64 a0_0, .slice A0_1 l0_1.length c0_1, .int .i64 a0_2, .int .i64 a0_3, .slice A0_4 l0_4.length c0_4], .slice A1 l1.length c1, .slice A2 l2.length c2] w fun e w' => ∃ v0_ : Value, e = .returned (v0_) ∧ Kd.R Kd.bool 4 w' w.heap.size (fun _ => True) v0_ r ∧ Below w.heap.size w w' := by
  have hu25 := Try.underlying25
  have HR0_1 := Aside0.mk hr0_1
  have HC0_1 := Aside0.mk hc0_1
  clear hr0_1 hc0_1
  have HR0_4 := Aside0.mk hr0_4
  have HC0_4 := Aside0.mk hc0_4
  clear hr0_4 hc0_4
  have HR1 := Aside0.mk hr1
  have HC1 := Aside0.mk hc1
  clear hr1 hc1
  have HR2 := Aside0.mk hr2
  have HC2 := Aside0.mk hc2
  clear hr2 hc2
  have HB := Aside0.mk (Below.refl w.heap.size w)
  have H : ((some (([] : List Bool) : List Bool)).bind fun y214 => (if y214.length + l2.length < 140737488355328 then (ductusref18_repeat.l0 R k l1 (y214 ++ l2) 0 a0_0 l0_1 a0_2 a0_3 l0_4) else (none))) = some r := h
  clear h
  obtain ⟨y214, hy214⟩ : ∃ y_ : List Bool, y_ = (([] : List Bool)) := ⟨_, rfl⟩
  replace H : (if y214.length + l2.length < 140737488355328 then (ductusref18_repeat.l0 R k l1 (y214 ++ l2) 0 a0_0 l0_1 a0_2 a0_3 l0_4) else (none)) = some r := by first | (rw [hy214]; with_reducible exact H) | (have H2_ := (Option.bind_some _ _).symm.trans H; rw [hy214]; with_reducible exact H2_) | (have H2_ := (Option.bind_some _ _).symm.trans H; with_reducible exact H2_) | with_reducible exact H | (rw [hy214]; exact H) | exact H
  have Ny214 := Aside0.mk hy214
  clear hy214
  by_cases c4 : y214.length + l2.length < 140737488355328
  rotate_left
  · rw [if_neg c4] at H
    exact absurd H (by simp)
  rw [if_pos c4] at H
  have LMc4 := Aside0.mk c4
  clear c4
  obtain ⟨y217, hy217⟩ : ∃ y_ : List Bool, y_ = (y214 ++ l2) := ⟨_, rfl⟩
  replace H : (ductusref18_repeat.l0 R k l1 y217 0 a0_0 l0_1 a0_2 a0_3 l0_4) = some r := by first | (rw [hy217]; with_reducible exact H) | (have H2_ := (Option.bind_some _ _).symm.trans H; rw [hy217]; with_reducible exact H2_) | (have H2_ := (Option.bind_some _ _).symm.trans H; with_reducible exact H2_) | with_reducible exact H | (rw [hy217]; exact H) | exact H
  have Ny217 := Aside0.mk hy217
  clear hy217
  have HC5 := Aside0.mk H
  clear H
  go_enter Try.func32, Try.ntmps32
  go_upto_block 0 with (first | ((with_reducible refine gate_dst (N := 3) rfl ?_); refine box_event ?hg (N := 3) ?hd (cs := #[.int .i64 a0_0, .slice A0_1 l0_1.length c0_1, .int .i64 a0_2, .int .i64 a0_3, .slice A0_4 l0_4.length c0_4]) (t := 25) ?hr ?_; (case hd => rfl); (case hg => rfl); (case hr => first | (go_simp; done) | (go_simp; rfl)); intro gb213 hg w6 hbox hb; have n0_ := Aside0.mk (below_step (by repeat (first | (with_reducible first | exact HB.out | apply below_alloc | apply pw_below_drewN | apply below_drew1) | exact HB.out)) hb); have n1_ := Aside0.mk (hbox); have n2_ := Aside0.mk ((by rw [hg]; exact (below_size (by repeat (first | (with_reducible first | exact HB.out | apply below_alloc | apply pw_below_drewN | apply below_drew1) | exact HB.out))) : w.heap.size ≤ gb213)); have n3_ := Aside0.mk ((by rw [hg]; exact (below_size (by repeat (first | (with_reducible first | exact HB.out | apply below_alloc | apply pw_below_drewN | apply below_drew1) | exact HB.out))) : w.heap.size ≤ gb213)); clear HB; have HB := n0_; have BK213 := n1_; have GW213 := n2_; have GE213 := n3_; clear n0_ n1_ n2_ n3_; clear hb hbox hg) | ((with_reducible refine gate_dst (N := 12) rfl ?_); refine Kd.R_lit Kd.bool _ 4 ?hg (N := 12) ?hd (xs := ([] : List Bool)) (inner := []) (ok := fun _ => True) (okp := fun _ => True) ?hr ?hp (fun _ hk => hk) trivial (Below.refl _ _) (Nat.le_refl _) (by simp) ?_; (case hd => rfl); (case hg => rfl); (case hr => first | (go_simp; done) | (go_simp; rfl)); (case hp => exact (Reps.none _ _)); intro v215 w7 ho8 hb hg_ hnew_; clear hg_ hnew_; (first | rw [← Ny214.out] at ho8 | (simp only [Int.reduceToNat] at ho8; rw [← Ny214.out] at ho8)); have n0_ := Aside0.mk (Kd.R_lower ho8 (below_size (by repeat (first | (with_reducible first | exact HB.out | apply below_alloc | apply pw_below_drewN | apply below_drew1 | refine below_set ?_ GE213.out) | exact HB.out)))); have n1_ := Aside0.mk (blk_below (g := gb213) (o := .cells #[.int .i64 a0_0, .slice A0_1 l0_1.length c0_1, .int .i64 a0_2, .int .i64 a0_3, .slice A0_4 l0_4.length c0_4] 25 (0, 0)) (by (with_reducible repeat (first | refine blk_drewN ?_ _ | refine blk_drew ?_ | refine blk_alloc ?_ _)); exact BK213.out) hb); have n2_ := Aside0.mk (below_step (by repeat (first | (with_reducible first | exact HB.out | apply below_alloc | apply pw_below_drewN | apply below_drew1 | refine below_set ?_ GE213.out) | exact HB.out)) hb); clear BK213; clear HB; have HO216 := n0_; have BK213 := n1_; have HB := n2_; clear n0_ n1_ n2_; clear hb ho8) | ((with_reducible refine gate_builtin (b := .append) (xs := #[.tmp 12, .tmp 13]) rfl ?_); at_builtin; refine Kd.R_append_rows Kd.bool (w0 := w) w.heap.size rfl (.tmp 12) (.tmp 13) 36 4 (.bool false) 1 rfl Try.underlying36 info4 rfl (by decide) (by omega) v215 y214 l2 _ _ _ (fun _ => True) (fun _ => False) rfl rfl ?aO ?aR (fun _ _ h => h) (fun _ h => h.elim) ?aF ?aB ?aS ?aL ?_; (case aR => repeat (first | exact (Kd.C_below HR2.out HB.out) | (with_reducible refine Kd.C_alloc ?_ _) | (with_reducible refine Kd.C_drewN ?_ _) | (with_reducible refine Kd.C_drew ?_))); (case aB => exact (by repeat (first | (with_reducible first | exact HB.out | apply below_alloc | apply pw_below_drewN | apply below_drew1 | refine below_set ?_ GE213.out) | exact HB.out))); (case aF => exact (fun _ _ => trivial)); (case aO => exact (by (with_reducible repeat (first | apply Kd.R_alloc | apply Kd.R_drewN | apply Kd.R_drew)); exact HO216.out)); (case aS => exact (below_size (by repeat (first | (with_reducible first | exact HB.out | apply below_alloc | apply pw_below_drewN | apply below_drew1 | refine below_set ?_ GE213.out) | exact HB.out)))); (case aL => have := LMc4.out; omega); intro v218 w9 ho hb hg hat; rw [← Ny217.out] at ho; have n0_ := Aside0.mk (blk_grown (g := gb213) (o := .cells #[.int .i64 a0_0, .slice A0_1 l0_1.length c0_1, .int .i64 a0_2, .int .i64 a0_3, .slice A0_4 l0_4.length c0_4] 25 (0, 0)) (by (with_reducible repeat (first | refine blk_drewN ?_ _ | refine blk_drew ?_ | refine blk_alloc ?_ _)); exact BK213.out) hg (Kd.R_ne HO216.out BK213.out (by decide))); have n1_ := Aside0.mk (hb); have n2_ := Aside0.mk (ho); clear BK213; clear HB; clear HO216; have BK213 := n0_; have HB := n1_; have HO219 := n2_; clear n0_ n1_ n2_; clear ho hb hg hat))
  (try simp only [Act.put, List.setIfInBounds_toArray, List.set_cons_zero, List.set_cons_succ])
  go_cut [7] (fun v7 wc => ∃ (kq : Nat) (x7_4 : List Bool), Aside0 (ductusref18_repeat.j1 R kq l1 x7_4 a0_0 l0_1 a0_2 a0_3 l0_4 = some r) ∧ Aside0 (kq ≤ k) ∧ Aside0 (Kd.R Kd.bool 4 wc w.heap.size (fun _ => True) v7 x7_4) ∧ Aside0 (wc.heap[gb213]? = some (.cells #[.int .i64 a0_0, (.slice A0_1 l0_1.length c0_1), .int .i64 a0_2, .int .i64 a0_3, (.slice A0_4 l0_4.length c0_4)] 25 (0, 0))) ∧ Aside0 (Below w.heap.size w wc))
  case first =>
    have H := HC5.out
    clear HC5
    have H' := Aside0.mk H
    clear H
    go_wp2
    go_loopg [7, 8] k (fun kq v7 v8 w' => ∃ (x7_1 : List Bool) (x8_1 : Int), v8 = .int .i64 x8_1 ∧ Aside0 (ductusref18_repeat.l0 R kq l1 x7_1 x8_1 a0_0 l0_1 a0_2 a0_3 l0_4 = some r) ∧ Aside0 (kq ≤ k) ∧ Aside0 (Kd.R Kd.bool 4 w' w.heap.size (fun _ => True) v7 x7_1) ∧ Aside0 (w'.heap[gb213]? = some (.cells #[.int .i64 a0_0, (.slice A0_1 l0_1.length c0_1), .int .i64 a0_2, .int .i64 a0_3, (.slice A0_4 l0_4.length c0_4)] 25 (0, 0))) ∧ Aside0 (Below w.heap.size w w'))
    case atStart => exact ⟨(y217), (0), (by first | rfl | (simp; done) | (simp [*]; done)), H', ⟨Nat.le_refl _⟩, ⟨by (with_reducible repeat (first | apply Kd.R_alloc | apply Kd.R_drewN | apply Kd.R_drew)); exact HO219.out⟩, ⟨by (with_reducible repeat (first | refine blk_drewN ?_ _ | refine blk_drew ?_ | refine blk_alloc ?_ _)); exact BK213.out⟩, ⟨by repeat (first | (with_reducible first | exact HB.out | apply below_alloc | apply pw_below_drewN | apply below_drew1 | refine below_set ?_ GE213.out) | exact HB.out)⟩⟩
    case round =>
      clear H'
      try clear c1
      try clear c2
      try clear p2
      try clear c3
      try clear c4
      obtain ⟨x7_1, x8_1, rfl, HA, HK1, HO_7, BK213, HB⟩ := hrel
      cases gk with
      | zero => exact absurd HA.out (by simp [ductusref18_repeat.l0])
      | succ k1 =>
        have H := HA.out
        clear HA
        simp only [ductusref18_repeat.l0] at H
        by_cases c10 : x8_1 < a0_2
        rotate_left
        · rw [if_neg c10] at H
          have c10b0 : decide (x8_1 < a0_2) = false := decide_eq_false c10
          clear c10
          (first | rw [c10b0] | (simp only [i64_w, i32_w]; rw [c10b0]) | skip)
          have H' := Aside0.mk H
          clear H
          have hcz18_0 : wr.cell? ⟨gb213, 0, none⟩ = some (.int .i64 a0_0) := (blk_cell BK213.out 0).trans rfl
          have hcz18_1 : wr.cell? ⟨gb213, 1, none⟩ = some (.slice A0_1 l0_1.length c0_1) := (blk_cell BK213.out 1).trans rfl
          have hcz18_2 : wr.cell? ⟨gb213, 2, none⟩ = some (.int .i64 a0_2) := (blk_cell BK213.out 2).trans rfl
          have hcz18_3 : wr.cell? ⟨gb213, 3, none⟩ = some (.int .i64 a0_3) := (blk_cell BK213.out 3).trans rfl
          have hcz18_4 : wr.cell? ⟨gb213, 4, none⟩ = some (.slice A0_4 l0_4.length c0_4) := (blk_cell BK213.out 4).trans rfl
          have hfz18_0 := blk_frozen BK213.out 0
          have hfz18_1 := blk_frozen BK213.out 1
          have hfz18_2 := blk_frozen BK213.out 2
          have hfz18_3 := blk_frozen BK213.out 3
          have hfz18_4 := blk_frozen BK213.out 4
          go_wp2
          go_meet
          case rel => exact ⟨_, (x7_1), H', ⟨by have := HK1.out; first | omega | exact Nat.le_refl _⟩, ⟨by (with_reducible repeat (first | apply Kd.R_alloc | apply Kd.R_drewN | apply Kd.R_drew)); exact HO_7.out⟩, ⟨by (with_reducible repeat (first | refine blk_drewN ?_ _ | refine blk_drew ?_ | refine blk_alloc ?_ _)); exact BK213.out⟩, ⟨by repeat (first | (with_reducible first | exact HB.out | apply below_alloc | apply pw_below_drewN | apply below_drew1 | refine below_set ?_ GE213.out) | exact HB.out)⟩⟩
        rw [if_pos c10] at H
        have c10b0 : decide (x8_1 < a0_2) = true := decide_eq_true c10
        clear c10
        (first | rw [c10b0] | (simp only [i64_w, i32_w]; rw [c10b0]) | skip)
        by_cases c11 : x8_1 < 2000
        rotate_left
        · rw [if_neg c11] at H
          have c11b0 : decide (x8_1 < 2000) = false := decide_eq_false c11
          clear c11
          have H' := Aside0.mk H
          clear H
          have hcz17_0 : wr.cell? ⟨gb213, 0, none⟩ = some (.int .i64 a0_0) := (blk_cell BK213.out 0).trans rfl
          have hcz17_1 : wr.cell? ⟨gb213, 1, none⟩ = some (.slice A0_1 l0_1.length c0_1) := (blk_cell BK213.out 1).trans rfl
          have hcz17_2 : wr.cell? ⟨gb213, 2, none⟩ = some (.int .i64 a0_2) := (blk_cell BK213.out 2).trans rfl
          have hcz17_3 : wr.cell? ⟨gb213, 3, none⟩ = some (.int .i64 a0_3) := (blk_cell BK213.out 3).trans rfl
          have hcz17_4 : wr.cell? ⟨gb213, 4, none⟩ = some (.slice A0_4 l0_4.length c0_4) := (blk_cell BK213.out 4).trans rfl
          have hfz17_0 := blk_frozen BK213.out 0
          have hfz17_1 := blk_frozen BK213.out 1
          have hfz17_2 := blk_frozen BK213.out 2
          have hfz17_3 := blk_frozen BK213.out 3
          have hfz17_4 := blk_frozen BK213.out 4
          go_wp2
          go_meet
          case rel => exact ⟨_, (x7_1), H', ⟨by have := HK1.out; first | omega | exact Nat.le_refl _⟩, ⟨by (with_reducible repeat (first | apply Kd.R_alloc | apply Kd.R_drewN | apply Kd.R_drew)); exact HO_7.out⟩, ⟨by (with_reducible repeat (first | refine blk_drewN ?_ _ | refine blk_drew ?_ | refine blk_alloc ?_ _)); exact BK213.out⟩, ⟨by repeat (first | (with_reducible first | exact HB.out | apply below_alloc | apply pw_below_drewN | apply below_drew1 | refine below_set ?_ GE213.out) | exact HB.out)⟩⟩
        rw [if_pos c11] at H
        have c11b0 : decide (x8_1 < 2000) = true := decide_eq_true c11
        clear c11
        by_cases c12 : 0 < (l0_4.length : Int)
        rotate_left
        · rw [if_neg c12] at H
          exact absurd H (by simp)
        rw [if_pos c12] at H
        have c12b0 : decide (0 < (l0_4.length : Int)) = true := decide_eq_true c12
        have c12b1 : decide (0 < l0_4.length) = true := decide_eq_true (by omega)
        clear c12
        replace H := Option.bind_eq_some_iff.mp H
        obtain ⟨t221, A130, H⟩ := H
        replace H : (ductusref18_repeat.l0 R k1 l1 t221 (wrap64 (x8_1 + 1)) a0_0 l0_1 a0_2 a0_3 l0_4) = some r := H
        have A13 := Aside0.mk A130
        clear A130
        have H' := Aside0.mk H
        clear H
        have hcz14_0 : wr.cell? ⟨gb213, 0, none⟩ = some (.int .i64 a0_0) := (blk_cell BK213.out 0).trans rfl
        have hcz14_1 : wr.cell? ⟨gb213, 1, none⟩ = some (.slice A0_1 l0_1.length c0_1) := (blk_cell BK213.out 1).trans rfl
        have hcz14_2 : wr.cell? ⟨gb213, 2, none⟩ = some (.int .i64 a0_2) := (blk_cell BK213.out 2).trans rfl
        have hcz14_3 : wr.cell? ⟨gb213, 3, none⟩ = some (.int .i64 a0_3) := (blk_cell BK213.out 3).trans rfl
        have hcz14_4 : wr.cell? ⟨gb213, 4, none⟩ = some (.slice A0_4 l0_4.length c0_4) := (blk_cell BK213.out 4).trans rfl
        have hfz14_0 := blk_frozen BK213.out 0
        have hfz14_1 := blk_frozen BK213.out 1
        have hfz14_2 := blk_frozen BK213.out 2
        have hfz14_3 := blk_frozen BK213.out 3
        have hfz14_4 := blk_frozen BK213.out 4
        have p220 : 0 ≤ (0 : Int) := (by omega)
        have q220 : 0 < (l0_4.length : Int) := of_decide_eq_true (by first | (with_reducible assumption) | assumption)
        obtain ⟨ad220, A220_1, c220_1, A220_4, c220_4, e220, hx220_0, hx220_1, hx220_2, hx220_3, hx220_4, hl220_1, hi220_1, hl220_4, hi220_4⟩ := at_T25 HR0_4.out 0 p220 q220
        cases e220
        have qi220 : (0 < l0_4.length) = True := eq_true (by omega)
        (try rw [show ((0 : Int)).toNat = 0 from rfl] at hx220_0)
        (try rw [show 0 * 5 = 0 from rfl] at hx220_0)
        (try rw [Addr.add_zero'] at hx220_0)
        (try rw [show ((0 : Int)).toNat = 0 from rfl] at hx220_1)
        (try rw [show 0 * 5 = 0 from rfl] at hx220_1)
        (try rw [Addr.add_zero'] at hx220_1)
        (try rw [show ((0 : Int)).toNat = 0 from rfl] at hx220_2)
        (try rw [show 0 * 5 = 0 from rfl] at hx220_2)
        (try rw [Addr.add_zero'] at hx220_2)
        (try rw [show ((0 : Int)).toNat = 0 from rfl] at hx220_3)
        (try rw [show 0 * 5 = 0 from rfl] at hx220_3)
        (try rw [Addr.add_zero'] at hx220_3)
        (try rw [show ((0 : Int)).toNat = 0 from rfl] at hx220_4)
        (try rw [show 0 * 5 = 0 from rfl] at hx220_4)
        (try rw [Addr.add_zero'] at hx220_4)
        replace hx220_0 := (HB.out.cell (World.block_lt_of_cell? w _ hx220_0)).trans hx220_0
        replace hx220_1 := (HB.out.cell (World.block_lt_of_cell? w _ hx220_1)).trans hx220_1
        replace hx220_2 := (HB.out.cell (World.block_lt_of_cell? w _ hx220_2)).trans hx220_2
        replace hx220_3 := (HB.out.cell (World.block_lt_of_cell? w _ hx220_3)).trans hx220_3
        replace hx220_4 := (HB.out.cell (World.block_lt_of_cell? w _ hx220_4)).trans hx220_4
        have HR220_1 := Aside0.mk hi220_1
        have HC220_1 := Aside0.mk hl220_1
        clear hi220_1 hl220_1
        have HR220_4 := Aside0.mk hi220_4
        have HC220_4 := Aside0.mk hl220_4
        clear hi220_4 hl220_4
        replace p220 := eq_true p220
        replace q220 := eq_true q220
        obtain ⟨Ao15, co15, eo15⟩ := Kd.R_slice HO_7.out
        subst eo15
        go_wp2_with (first | ((with_reducible refine gate_callee (f := 21) rfl ?_); refine goesL_ (some 31) rfl rfl Try.func21 (by kernel_rfl) rfl #[.agg #[.int .i64 ((rd_T25 l0_4 0).f0), .slice A220_1 ((rd_T25 l0_4 0).f1).length c220_1, .int .i64 ((rd_T25 l0_4 0).f2), .int .i64 ((rd_T25 l0_4 0).f3), .slice A220_4 ((rd_T25 l0_4 0).f4).length c220_4], .slice A1 l1.length c1, .slice Ao15 x7_1.length co15] rfl (by (try simp only [List.map_toArray, List.map_cons, List.map_nil]); first | done | rfl | (simp only [List.length_drop, List.length_take]; rfl)) ?_; (with_reducible refine (R.calls k1 ((rd_T25 l0_4 0).f0) _ _ ((rd_T25 l0_4 0).f1) ((rd_T25 l0_4 0).f2) ((rd_T25 l0_4 0).f3) _ _ ((rd_T25 l0_4 0).f4) _ _ l1 _ _ x7_1 t221 _ ?side1 ?side2 ?side3 ?side4 ?side5 ?side6 ?side7 ?side8 A13.out).mono ?_); (case side1 => repeat (first | exact (Kd.C_below HR220_1.out HB.out) | (with_reducible refine Kd.C_alloc ?_ _) | (with_reducible refine Kd.C_drewN ?_ _) | (with_reducible refine Kd.C_drew ?_))); (case side2 => exact HC220_1.out); (case side3 => repeat (first | exact (Kd.C_below HR220_4.out HB.out) | (with_reducible refine Kd.C_alloc ?_ _) | (with_reducible refine Kd.C_drewN ?_ _) | (with_reducible refine Kd.C_drew ?_))); (case side4 => exact HC220_4.out); (case side5 => repeat (first | exact (Kd.C_below HR1.out HB.out) | (with_reducible refine Kd.C_alloc ?_ _) | (with_reducible refine Kd.C_drewN ?_ _) | (with_reducible refine Kd.C_drew ?_))); (case side6 => exact HC1.out); (case side7 => repeat (first | exact (Kd.R_reads' HO_7.out).2.2 | (with_reducible refine Kd.C_alloc ?_ _) | (with_reducible refine Kd.C_drewN ?_ _) | (with_reducible refine Kd.C_drew ?_))); (case side8 => exact (Kd.R_reads' HO_7.out).2.1); rintro e w16 ⟨v222, rfl, ho0, hb⟩; refine ⟨_, rfl, ?_⟩; have n0_ := Aside0.mk (Kd.R_elder' (by (with_reducible repeat (first | apply Kd.R_alloc | apply Kd.R_drewN | apply Kd.R_drew)); exact HO_7.out) (Kd.R_base ho0) hb); have n1_ := Aside0.mk (Kd.R_lower (Kd.R_new' ho0 (Kd.R_lt (by (with_reducible repeat (first | apply Kd.R_alloc | apply Kd.R_drewN | apply Kd.R_drew)); exact HO_7.out))) (below_size (by repeat (first | (with_reducible first | exact HB.out | apply below_alloc | apply pw_below_drewN | apply below_drew1 | refine below_set ?_ GE213.out) | exact HB.out)))); have n2_ := Aside0.mk (blk_below (g := gb213) (o := .cells #[.int .i64 a0_0, .slice A0_1 l0_1.length c0_1, .int .i64 a0_2, .int .i64 a0_3, .slice (some ad220) l0_4.length c0_4] 25 (0, 0)) (by (with_reducible repeat (first | refine blk_drewN ?_ _ | refine blk_drew ?_ | refine blk_alloc ?_ _)); exact BK213.out) hb); have n3_ := Aside0.mk (below_step (by repeat (first | (with_reducible first | exact HB.out | apply below_alloc | apply pw_below_drewN | apply below_drew1 | refine below_set ?_ GE213.out) | exact HB.out)) hb); clear HO_7; clear BK213; clear HB; have HO_7 := n0_; have HO223 := n1_; have BK213 := n2_; have HB := n3_; clear n0_ n1_ n2_ n3_; (try clear hb); (try clear hb2); (try clear hk); (try clear hi); (try clear ho0)))
        go_roundg k1
        case measure => have := HK1.out; omega
        case rel => exact ⟨(t221), (wrap64 (x8_1 + 1)), (by first | rfl | (simp; done) | (simp [*]; done)), H', ⟨by have := HK1.out; omega⟩, ⟨by (with_reducible repeat (first | apply Kd.R_alloc | apply Kd.R_drewN | apply Kd.R_drew)); exact Kd.R_mono HO223.out (fun _ hk => trivial)⟩, ⟨by (with_reducible repeat (first | refine blk_drewN ?_ _ | refine blk_drew ?_ | refine blk_alloc ?_ _)); exact BK213.out⟩, ⟨by repeat (first | (with_reducible first | exact HB.out | apply below_alloc | apply pw_below_drewN | apply below_drew1 | refine below_set ?_ GE213.out) | exact HB.out)⟩⟩
  case rest =>
    clear HC5
    try clear c1
    try clear c2
    try clear p2
    try clear q2
    try clear hx2
    try clear qi2
    try clear c3
    try clear c4
    try clear p6
    try clear c10
    try clear c10b0
    try clear c11
    try clear c11b0
    try clear c12
    try clear c12b0
    try clear c12b1
    try clear hcz14_0
    try clear hcz14_1
    try clear hcz14_2
    try clear hcz14_3
    try clear hcz14_4
    try clear hcz17_0
    try clear hcz17_1
    try clear hcz17_2
    try clear hcz17_3
    try clear hcz17_4
    try clear hcz18_0
    try clear hcz18_1
    try clear hcz18_2
    try clear hcz18_3
    try clear hcz18_4
    try clear hfz14_0
    try clear hfz14_1
    try clear hfz14_2
    try clear hfz14_3
    try clear hfz14_4
    try clear hfz17_0
    try clear hfz17_1
    try clear hfz17_2
    try clear hfz17_3
    try clear hfz17_4
    try clear hfz18_0
    try clear hfz18_1
    try clear hfz18_2
    try clear hfz18_3
    try clear hfz18_4
    try clear hx220_0
    try clear hx220_1
    try clear hx220_2
    try clear hx220_3
    try clear hx220_4
    try clear p2
    try clear p220
    try clear q220
    obtain ⟨kq, x7_4, HA, HJ4, HO_7, BK213, HB⟩ := hcut
    cases kq with
    | zero => exact absurd HA.out (by simp [ductusref18_repeat.j1])
    | succ kj4 =>
      have H := HA.out
      clear HA
      simp only [ductusref18_repeat.j1] at H
      have HC19 := Aside0.mk H
      clear H
      have hcz20_0 : wc.cell? ⟨gb213, 0, none⟩ = some (.int .i64 a0_0) := (blk_cell BK213.out 0).trans rfl
      have hcz20_1 : wc.cell? ⟨gb213, 1, none⟩ = some (.slice A0_1 l0_1.length c0_1) := (blk_cell BK213.out 1).trans rfl
      have hcz20_2 : wc.cell? ⟨gb213, 2, none⟩ = some (.int .i64 a0_2) := (blk_cell BK213.out 2).trans rfl
      have hcz20_3 : wc.cell? ⟨gb213, 3, none⟩ = some (.int .i64 a0_3) := (blk_cell BK213.out 3).trans rfl
      have hcz20_4 : wc.cell? ⟨gb213, 4, none⟩ = some (.slice A0_4 l0_4.length c0_4) := (blk_cell BK213.out 4).trans rfl
      have hfz20_0 := blk_frozen BK213.out 0
      have hfz20_1 := blk_frozen BK213.out 1
      have hfz20_2 := blk_frozen BK213.out 2
      have hfz20_3 := blk_frozen BK213.out 3
      have hfz20_4 := blk_frozen BK213.out 4
      go_upto_if 37 with (fail)
      go_cut [9] (fun v9 wc => ∃ (kq : Nat) (x9_18 : Int), v9 = .int .i64 x9_18 ∧ Aside0 (ductusref18_repeat.j2 R kq l1 x7_4 x9_18 a0_0 l0_1 a0_2 a0_3 l0_4 = some r) ∧ Aside0 (kq ≤ kj4) ∧ Aside0 (Kd.R Kd.bool 4 wc w.heap.size (fun _ => True) u7 x7_4) ∧ Aside0 (wc.heap[gb213]? = some (.cells #[.int .i64 a0_0, (.slice A0_1 l0_1.length c0_1), .int .i64 a0_2, .int .i64 a0_3, (.slice A0_4 l0_4.length c0_4)] 25 (0, 0))) ∧ Aside0 (Below w.heap.size w wc))
      case first =>
        have H := HC19.out
        clear HC19
        by_cases c21 : a0_3 ≥ 0
        rotate_left
        · rw [if_neg c21] at H
          have c21b0 : decide (0 ≤ a0_3) = false := decide_eq_false c21
          clear c21
          (first | rw [c21b0] | (simp only [i64_w, i32_w]; rw [c21b0]) | skip)
          have H' := Aside0.mk H
          clear H
          go_wp2
          go_meet
          case rel => exact ⟨_, (wrap64 ((l1.length : Int) + 1)), (by first | rfl | (simp; done) | (simp [*]; done)), H', ⟨by have := HJ4.out; first | omega | exact Nat.le_refl _⟩, ⟨by (with_reducible repeat (first | apply Kd.R_alloc | apply Kd.R_drewN | apply Kd.R_drew)); exact HO_7.out⟩, ⟨by (with_reducible repeat (first | refine blk_drewN ?_ _ | refine blk_drew ?_ | refine blk_alloc ?_ _)); exact BK213.out⟩, ⟨by repeat (first | (with_reducible first | exact HB.out | apply below_alloc | apply pw_below_drewN | apply below_drew1 | refine below_set ?_ GE213.out) | exact HB.out)⟩⟩
        rw [if_pos c21] at H
        have c21b0 : decide (0 ≤ a0_3) = true := decide_eq_true c21
        clear c21
        (first | rw [c21b0] | (simp only [i64_w, i32_w]; rw [c21b0]) | skip)
        obtain ⟨ji22, hji22⟩ : ∃ j_ : Int, (mx 0 a0_2) = j_ := ⟨_, rfl⟩
        replace H : (ductusref18_repeat.j2 R kj4 l1 x7_4 (mn (wrap64 ((l1.length : Int) + 1)) (wrap64 (a0_3 - (ji22)))) a0_0 l0_1 a0_2 a0_3 l0_4) = some r := by first | (rw [hji22] at H; exact H) | (simp only [hji22] at H ⊢; exact H)
        have hji22_ : (if 0 < a0_2 then a0_2 else 0) = ji22 := hji22
        obtain ⟨ji23, hji23⟩ : ∃ j_ : Int, (mn (wrap64 ((l1.length : Int) + 1)) (wrap64 (a0_3 - (ji22)))) = j_ := ⟨_, rfl⟩
        replace H : (ductusref18_repeat.j2 R kj4 l1 x7_4 ji23 a0_0 l0_1 a0_2 a0_3 l0_4) = some r := by first | (rw [hji23] at H; exact H) | (simp only [hji23] at H ⊢; exact H)
        have hji23_ : (if (wrap64 (a0_3 - (ji22))) < (wrap64 ((l1.length : Int) + 1)) then (wrap64 (a0_3 - (ji22))) else (wrap64 ((l1.length : Int) + 1))) = ji23 := hji23
        have H' := Aside0.mk H
        clear H
        have hcz24_0 : wc.cell? ⟨gb213, 0, none⟩ = some (.int .i64 a0_0) := (blk_cell BK213.out 0).trans rfl
        have hcz24_1 : wc.cell? ⟨gb213, 1, none⟩ = some (.slice A0_1 l0_1.length c0_1) := (blk_cell BK213.out 1).trans rfl
        have hcz24_2 : wc.cell? ⟨gb213, 2, none⟩ = some (.int .i64 a0_2) := (blk_cell BK213.out 2).trans rfl
        have hcz24_3 : wc.cell? ⟨gb213, 3, none⟩ = some (.int .i64 a0_3) := (blk_cell BK213.out 3).trans rfl
        have hcz24_4 : wc.cell? ⟨gb213, 4, none⟩ = some (.slice A0_4 l0_4.length c0_4) := (blk_cell BK213.out 4).trans rfl
        have hfz24_0 := blk_frozen BK213.out 0
        have hfz24_1 := blk_frozen BK213.out 1
        have hfz24_2 := blk_frozen BK213.out 2
        have hfz24_3 := blk_frozen BK213.out 3
        have hfz24_4 := blk_frozen BK213.out 4
        go_wp2
        go_meet
        case rel => exact ⟨_, (ji23), (by first | rfl | (simp; done) | (simp only [← hji23] <;> (first | rfl | simp)) | (simp [*]; done)), H', ⟨by have := HJ4.out; first | omega | exact Nat.le_refl _⟩, ⟨by (with_reducible repeat (first | apply Kd.R_alloc | apply Kd.R_drewN | apply Kd.R_drew)); exact HO_7.out⟩, ⟨by (with_reducible repeat (first | refine blk_drewN ?_ _ | refine blk_drew ?_ | refine blk_alloc ?_ _)); exact BK213.out⟩, ⟨by repeat (first | (with_reducible first | exact HB.out | apply below_alloc | apply pw_below_drewN | apply below_drew1 | refine below_set ?_ GE213.out) | exact HB.out)⟩⟩
      case rest =>
        clear HC19
        try clear c1
        try clear c2
        try clear p2
        try clear q2
        try clear hx2
        try clear qi2
        try clear c3
        try clear c4
        try clear p6
        try clear c10
        try clear c10b0
        try clear c11
        try clear c11b0
        try clear c12
        try clear c12b0
        try clear c12b1
        try clear c21
        try clear c21b0
        try clear c22
        try clear p22
        try clear q22
        try clear hx22
        try clear qi22
        try clear hcz14_0
        try clear hcz14_1
        try clear hcz14_2
        try clear hcz14_3
        try clear hcz14_4
        try clear hcz17_0
        try clear hcz17_1
        try clear hcz17_2
        try clear hcz17_3
        try clear hcz17_4
        try clear hcz18_0
        try clear hcz18_1
        try clear hcz18_2
        try clear hcz18_3
        try clear hcz18_4
        try clear hcz20_0
        try clear hcz20_1
        try clear hcz20_2
        try clear hcz20_3
        try clear hcz20_4
        try clear hcz24_0
        try clear hcz24_1
        try clear hcz24_2
        try clear hcz24_3
        try clear hcz24_4
        try clear hfz14_0
        try clear hfz14_1
        try clear hfz14_2
        try clear hfz14_3
        try clear hfz14_4
        try clear hfz17_0
        try clear hfz17_1
        try clear hfz17_2
        try clear hfz17_3
        try clear hfz17_4
        try clear hfz18_0
        try clear hfz18_1
        try clear hfz18_2
        try clear hfz18_3
        try clear hfz18_4
        try clear hfz20_0
        try clear hfz20_1
        try clear hfz20_2
        try clear hfz20_3
        try clear hfz20_4
        try clear hfz24_0
        try clear hfz24_1
        try clear hfz24_2
        try clear hfz24_3
        try clear hfz24_4
        try clear hx220_0
        try clear hx220_1
        try clear hx220_2
        try clear hx220_3
        try clear hx220_4
        try clear p2
        try clear p220
        try clear p6
        try clear q2
        try clear q220
        obtain ⟨kq, x9_18, rfl, HA, HJ18, HO_7, BK213, HB⟩ := hcut
        cases kq with
        | zero => exact absurd HA.out (by simp [ductusref18_repeat.j2])
        | succ kj18 =>
          have H := HA.out
          clear HA
          simp only [ductusref18_repeat.j2] at H
          have H' := Aside0.mk H
          clear H
          go_wp2
          go_loopg [7, 10, 11] kj18 (fun kq v7 v10 v11 w' => ∃ (x7_3 : List Bool) (x10_3 : List Bool) (x11_3 : Int), v11 = .int .i64 x11_3 ∧ Aside0 (ductusref18_repeat.l1 R kq l1 x7_3 x9_18 x10_3 x11_3 a0_0 l0_1 a0_2 a0_3 l0_4 = some r) ∧ Aside0 (kq ≤ kj18) ∧ Aside0 (Kd.R Kd.bool 4 w' w.heap.size (fun _ => True) v7 x7_3) ∧ Aside0 (Kd.R Kd.bool 4 w' w.heap.size (fun _ => True) v10 x10_3) ∧ Aside0 (w'.heap[gb213]? = some (.cells #[.int .i64 a0_0, (.slice A0_1 l0_1.length c0_1), .int .i64 a0_2, .int .i64 a0_3, (.slice A0_4 l0_4.length c0_4)] 25 (0, 0))) ∧ Aside0 (Below w.heap.size w w'))
          case atStart => exact ⟨(x7_4), (x7_4), (0), (by first | rfl | (simp; done) | (simp [*]; done)), H', ⟨Nat.le_refl _⟩, ⟨by (with_reducible repeat (first | apply Kd.R_alloc | apply Kd.R_drewN | apply Kd.R_drew)); exact HO_7.out⟩, ⟨by (with_reducible repeat (first | apply Kd.R_alloc | apply Kd.R_drewN | apply Kd.R_drew)); exact HO_7.out⟩, ⟨by (with_reducible repeat (first | refine blk_drewN ?_ _ | refine blk_drew ?_ | refine blk_alloc ?_ _)); exact BK213.out⟩, ⟨by repeat (first | (with_reducible first | exact HB.out | apply below_alloc | apply pw_below_drewN | apply below_drew1 | refine below_set ?_ GE213.out) | exact HB.out)⟩⟩
          case round =>
            clear H'
            try clear c1
            try clear c2
            try clear p2
            try clear q2
            try clear hx2
            try clear qi2
            try clear c3
            try clear c4
            try clear p6
            try clear c10
            try clear c10b0
            try clear c11
            try clear c11b0
            try clear c12
            try clear c12b0
            try clear c12b1
            try clear c21
            try clear c21b0
            try clear c22
            try clear p22
            try clear q22
            try clear hx22
            try clear qi22
            try clear hcz14_0
            try clear hcz14_1
            try clear hcz14_2
            try clear hcz14_3
            try clear hcz14_4
            try clear hcz17_0
            try clear hcz17_1
            try clear hcz17_2
            try clear hcz17_3
            try clear hcz17_4
            try clear hcz18_0
            try clear hcz18_1
            try clear hcz18_2
            try clear hcz18_3
            try clear hcz18_4
            try clear hcz20_0
            try clear hcz20_1
            try clear hcz20_2
            try clear hcz20_3
            try clear hcz20_4
            try clear hcz24_0
            try clear hcz24_1
            try clear hcz24_2
            try clear hcz24_3
            try clear hcz24_4
            try clear hfz14_0
            try clear hfz14_1
            try clear hfz14_2
            try clear hfz14_3
            try clear hfz14_4
            try clear hfz17_0
            try clear hfz17_1
            try clear hfz17_2
            try clear hfz17_3
            try clear hfz17_4
            try clear hfz18_0
            try clear hfz18_1
            try clear hfz18_2
            try clear hfz18_3
            try clear hfz18_4
            try clear hfz20_0
            try clear hfz20_1
            try clear hfz20_2
            try clear hfz20_3
            try clear hfz20_4
            try clear hfz24_0
            try clear hfz24_1
            try clear hfz24_2
            try clear hfz24_3
            try clear hfz24_4
            try clear hx220_0
            try clear hx220_1
            try clear hx220_2
            try clear hx220_3
            try clear hx220_4
            try clear p2
            try clear p22
            try clear p220
            try clear p6
            try clear q2
            try clear q22
            try clear q220
            obtain ⟨x7_3, x10_3, x11_3, rfl, HA, HK3, HO_7, HO_10, BK213, HB⟩ := hrel
            cases gk with
            | zero => exact absurd HA.out (by simp [ductusref18_repeat.l1])
            | succ k3 =>
              have H := HA.out
              clear HA
              simp only [ductusref18_repeat.l1] at H
              by_cases c25 : x11_3 < x9_18
              rotate_left
              · rw [if_neg c25] at H
                have c25b0 : decide (x11_3 < x9_18) = false := decide_eq_false c25
                clear c25
                by_cases c35 : a0_3 ≥ 0
                rotate_left
                · rw [if_neg c35] at H
                  have c35b0 : decide (0 ≤ a0_3) = false := decide_eq_false c35
                  clear c35
                  obtain rfl := Option.some.inj H
                  have hcz41_0 : wr.cell? ⟨gb213, 0, none⟩ = some (.int .i64 a0_0) := (blk_cell BK213.out 0).trans rfl
                  have hcz41_1 : wr.cell? ⟨gb213, 1, none⟩ = some (.slice A0_1 l0_1.length c0_1) := (blk_cell BK213.out 1).trans rfl
                  have hcz41_2 : wr.cell? ⟨gb213, 2, none⟩ = some (.int .i64 a0_2) := (blk_cell BK213.out 2).trans rfl
                  have hcz41_3 : wr.cell? ⟨gb213, 3, none⟩ = some (.int .i64 a0_3) := (blk_cell BK213.out 3).trans rfl
                  have hcz41_4 : wr.cell? ⟨gb213, 4, none⟩ = some (.slice A0_4 l0_4.length c0_4) := (blk_cell BK213.out 4).trans rfl
                  have hfz41_0 := blk_frozen BK213.out 0
                  have hfz41_1 := blk_frozen BK213.out 1
                  have hfz41_2 := blk_frozen BK213.out 2
                  have hfz41_3 := blk_frozen BK213.out 3
                  have hfz41_4 := blk_frozen BK213.out 4
                  go_wp2
                  go_ret
                  exact ⟨_, by first | rfl | (simp [errW_none, errW_some] <;> rfl) | (simp [*, errW_none, errW_some] <;> rfl), by (with_reducible repeat (first | apply Kd.R_alloc | apply Kd.R_drewN | apply Kd.R_drew)); exact HO_7.out, by repeat (first | (with_reducible first | exact HB.out | apply below_alloc | apply pw_below_drewN | apply below_drew1 | refine below_set ?_ GE213.out) | exact HB.out)⟩
                rw [if_pos c35] at H
                have c35b0 : decide (0 ≤ a0_3) = true := decide_eq_true c35
                clear c35
                by_cases c36 : a0_3 < a0_2
                rotate_left
                · rw [if_neg c36] at H
                  have c36b0 : decide (a0_3 < a0_2) = false := decide_eq_false c36
                  clear c36
                  obtain rfl := Option.some.inj H
                  have hcz40_0 : wr.cell? ⟨gb213, 0, none⟩ = some (.int .i64 a0_0) := (blk_cell BK213.out 0).trans rfl
                  have hcz40_1 : wr.cell? ⟨gb213, 1, none⟩ = some (.slice A0_1 l0_1.length c0_1) := (blk_cell BK213.out 1).trans rfl
                  have hcz40_2 : wr.cell? ⟨gb213, 2, none⟩ = some (.int .i64 a0_2) := (blk_cell BK213.out 2).trans rfl
                  have hcz40_3 : wr.cell? ⟨gb213, 3, none⟩ = some (.int .i64 a0_3) := (blk_cell BK213.out 3).trans rfl
                  have hcz40_4 : wr.cell? ⟨gb213, 4, none⟩ = some (.slice A0_4 l0_4.length c0_4) := (blk_cell BK213.out 4).trans rfl
                  have hfz40_0 := blk_frozen BK213.out 0
                  have hfz40_1 := blk_frozen BK213.out 1
                  have hfz40_2 := blk_frozen BK213.out 2
                  have hfz40_3 := blk_frozen BK213.out 3
                  have hfz40_4 := blk_frozen BK213.out 4
                  go_wp2
                  go_ret
                  exact ⟨_, by first | rfl | (simp [errW_none, errW_some] <;> rfl) | (simp [*, errW_none, errW_some] <;> rfl), by (with_reducible repeat (first | apply Kd.R_alloc | apply Kd.R_drewN | apply Kd.R_drew)); exact HO_7.out, by repeat (first | (with_reducible first | exact HB.out | apply below_alloc | apply pw_below_drewN | apply below_drew1 | refine below_set ?_ GE213.out) | exact HB.out)⟩
                rw [if_pos c36] at H
                have c36b0 : decide (a0_3 < a0_2) = true := decide_eq_true c36
                clear c36
                replace H := Option.bind_eq_some_iff.mp H
                obtain ⟨t231, A370, H⟩ := H
                replace H : (some t231) = some r := H
                have A37 := Aside0.mk A370
                clear A370
                obtain rfl := Option.some.inj H
                have hcz38_0 : wr.cell? ⟨gb213, 0, none⟩ = some (.int .i64 a0_0) := (blk_cell BK213.out 0).trans rfl
                have hcz38_1 : wr.cell? ⟨gb213, 1, none⟩ = some (.slice A0_1 l0_1.length c0_1) := (blk_cell BK213.out 1).trans rfl
                have hcz38_2 : wr.cell? ⟨gb213, 2, none⟩ = some (.int .i64 a0_2) := (blk_cell BK213.out 2).trans rfl
                have hcz38_3 : wr.cell? ⟨gb213, 3, none⟩ = some (.int .i64 a0_3) := (blk_cell BK213.out 3).trans rfl
                have hcz38_4 : wr.cell? ⟨gb213, 4, none⟩ = some (.slice A0_4 l0_4.length c0_4) := (blk_cell BK213.out 4).trans rfl
                have hfz38_0 := blk_frozen BK213.out 0
                have hfz38_1 := blk_frozen BK213.out 1
                have hfz38_2 := blk_frozen BK213.out 2
                have hfz38_3 := blk_frozen BK213.out 3
                have hfz38_4 := blk_frozen BK213.out 4
                go_wp2_with (first | ((with_reducible refine gate_callee (f := 20) rfl ?_); refine goesL_ (some 73) rfl rfl Try.func20 (by kernel_rfl) rfl #[.slice A1 l1.length c1] rfl (by (try simp only [List.map_toArray, List.map_cons, List.map_nil]); first | done | rfl | (simp only [List.length_drop, List.length_take]; rfl)) ?_; (with_reducible refine (ductusref18_places.calls _ _ l1 t231 _ ?side1 ?side2 A37.out).mono ?_); (case side1 => repeat (first | exact (Kd.C_below HR1.out HB.out) | (with_reducible refine Kd.C_alloc ?_ _) | (with_reducible refine Kd.C_drewN ?_ _) | (with_reducible refine Kd.C_drew ?_))); (case side2 => exact HC1.out); rintro e w39 ⟨v232, rfl, ho0, hb⟩; refine ⟨_, rfl, ?_⟩; have n0_ := Aside0.mk (Kd.R_elder' (by (with_reducible repeat (first | apply Kd.R_alloc | apply Kd.R_drewN | apply Kd.R_drew)); exact HO_7.out) (Kd.R_base ho0) hb); have n1_ := Aside0.mk (Kd.R_elder' (by (with_reducible repeat (first | apply Kd.R_alloc | apply Kd.R_drewN | apply Kd.R_drew)); exact HO_10.out) (Kd.R_base ho0) hb); have n2_ := Aside0.mk (Kd.R_lower (Kd.R_new' (Kd.R_new' ho0 (Kd.R_lt (by (with_reducible repeat (first | apply Kd.R_alloc | apply Kd.R_drewN | apply Kd.R_drew)); exact HO_7.out))) (Kd.R_lt (by (with_reducible repeat (first | apply Kd.R_alloc | apply Kd.R_drewN | apply Kd.R_drew)); exact HO_10.out))) (below_size (by repeat (first | (with_reducible first | exact HB.out | apply below_alloc | apply pw_below_drewN | apply below_drew1 | refine below_set ?_ GE213.out) | exact HB.out)))); have n3_ := Aside0.mk (blk_below (g := gb213) (o := .cells #[.int .i64 a0_0, .slice A0_1 l0_1.length c0_1, .int .i64 a0_2, .int .i64 a0_3, .slice A0_4 l0_4.length c0_4] 25 (0, 0)) (by (with_reducible repeat (first | refine blk_drewN ?_ _ | refine blk_drew ?_ | refine blk_alloc ?_ _)); exact BK213.out) hb); have n4_ := Aside0.mk (below_step (by repeat (first | (with_reducible first | exact HB.out | apply below_alloc | apply pw_below_drewN | apply below_drew1 | refine below_set ?_ GE213.out) | exact HB.out)) hb); clear HO_7; clear HO_10; clear BK213; clear HB; have HO_7 := n0_; have HO_10 := n1_; have HO233 := n2_; have BK213 := n3_; have HB := n4_; clear n0_ n1_ n2_ n3_ n4_; (try clear hb); (try clear hb2); (try clear hk); (try clear hi); (try clear ho0)))
                go_ret
                exact ⟨_, by first | rfl | (simp [errW_none, errW_some] <;> rfl) | (simp [*, errW_none, errW_some] <;> rfl), by (with_reducible repeat (first | apply Kd.R_alloc | apply Kd.R_drewN | apply Kd.R_drew)); exact Kd.R_mono HO233.out (fun _ hk => trivial), by repeat (first | (with_reducible first | exact HB.out | apply below_alloc | apply pw_below_drewN | apply below_drew1 | refine below_set ?_ GE213.out) | exact HB.out)⟩
              rw [if_pos c25] at H
              have c25b0 : decide (x11_3 < x9_18) = true := decide_eq_true c25
              clear c25
              by_cases c26 : 0 < (l0_4.length : Int)
              rotate_left
              · rw [if_neg c26] at H
                exact absurd H (by simp)
              rw [if_pos c26] at H
              have c26b0 : decide (0 < (l0_4.length : Int)) = true := decide_eq_true c26
              have c26b1 : decide (0 < l0_4.length) = true := decide_eq_true (by omega)
              clear c26
              replace H := Option.bind_eq_some_iff.mp H
              obtain ⟨t225, A270, H⟩ := H
              replace H : ((ductusref18_either.f k3 x7_3 t225).bind fun t228 => (ductusref18_repeat.l1 R k3 l1 t228 x9_18 t225 (wrap64 (x11_3 + 1)) a0_0 l0_1 a0_2 a0_3 l0_4)) = some r := H
              have A27 := Aside0.mk A270
              clear A270
              replace H := Option.bind_eq_some_iff.mp H
              obtain ⟨t228, A280, H⟩ := H
              replace H : (ductusref18_repeat.l1 R k3 l1 t228 x9_18 t225 (wrap64 (x11_3 + 1)) a0_0 l0_1 a0_2 a0_3 l0_4) = some r := H
              have A28 := Aside0.mk A280
              clear A280
              have H' := Aside0.mk H
              clear H
              have hcz29_0 : wr.cell? ⟨gb213, 0, none⟩ = some (.int .i64 a0_0) := (blk_cell BK213.out 0).trans rfl
              have hcz29_1 : wr.cell? ⟨gb213, 1, none⟩ = some (.slice A0_1 l0_1.length c0_1) := (blk_cell BK213.out 1).trans rfl
              have hcz29_2 : wr.cell? ⟨gb213, 2, none⟩ = some (.int .i64 a0_2) := (blk_cell BK213.out 2).trans rfl
              have hcz29_3 : wr.cell? ⟨gb213, 3, none⟩ = some (.int .i64 a0_3) := (blk_cell BK213.out 3).trans rfl
              have hcz29_4 : wr.cell? ⟨gb213, 4, none⟩ = some (.slice A0_4 l0_4.length c0_4) := (blk_cell BK213.out 4).trans rfl
              have hfz29_0 := blk_frozen BK213.out 0
              have hfz29_1 := blk_frozen BK213.out 1
              have hfz29_2 := blk_frozen BK213.out 2
              have hfz29_3 := blk_frozen BK213.out 3
              have hfz29_4 := blk_frozen BK213.out 4
              have p224 : 0 ≤ (0 : Int) := (by omega)
              have q224 : 0 < (l0_4.length : Int) := of_decide_eq_true (by first | (with_reducible assumption) | assumption)
              obtain ⟨ad224, A224_1, c224_1, A224_4, c224_4, e224, hx224_0, hx224_1, hx224_2, hx224_3, hx224_4, hl224_1, hi224_1, hl224_4, hi224_4⟩ := at_T25 HR0_4.out 0 p224 q224
              cases e224
              have qi224 : (0 < l0_4.length) = True := eq_true (by omega)
              (try rw [show ((0 : Int)).toNat = 0 from rfl] at hx224_0)
              (try rw [show 0 * 5 = 0 from rfl] at hx224_0)
              (try rw [Addr.add_zero'] at hx224_0)
              (try rw [show ((0 : Int)).toNat = 0 from rfl] at hx224_1)
              (try rw [show 0 * 5 = 0 from rfl] at hx224_1)
              (try rw [Addr.add_zero'] at hx224_1)
              (try rw [show ((0 : Int)).toNat = 0 from rfl] at hx224_2)
              (try rw [show 0 * 5 = 0 from rfl] at hx224_2)
              (try rw [Addr.add_zero'] at hx224_2)
              (try rw [show ((0 : Int)).toNat = 0 from rfl] at hx224_3)
              (try rw [show 0 * 5 = 0 from rfl] at hx224_3)
              (try rw [Addr.add_zero'] at hx224_3)
              (try rw [show ((0 : Int)).toNat = 0 from rfl] at hx224_4)
              (try rw [show 0 * 5 = 0 from rfl] at hx224_4)
              (try rw [Addr.add_zero'] at hx224_4)
              replace hx224_0 := (HB.out.cell (World.block_lt_of_cell? w _ hx224_0)).trans hx224_0
              replace hx224_1 := (HB.out.cell (World.block_lt_of_cell? w _ hx224_1)).trans hx224_1
              replace hx224_2 := (HB.out.cell (World.block_lt_of_cell? w _ hx224_2)).trans hx224_2
              replace hx224_3 := (HB.out.cell (World.block_lt_of_cell? w _ hx224_3)).trans hx224_3
              replace hx224_4 := (HB.out.cell (World.block_lt_of_cell? w _ hx224_4)).trans hx224_4
              have HR224_1 := Aside0.mk hi224_1
              have HC224_1 := Aside0.mk hl224_1
              clear hi224_1 hl224_1
              have HR224_4 := Aside0.mk hi224_4
              have HC224_4 := Aside0.mk hl224_4
              clear hi224_4 hl224_4
              replace p224 := eq_true p224
              replace q224 := eq_true q224
              obtain ⟨Ao30, co30, eo30⟩ := Kd.R_slice HO_10.out
              subst eo30
              go_wp2_with (first | ((with_reducible refine gate_callee (f := 21) rfl ?_); refine goesL_ (some 58) rfl rfl Try.func21 (by kernel_rfl) rfl #[.agg #[.int .i64 ((rd_T25 l0_4 0).f0), .slice A224_1 ((rd_T25 l0_4 0).f1).length c224_1, .int .i64 ((rd_T25 l0_4 0).f2), .int .i64 ((rd_T25 l0_4 0).f3), .slice A224_4 ((rd_T25 l0_4 0).f4).length c224_4], .slice A1 l1.length c1, .slice Ao30 x10_3.length co30] rfl (by (try simp only [List.map_toArray, List.map_cons, List.map_nil]); first | done | rfl | (simp only [List.length_drop, List.length_take]; rfl)) ?_; (with_reducible refine (R.calls k3 ((rd_T25 l0_4 0).f0) _ _ ((rd_T25 l0_4 0).f1) ((rd_T25 l0_4 0).f2) ((rd_T25 l0_4 0).f3) _ _ ((rd_T25 l0_4 0).f4) _ _ l1 _ _ x10_3 t225 _ ?side1 ?side2 ?side3 ?side4 ?side5 ?side6 ?side7 ?side8 A27.out).mono ?_); (case side1 => repeat (first | exact (Kd.C_below HR224_1.out HB.out) | (with_reducible refine Kd.C_alloc ?_ _) | (with_reducible refine Kd.C_drewN ?_ _) | (with_reducible refine Kd.C_drew ?_))); (case side2 => exact HC224_1.out); (case side3 => repeat (first | exact (Kd.C_below HR224_4.out HB.out) | (with_reducible refine Kd.C_alloc ?_ _) | (with_reducible refine Kd.C_drewN ?_ _) | (with_reducible refine Kd.C_drew ?_))); (case side4 => exact HC224_4.out); (case side5 => repeat (first | exact (Kd.C_below HR1.out HB.out) | (with_reducible refine Kd.C_alloc ?_ _) | (with_reducible refine Kd.C_drewN ?_ _) | (with_reducible refine Kd.C_drew ?_))); (case side6 => exact HC1.out); (case side7 => repeat (first | exact (Kd.R_reads' HO_10.out).2.2 | (with_reducible refine Kd.C_alloc ?_ _) | (with_reducible refine Kd.C_drewN ?_ _) | (with_reducible refine Kd.C_drew ?_))); (case side8 => exact (Kd.R_reads' HO_10.out).2.1); rintro e w31 ⟨v226, rfl, ho0, hb⟩; refine ⟨_, rfl, ?_⟩; have n0_ := Aside0.mk (Kd.R_elder' (by (with_reducible repeat (first | apply Kd.R_alloc | apply Kd.R_drewN | apply Kd.R_drew)); exact HO_7.out) (Kd.R_base ho0) hb); have n1_ := Aside0.mk (Kd.R_elder' (by (with_reducible repeat (first | apply Kd.R_alloc | apply Kd.R_drewN | apply Kd.R_drew)); exact HO_10.out) (Kd.R_base ho0) hb); have n2_ := Aside0.mk (Kd.R_lower (Kd.R_new' (Kd.R_new' ho0 (Kd.R_lt (by (with_reducible repeat (first | apply Kd.R_alloc | apply Kd.R_drewN | apply Kd.R_drew)); exact HO_7.out))) (Kd.R_lt (by (with_reducible repeat (first | apply Kd.R_alloc | apply Kd.R_drewN | apply Kd.R_drew)); exact HO_10.out))) (below_size (by repeat (first | (with_reducible first | exact HB.out | apply below_alloc | apply pw_below_drewN | apply below_drew1 | refine below_set ?_ GE213.out) | exact HB.out)))); have n3_ := Aside0.mk (blk_below (g := gb213) (o := .cells #[.int .i64 a0_0, .slice A0_1 l0_1.length c0_1, .int .i64 a0_2, .int .i64 a0_3, .slice (some ad224) l0_4.length c0_4] 25 (0, 0)) (by (with_reducible repeat (first | refine blk_drewN ?_ _ | refine blk_drew ?_ | refine blk_alloc ?_ _)); exact BK213.out) hb); have n4_ := Aside0.mk (below_step (by repeat (first | (with_reducible first | exact HB.out | apply below_alloc | apply pw_below_drewN | apply below_drew1 | refine below_set ?_ GE213.out) | exact HB.out)) hb); clear HO_7; clear HO_10; clear BK213; clear HB; have HO_7 := n0_; have HO_10 := n1_; have HO227 := n2_; have BK213 := n3_; have HB := n4_; clear n0_ n1_ n2_ n3_ n4_; (try clear hb); (try clear hb2); (try clear hk); (try clear hi); (try clear ho0); obtain ⟨Ao32, co32, eo32⟩ := Kd.R_slice HO_7.out; subst eo32; obtain ⟨Ao33, co33, eo33⟩ := Kd.R_slice HO227.out; subst eo33) | ((with_reducible refine gate_callee (f := 31) rfl ?_); refine goesL_ (some 61) rfl rfl Try.func31 (by kernel_rfl) rfl #[.slice Ao32 x7_3.length co32, .slice Ao33 t225.length co33] rfl (by (try simp only [List.map_toArray, List.map_cons, List.map_nil]); first | done | rfl | (simp only [List.length_drop, List.length_take]; rfl)) ?_; (with_reducible refine (ductusref18_either.calls k3 _ _ x7_3 _ _ t225 t228 _ ?side1 ?side2 ?side3 ?side4 A28.out).mono ?_); (case side1 => repeat (first | exact (Kd.R_reads' HO_7.out).2.2 | (with_reducible refine Kd.C_alloc ?_ _) | (with_reducible refine Kd.C_drewN ?_ _) | (with_reducible refine Kd.C_drew ?_))); (case side2 => exact (Kd.R_reads' HO_7.out).2.1); (case side3 => repeat (first | exact (Kd.R_reads' HO227.out).2.2 | (with_reducible refine Kd.C_alloc ?_ _) | (with_reducible refine Kd.C_drewN ?_ _) | (with_reducible refine Kd.C_drew ?_))); (case side4 => exact (Kd.R_reads' HO227.out).2.1); rintro e w34 ⟨v229, rfl, ho0, hb⟩; refine ⟨_, rfl, ?_⟩; have n0_ := Aside0.mk (Kd.R_elder' (by (with_reducible repeat (first | apply Kd.R_alloc | apply Kd.R_drewN | apply Kd.R_drew)); exact HO_7.out) (Kd.R_base ho0) hb); have n1_ := Aside0.mk (Kd.R_elder' (by (with_reducible repeat (first | apply Kd.R_alloc | apply Kd.R_drewN | apply Kd.R_drew)); exact HO_10.out) (Kd.R_base ho0) hb); have n2_ := Aside0.mk (Kd.R_elder' (by (with_reducible repeat (first | apply Kd.R_alloc | apply Kd.R_drewN | apply Kd.R_drew)); exact HO227.out) (Kd.R_base ho0) hb); have n3_ := Aside0.mk (Kd.R_lower (Kd.R_new' (Kd.R_new' (Kd.R_new' ho0 (Kd.R_lt (by (with_reducible repeat (first | apply Kd.R_alloc | apply Kd.R_drewN | apply Kd.R_drew)); exact HO_7.out))) (Kd.R_lt (by (with_reducible repeat (first | apply Kd.R_alloc | apply Kd.R_drewN | apply Kd.R_drew)); exact HO_10.out))) (Kd.R_lt (by (with_reducible repeat (first | apply Kd.R_alloc | apply Kd.R_drewN | apply Kd.R_drew)); exact HO227.out))) (below_size (by repeat (first | (with_reducible first | exact HB.out | apply below_alloc | apply pw_below_drewN | apply below_drew1 | refine below_set ?_ GE213.out) | exact HB.out)))); have n4_ := Aside0.mk (blk_below (g := gb213) (o := .cells #[.int .i64 a0_0, .slice A0_1 l0_1.length c0_1, .int .i64 a0_2, .int .i64 a0_3, .slice (some ad224) l0_4.length c0_4] 25 (0, 0)) (by (with_reducible repeat (first | refine blk_drewN ?_ _ | refine blk_drew ?_ | refine blk_alloc ?_ _)); exact BK213.out) hb); have n5_ := Aside0.mk (below_step (by repeat (first | (with_reducible first | exact HB.out | apply below_alloc | apply pw_below_drewN | apply below_drew1 | refine below_set ?_ GE213.out) | exact HB.out)) hb); clear HO_7; clear HO_10; clear HO227; clear BK213; clear HB; have HO_7 := n0_; have HO_10 := n1_; have HO227 := n2_; have HO230 := n3_; have BK213 := n4_; have HB := n5_; clear n0_ n1_ n2_ n3_ n4_ n5_; (try clear hb); (try clear hb2); (try clear hk); (try clear hi); (try clear ho0)))
              go_roundg k3
              case measure => have := HJ4.out; have := HJ18.out; have := HK3.out; omega
              case rel => exact ⟨(t228), (t225), (wrap64 (x11_3 + 1)), (by first | rfl | (simp; done) | (simp [*]; done)), H', ⟨by have := HJ4.out; have := HJ18.out; have := HK3.out; omega⟩, ⟨by (with_reducible repeat (first | apply Kd.R_alloc | apply Kd.R_drewN | apply Kd.R_drew)); exact Kd.R_mono HO230.out (fun _ _ => trivial)⟩, ⟨by (with_reducible repeat (first | apply Kd.R_alloc | apply Kd.R_drewN | apply Kd.R_drew)); exact Kd.R_mono HO227.out (fun _ _ => trivial)⟩, ⟨by (with_reducible repeat (first | refine blk_drewN ?_ _ | refine blk_drew ?_ | refine blk_alloc ?_ _)); exact BK213.out⟩, ⟨by repeat (first | (with_reducible first | exact HB.out | apply below_alloc | apply pw_below_drewN | apply below_drew1 | refine below_set ?_ GE213.out) | exact HB.out)⟩⟩

end Go.Proofs.Ytaphbechnjmlgaa.P
