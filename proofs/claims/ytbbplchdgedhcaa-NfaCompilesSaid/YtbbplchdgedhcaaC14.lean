/- Texts of this claim put together by a program of its own (Px9), what the law does not use left out: each part's statements bear their own conditions. -/
import Derived.Test.YtbbplchdgedhcaaC12
import Derived.Test.YtbbplchdgedhcaaC13
namespace Go.Proofs.Ytbbplchdgedhcaa.P
open Go.RowKit Go.Proofs.YtbbplchdgedhcaaW.PrintWords Go.Proofs.YtbbplchdgedhcaaW.PrintLast Go.Proofs.YtbbplchdgedhcaaW.PrintMore
attribute [local go_sem] max2_int min2_int max_two min_two
set_option linter.unusedVariables false
set_option linter.unusedSimpArgs false

attribute [local go_sem high] eqA42
def ductusref19_Compile.f (k : Nat) (a0_0 : Int) (l0_1 : List (S42)) (a0_2 : Int) (a0_3 : Int) (l0_4 : List (S25)) : Option ((List (S39)) × Int) := (ductusref19_Let.f k a0_0 l0_1 a0_2 a0_3 l0_4).bind fun t210 => (if t210 = true then ((ductusref19_lay.f k a0_0 l0_1 a0_2 a0_3 l0_4 0).bind fun t211 => (if t211.length < 2932031007402 then ((some (t211 ++ [(⟨0, ([] : List (S42)), 0, 0⟩ : S39)] : List (S39))).bind fun y214 => (if (y214.length : Int) > 1000 then (some (([] : List (S39)), 10)) else (some (y214, 0)))) else (none))) else (some (([] : List (S39)), 1)))
set_option maxHeartbeats 8000000 in
set_option maxRecDepth 100000 in
theorem ductusref19_Compile.calls (k : Nat) (a0_0 : Int) (P0_1_ : Nat → Prop) (A0_1 : Option Addr) (c0_1 : Nat) (l0_1 : List (S42)) (a0_2 : Int) (a0_3 : Int) (P0_4_ : Nat → Prop) (A0_4 : Option Addr) (c0_4 : Nat) (l0_4 : List (S25)) (r1 : List (S39)) (r2 : Int) (w : World) (hs0_1 : Kd.V k42 42 w w.heap.size (fun k_ => P0_1_ k_) (.slice A0_1 l0_1.length c0_1) l0_1) (hs0_4 : Kd.V k25 25 w w.heap.size (fun k_ => P0_4_ k_) (.slice A0_4 l0_4.length c0_4) l0_4) (h : ductusref19_Compile.f k a0_0 l0_1 a0_2 a0_3 l0_4 = some (r1, r2)) :
    Calls Try.prog 11 #[.agg #[.int .i64 a0_0, .slice A0_1 l0_1.length c0_1, .int .i64 a0_2, .int .i64 a0_3, .slice A0_4 l0_4.length c0_4]] w fun e w' => ∃ v0_ : Value, e = .returned (.tuple #[v0_, .int .i64 r2]) ∧ Kd.N k39 39 w' w.heap.size (fun k_ => ((P0_1_ k_ ∨ P0_4_ k_) ∨ w.heap.size ≤ k_)) v0_ r1 ∧ Below w.heap.size w w' := by
  have hu25 := Try.underlying25
  have hu39 := Try.underlying39
  have HO0_1 := Aside0.mk (show Kd.V k42 42 w w.heap.size (fun k_ => ((P0_1_ k_ ∨ P0_4_ k_) ∨ w.heap.size ≤ k_)) (.slice A0_1 l0_1.length c0_1) l0_1 from Kd.V_mono hs0_1 (fun k_ hk => .inl (.inl hk)))
  have HO0_4 := Aside0.mk (show Kd.V k25 25 w w.heap.size (fun k_ => ((P0_1_ k_ ∨ P0_4_ k_) ∨ w.heap.size ≤ k_)) (.slice A0_4 l0_4.length c0_4) l0_4 from Kd.V_mono hs0_4 (fun k_ hk => .inl (.inr hk)))
  have HB := Aside0.mk (Below.refl w.heap.size w)
  have H : ((ductusref19_Let.f k a0_0 l0_1 a0_2 a0_3 l0_4).bind fun t210 => (if t210 = true then ((ductusref19_lay.f k a0_0 l0_1 a0_2 a0_3 l0_4 0).bind fun t211 => (if t211.length < 2932031007402 then ((some (t211 ++ [(⟨0, ([] : List (S42)), 0, 0⟩ : S39)] : List (S39))).bind fun y214 => (if (y214.length : Int) > 1000 then (some (([] : List (S39)), 10)) else (some (y214, 0)))) else (none))) else (some (([] : List (S39)), 1)))) = some (r1, r2) := h
  clear h
  replace H := Option.bind_eq_some_iff.mp H
  obtain ⟨t210, A20, H⟩ := H
  replace H : (if t210 = true then ((ductusref19_lay.f k a0_0 l0_1 a0_2 a0_3 l0_4 0).bind fun t211 => (if t211.length < 2932031007402 then ((some (t211 ++ [(⟨0, ([] : List (S42)), 0, 0⟩ : S39)] : List (S39))).bind fun y214 => (if (y214.length : Int) > 1000 then (some (([] : List (S39)), 10)) else (some (y214, 0)))) else (none))) else (some (([] : List (S39)), 1))) = some (r1, r2) := H
  have A2 := Aside0.mk A20
  clear A20
  by_cases c3 : t210 = true
  rotate_left
  · replace c3 := Bool.eq_false_iff.mpr c3
    subst c3
    have H1 : (some (([] : List (S39)), 1)) = some (r1, r2) := by rw [if_neg (show ¬ (false = true) by decide)] at H; exact H
    clear H
    have H := H1
    clear H1
    simp only [Option.some.injEq, Prod.mk.injEq] at H
    obtain ⟨rfl, rfl⟩ := H
    go_enter Try.func11, Try.ntmps11
    go_wp2_with (first | ((with_reducible refine gate_dst (N := 1) rfl ?_); refine box_event ?hg (N := 1) ?hd (cs := #[.int .i64 a0_0, .slice A0_1 l0_1.length c0_1, .int .i64 a0_2, .int .i64 a0_3, .slice A0_4 l0_4.length c0_4]) (t := 25) ?hr ?_; (case hd => rfl); (case hg => rfl); (case hr => first | (go_simp; done) | (go_simp; rfl)); intro gb209 hg w21 hbox hb; have n0_ := Aside0.mk (Kd.V_below (Kd.V_elderB (by (with_reducible repeat (first | apply Kd.V_alloc | apply Kd.V_drewN | apply Kd.V_drew)); exact HO0_1.out) gb209 (Nat.le_of_eq hg.symm)) hb); have n1_ := Aside0.mk (Kd.V_below (Kd.V_elderB (by (with_reducible repeat (first | apply Kd.V_alloc | apply Kd.V_drewN | apply Kd.V_drew)); exact HO0_4.out) gb209 (Nat.le_of_eq hg.symm)) hb); have n2_ := Aside0.mk (below_step (by repeat (first | (with_reducible first | exact HB.out | apply below_alloc | apply pw_below_drewN | apply below_drew1) | exact HB.out)) hb); have n3_ := Aside0.mk (hbox); have n4_ := Aside0.mk ((by rw [hg]; exact (below_size (by repeat (first | (with_reducible first | exact HB.out | apply below_alloc | apply pw_below_drewN | apply below_drew1) | exact HB.out))) : w.heap.size ≤ gb209)); have n5_ := Aside0.mk ((by rw [hg]; exact (below_size (by repeat (first | (with_reducible first | exact HB.out | apply below_alloc | apply pw_below_drewN | apply below_drew1) | exact HB.out))) : w.heap.size ≤ gb209)); clear HO0_1; clear HO0_4; clear HB; have HO0_1 := n0_; have HO0_4 := n1_; have HB := n2_; have BK209 := n3_; have GW209 := n4_; have GE209 := n5_; clear n0_ n1_ n2_ n3_ n4_ n5_; clear hb hbox hg; have hcz22_0 : w21.cell? ⟨gb209, 0, none⟩ = some (.int .i64 a0_0) := (blk_cell BK209.out 0).trans rfl; have hcz22_1 : w21.cell? ⟨gb209, 1, none⟩ = some (.slice A0_1 l0_1.length c0_1) := (blk_cell BK209.out 1).trans rfl; have hcz22_2 : w21.cell? ⟨gb209, 2, none⟩ = some (.int .i64 a0_2) := (blk_cell BK209.out 2).trans rfl; have hcz22_3 : w21.cell? ⟨gb209, 3, none⟩ = some (.int .i64 a0_3) := (blk_cell BK209.out 3).trans rfl; have hcz22_4 : w21.cell? ⟨gb209, 4, none⟩ = some (.slice A0_4 l0_4.length c0_4) := (blk_cell BK209.out 4).trans rfl; have hfz22_0 := blk_frozen BK209.out 0; have hfz22_1 := blk_frozen BK209.out 1; have hfz22_2 := blk_frozen BK209.out 2; have hfz22_3 := blk_frozen BK209.out 3; have hfz22_4 := blk_frozen BK209.out 4) | ((with_reducible refine gate_callee (f := 22) rfl ?_); refine goesL_ (some 6) rfl rfl Try.func22 (by kernel_rfl) rfl #[.agg #[.int .i64 a0_0, .slice A0_1 l0_1.length c0_1, .int .i64 a0_2, .int .i64 a0_3, .slice A0_4 l0_4.length c0_4]] rfl (by (try simp only [List.map_toArray, List.map_cons, List.map_nil]); first | done | rfl | (simp only [List.length_drop, List.length_take]; rfl)) ?_; (with_reducible refine (ductusref19_Let.calls k a0_0 _ _ l0_1 a0_2 a0_3 _ _ l0_4 false _ ?side1 ?side2 ?side3 ?side4 A2.out).mono ?_); (case side1 => repeat (first | exact (Kd.V_reads' HO0_1.out).2.2 | (with_reducible refine Kd.C_alloc ?_ _) | (with_reducible refine Kd.C_drewN ?_ _) | (with_reducible refine Kd.C_drew ?_))); (case side2 => exact (Kd.V_reads' HO0_1.out).2.1); (case side3 => repeat (first | exact (Kd.V_reads' HO0_4.out).2.2 | (with_reducible refine Kd.C_alloc ?_ _) | (with_reducible refine Kd.C_drewN ?_ _) | (with_reducible refine Kd.C_drew ?_))); (case side4 => exact (Kd.V_reads' HO0_4.out).2.1); rintro e w23 ⟨rfl, hb⟩; refine ⟨_, rfl, ?_⟩; have n0_ := Aside0.mk (Kd.V_below (by (with_reducible repeat (first | apply Kd.V_alloc | apply Kd.V_drewN | apply Kd.V_drew)); exact HO0_1.out) hb); have n1_ := Aside0.mk (Kd.V_below (by (with_reducible repeat (first | apply Kd.V_alloc | apply Kd.V_drewN | apply Kd.V_drew)); exact HO0_4.out) hb); have n2_ := Aside0.mk (blk_below (g := gb209) (o := .cells #[.int .i64 a0_0, .slice A0_1 l0_1.length c0_1, .int .i64 a0_2, .int .i64 a0_3, .slice A0_4 l0_4.length c0_4] 25 (0, 0)) (by (with_reducible repeat (first | refine blk_drewN ?_ _ | refine blk_drew ?_ | refine blk_alloc ?_ _)); exact BK209.out) hb); have n3_ := Aside0.mk (below_step (by repeat (first | (with_reducible first | exact HB.out | apply below_alloc | apply pw_below_drewN | apply below_drew1 | refine below_set ?_ GE209.out) | exact HB.out)) hb); clear HO0_1; clear HO0_4; clear BK209; clear HB; have HO0_1 := n0_; have HO0_4 := n1_; have BK209 := n2_; have HB := n3_; clear n0_ n1_ n2_ n3_; (try clear hb); (try clear hb2); (try clear hk); (try clear hi)))
    go_ret2
    exact ⟨_, by first | rfl | (simp [errW_none, errW_some] <;> rfl) | (simp [*, errW_none, errW_some] <;> rfl), by first | exact Kd.S_nil _ _ _ _ _ | exact Kd.N_nil _ _ _ _ _ | exact Kd.V_nil _ _ _ _ _ | exact Kd.Q_nil _ _ _ _ _ | exact Kd.R_nil _ _ _ _ _, by repeat (first | (with_reducible first | exact HB.out | apply below_alloc | apply pw_below_drewN | apply below_drew1 | refine below_set ?_ GE209.out) | exact HB.out)⟩
  subst c3
  have H1 : ((ductusref19_lay.f k a0_0 l0_1 a0_2 a0_3 l0_4 0).bind fun t211 => (if t211.length < 2932031007402 then ((some (t211 ++ [(⟨0, ([] : List (S42)), 0, 0⟩ : S39)] : List (S39))).bind fun y214 => (if (y214.length : Int) > 1000 then (some (([] : List (S39)), 10)) else (some (y214, 0)))) else (none))) = some (r1, r2) := by rw [if_pos rfl] at H; exact H
  clear H
  have H := H1
  clear H1
  replace H := Option.bind_eq_some_iff.mp H
  obtain ⟨t211, A40, H⟩ := H
  replace H : (if t211.length < 2932031007402 then ((some (t211 ++ [(⟨0, ([] : List (S42)), 0, 0⟩ : S39)] : List (S39))).bind fun y214 => (if (y214.length : Int) > 1000 then (some (([] : List (S39)), 10)) else (some (y214, 0)))) else (none)) = some (r1, r2) := H
  have A4 := Aside0.mk A40
  clear A40
  by_cases c5 : t211.length < 2932031007402
  rotate_left
  · rw [if_neg c5] at H
    exact absurd H (by simp)
  rw [if_pos c5] at H
  have LMc5 := Aside0.mk c5
  clear c5
  obtain ⟨y214, hy214⟩ : ∃ y_ : List (S39), y_ = (t211 ++ [(⟨0, ([] : List (S42)), 0, 0⟩ : S39)]) := ⟨_, rfl⟩
  replace H : (if (y214.length : Int) > 1000 then (some (([] : List (S39)), 10)) else (some (y214, 0))) = some (r1, r2) := by first | (rw [hy214]; with_reducible exact H) | (have H2_ := (Option.bind_some _ _).symm.trans H; rw [hy214]; with_reducible exact H2_) | (have H2_ := (Option.bind_some _ _).symm.trans H; with_reducible exact H2_) | with_reducible exact H | (rw [hy214]; exact H) | exact H
  have Ny214 := Aside0.mk hy214
  clear hy214
  by_cases c6 : (y214.length : Int) > 1000
  · rw [if_pos c6] at H
    have c6b0 : decide (1000 < (y214.length : Int)) = true := decide_eq_true c6
    have c6b1 : decide (1000 < y214.length) = true := decide_eq_true (by omega)
    clear c6
    simp only [Option.some.injEq, Prod.mk.injEq] at H
    obtain ⟨rfl, rfl⟩ := H
    go_enter Try.func11, Try.ntmps11
    go_wp2_with (first | ((with_reducible refine gate_dst (N := 1) rfl ?_); refine box_event ?hg (N := 1) ?hd (cs := #[.int .i64 a0_0, .slice A0_1 l0_1.length c0_1, .int .i64 a0_2, .int .i64 a0_3, .slice A0_4 l0_4.length c0_4]) (t := 25) ?hr ?_; (case hd => rfl); (case hg => rfl); (case hr => first | (go_simp; done) | (go_simp; rfl)); intro gb209 hg w7 hbox hb; have n0_ := Aside0.mk (Kd.V_below (Kd.V_elderB (by (with_reducible repeat (first | apply Kd.V_alloc | apply Kd.V_drewN | apply Kd.V_drew)); exact HO0_1.out) gb209 (Nat.le_of_eq hg.symm)) hb); have n1_ := Aside0.mk (Kd.V_below (Kd.V_elderB (by (with_reducible repeat (first | apply Kd.V_alloc | apply Kd.V_drewN | apply Kd.V_drew)); exact HO0_4.out) gb209 (Nat.le_of_eq hg.symm)) hb); have n2_ := Aside0.mk (below_step (by repeat (first | (with_reducible first | exact HB.out | apply below_alloc | apply pw_below_drewN | apply below_drew1) | exact HB.out)) hb); have n3_ := Aside0.mk (hbox); have n4_ := Aside0.mk ((by rw [hg]; exact (below_size (by repeat (first | (with_reducible first | exact HB.out | apply below_alloc | apply pw_below_drewN | apply below_drew1) | exact HB.out))) : w.heap.size ≤ gb209)); have n5_ := Aside0.mk ((by rw [hg]; exact (below_size (by repeat (first | (with_reducible first | exact HB.out | apply below_alloc | apply pw_below_drewN | apply below_drew1) | exact HB.out))) : w.heap.size ≤ gb209)); clear HO0_1; clear HO0_4; clear HB; have HO0_1 := n0_; have HO0_4 := n1_; have HB := n2_; have BK209 := n3_; have GW209 := n4_; have GE209 := n5_; clear n0_ n1_ n2_ n3_ n4_ n5_; clear hb hbox hg; have hcz8_0 : w7.cell? ⟨gb209, 0, none⟩ = some (.int .i64 a0_0) := (blk_cell BK209.out 0).trans rfl; have hcz8_1 : w7.cell? ⟨gb209, 1, none⟩ = some (.slice A0_1 l0_1.length c0_1) := (blk_cell BK209.out 1).trans rfl; have hcz8_2 : w7.cell? ⟨gb209, 2, none⟩ = some (.int .i64 a0_2) := (blk_cell BK209.out 2).trans rfl; have hcz8_3 : w7.cell? ⟨gb209, 3, none⟩ = some (.int .i64 a0_3) := (blk_cell BK209.out 3).trans rfl; have hcz8_4 : w7.cell? ⟨gb209, 4, none⟩ = some (.slice A0_4 l0_4.length c0_4) := (blk_cell BK209.out 4).trans rfl; have hfz8_0 := blk_frozen BK209.out 0; have hfz8_1 := blk_frozen BK209.out 1; have hfz8_2 := blk_frozen BK209.out 2; have hfz8_3 := blk_frozen BK209.out 3; have hfz8_4 := blk_frozen BK209.out 4) | ((with_reducible refine gate_callee (f := 22) rfl ?_); refine goesL_ (some 6) rfl rfl Try.func22 (by kernel_rfl) rfl #[.agg #[.int .i64 a0_0, .slice A0_1 l0_1.length c0_1, .int .i64 a0_2, .int .i64 a0_3, .slice A0_4 l0_4.length c0_4]] rfl (by (try simp only [List.map_toArray, List.map_cons, List.map_nil]); first | done | rfl | (simp only [List.length_drop, List.length_take]; rfl)) ?_; (with_reducible refine (ductusref19_Let.calls k a0_0 _ _ l0_1 a0_2 a0_3 _ _ l0_4 true _ ?side1 ?side2 ?side3 ?side4 A2.out).mono ?_); (case side1 => repeat (first | exact (Kd.V_reads' HO0_1.out).2.2 | (with_reducible refine Kd.C_alloc ?_ _) | (with_reducible refine Kd.C_drewN ?_ _) | (with_reducible refine Kd.C_drew ?_))); (case side2 => exact (Kd.V_reads' HO0_1.out).2.1); (case side3 => repeat (first | exact (Kd.V_reads' HO0_4.out).2.2 | (with_reducible refine Kd.C_alloc ?_ _) | (with_reducible refine Kd.C_drewN ?_ _) | (with_reducible refine Kd.C_drew ?_))); (case side4 => exact (Kd.V_reads' HO0_4.out).2.1); rintro e w9 ⟨rfl, hb⟩; refine ⟨_, rfl, ?_⟩; have n0_ := Aside0.mk (Kd.V_below (by (with_reducible repeat (first | apply Kd.V_alloc | apply Kd.V_drewN | apply Kd.V_drew)); exact HO0_1.out) hb); have n1_ := Aside0.mk (Kd.V_below (by (with_reducible repeat (first | apply Kd.V_alloc | apply Kd.V_drewN | apply Kd.V_drew)); exact HO0_4.out) hb); have n2_ := Aside0.mk (blk_below (g := gb209) (o := .cells #[.int .i64 a0_0, .slice A0_1 l0_1.length c0_1, .int .i64 a0_2, .int .i64 a0_3, .slice A0_4 l0_4.length c0_4] 25 (0, 0)) (by (with_reducible repeat (first | refine blk_drewN ?_ _ | refine blk_drew ?_ | refine blk_alloc ?_ _)); exact BK209.out) hb); have n3_ := Aside0.mk (below_step (by repeat (first | (with_reducible first | exact HB.out | apply below_alloc | apply pw_below_drewN | apply below_drew1 | refine below_set ?_ GE209.out) | exact HB.out)) hb); clear HO0_1; clear HO0_4; clear BK209; clear HB; have HO0_1 := n0_; have HO0_4 := n1_; have BK209 := n2_; have HB := n3_; clear n0_ n1_ n2_ n3_; (try clear hb); (try clear hb2); (try clear hk); (try clear hi); have hcz10_0 : w9.cell? ⟨gb209, 0, none⟩ = some (.int .i64 a0_0) := (blk_cell BK209.out 0).trans rfl; have hcz10_1 : w9.cell? ⟨gb209, 1, none⟩ = some (.slice A0_1 l0_1.length c0_1) := (blk_cell BK209.out 1).trans rfl; have hcz10_2 : w9.cell? ⟨gb209, 2, none⟩ = some (.int .i64 a0_2) := (blk_cell BK209.out 2).trans rfl; have hcz10_3 : w9.cell? ⟨gb209, 3, none⟩ = some (.int .i64 a0_3) := (blk_cell BK209.out 3).trans rfl; have hcz10_4 : w9.cell? ⟨gb209, 4, none⟩ = some (.slice A0_4 l0_4.length c0_4) := (blk_cell BK209.out 4).trans rfl; have hfz10_0 := blk_frozen BK209.out 0; have hfz10_1 := blk_frozen BK209.out 1; have hfz10_2 := blk_frozen BK209.out 2; have hfz10_3 := blk_frozen BK209.out 3; have hfz10_4 := blk_frozen BK209.out 4) | ((with_reducible refine gate_callee (f := 23) rfl ?_); refine goesL_ (some 9) rfl rfl Try.func23 (by kernel_rfl) rfl #[.agg #[.int .i64 a0_0, .slice A0_1 l0_1.length c0_1, .int .i64 a0_2, .int .i64 a0_3, .slice A0_4 l0_4.length c0_4], .int .i64 0] rfl (by (try simp only [List.map_toArray, List.map_cons, List.map_nil]); first | done | rfl | (simp only [List.length_drop, List.length_take]; rfl)) ?_; (with_reducible refine (ductusref19_lay.calls k a0_0 (fun k_ => (((P0_1_ k_ ∨ P0_4_ k_) ∨ w.heap.size ≤ k_) ∧ k_ ≠ gb209)) _ _ l0_1 a0_2 a0_3 (fun k_ => (((P0_1_ k_ ∨ P0_4_ k_) ∨ w.heap.size ≤ k_) ∧ k_ ≠ gb209)) _ _ l0_4 0 t211 _ ?side1 ?side2 A4.out).mono ?_); (case side1 => exact HO0_1.out); (case side2 => exact HO0_4.out); rintro e w11 ⟨v212, rfl, ho0, hb⟩; refine ⟨_, rfl, ?_⟩; have n0_ := Aside0.mk (Kd.V_elder' (by (with_reducible repeat (first | apply Kd.V_alloc | apply Kd.V_drewN | apply Kd.V_drew)); exact HO0_1.out) (Kd.N_base ho0) hb); have n1_ := Aside0.mk (Kd.V_elder' (by (with_reducible repeat (first | apply Kd.V_alloc | apply Kd.V_drewN | apply Kd.V_drew)); exact HO0_4.out) (Kd.N_base ho0) hb); have n2_ := Aside0.mk (Kd.N_lower (Kd.N_mono (ok' := fun k_ => ((P0_1_ k_ ∨ P0_4_ k_) ∨ w.heap.size ≤ k_) ∧ k_ ≠ gb209) ho0 (fun k_ hk_ => ⟨Or.elim hk_ (fun hs_ => Or.elim hs_ (fun hs_ => hs_.1) (fun hs_ => hs_.1)) (fun hn_ => (.inr (Nat.le_trans (below_size (by repeat (first | (with_reducible first | exact HB.out | apply below_alloc | apply pw_below_drewN | apply below_drew1 | refine below_set ?_ GE209.out) | exact HB.out))) hn_))), Or.elim hk_ (fun hs_ => Or.elim hs_ (fun hs_ => hs_.2) (fun hs_ => hs_.2)) (fun hn_ => (Kd.freshB (g := gb209) (o := .cells #[.int .i64 a0_0, .slice A0_1 l0_1.length c0_1, .int .i64 a0_2, .int .i64 a0_3, .slice A0_4 l0_4.length c0_4] 25 (0, 0)) (by (with_reducible repeat (first | refine blk_drewN ?_ _ | refine blk_drew ?_ | refine blk_alloc ?_ _)); exact BK209.out) k_ hn_))⟩)) (below_size (by repeat (first | (with_reducible first | exact HB.out | apply below_alloc | apply pw_below_drewN | apply below_drew1 | refine below_set ?_ GE209.out) | exact HB.out)))); have n3_ := Aside0.mk (blk_below (g := gb209) (o := .cells #[.int .i64 a0_0, .slice A0_1 l0_1.length c0_1, .int .i64 a0_2, .int .i64 a0_3, .slice A0_4 l0_4.length c0_4] 25 (0, 0)) (by (with_reducible repeat (first | refine blk_drewN ?_ _ | refine blk_drew ?_ | refine blk_alloc ?_ _)); exact BK209.out) hb); have n4_ := Aside0.mk (below_step (by repeat (first | (with_reducible first | exact HB.out | apply below_alloc | apply pw_below_drewN | apply below_drew1 | refine below_set ?_ GE209.out) | exact HB.out)) hb); clear HO0_1; clear HO0_4; clear BK209; clear HB; have HO0_1 := n0_; have HO0_4 := n1_; have HO213 := n2_; have BK209 := n3_; have HB := n4_; clear n0_ n1_ n2_ n3_ n4_; (try clear hb); (try clear hb2); (try clear hk); (try clear hi); (try clear ho0)) | ((with_reducible refine gate_builtin (b := .append) (xs := #[.tmp 9, .tmp 11]) rfl ?_); at_builtin; refine Kd.N_append k39 (w0 := w) w.heap.size rfl (.tmp 9) (.tmp 11) 29 39 (.agg #[(.int .i64 0), (.slice none 0 0), (.int .i64 0), (.int .i64 0)]) 48 rfl Try.underlying29 info39 rfl (by decide) (by omega) v212 t211 (⟨0, ([] : List (S42)), 0, 0⟩ : S39) [.int .i64 0, .slice none 0 0, .int .i64 0, .int .i64 0] (fun k_ => ((P0_1_ k_ ∨ P0_4_ k_) ∨ w.heap.size ≤ k_) ∧ k_ ≠ gb209) (fun k_ => ((fun k_ => ((P0_1_ k_ ∨ P0_4_ k_) ∨ w.heap.size ≤ k_) ∧ k_ ≠ gb209)) k_ ∧ some k_ ≠ (v212 : Value).ownBlock) rfl rfl ?aP (fun _ hk => hk) ?aF ?aO ?aB ?aS ?aL ?_; (case aP => exact (k39_mkF _ _ (⟨0, ([] : List (S42)), 0, 0⟩ : S39) (Nat.le_refl _) (Kd.F_nil _ _ _))); (case aB => exact (by repeat (first | (with_reducible first | exact HB.out | apply below_alloc | apply pw_below_drewN | apply below_drew1 | refine below_set ?_ GE209.out) | exact HB.out))); (case aF => exact (fun k_ hk => ⟨(.inr (Nat.le_trans (below_size (by repeat (first | (with_reducible first | exact HB.out | apply below_alloc | apply pw_below_drewN | apply below_drew1 | refine below_set ?_ GE209.out) | exact HB.out))) hk)), Kd.freshB (g := gb209) (o := .cells #[.int .i64 a0_0, .slice A0_1 l0_1.length c0_1, .int .i64 a0_2, .int .i64 a0_3, .slice A0_4 l0_4.length c0_4] 25 (0, 0)) (by (with_reducible repeat (first | refine blk_drewN ?_ _ | refine blk_drew ?_ | refine blk_alloc ?_ _)); exact BK209.out) k_ hk⟩)); (case aO => exact (by (with_reducible repeat (first | apply Kd.N_alloc | apply Kd.N_drewN | apply Kd.N_drew)); exact HO213.out)); (case aS => exact (below_size (by repeat (first | (with_reducible first | exact HB.out | apply below_alloc | apply pw_below_drewN | apply below_drew1 | refine below_set ?_ GE209.out) | exact HB.out)))); (case aL => have := LMc5.out; omega); intro v215 w12 ho hb hg hat; rw [← Ny214.out] at ho; have n0_ := Aside0.mk (Kd.V_afterv (ok := (fun k_ => ((P0_1_ k_ ∨ P0_4_ k_) ∨ w.heap.size ≤ k_) ∧ k_ ≠ gb209)) (by (with_reducible repeat (first | apply Kd.V_alloc | apply Kd.V_drewN | apply Kd.V_drew)); exact HO0_1.out) hg hat); have n1_ := Aside0.mk (Kd.V_afterv (ok := (fun k_ => ((P0_1_ k_ ∨ P0_4_ k_) ∨ w.heap.size ≤ k_) ∧ k_ ≠ gb209)) (by (with_reducible repeat (first | apply Kd.V_alloc | apply Kd.V_drewN | apply Kd.V_drew)); exact HO0_4.out) hg hat); have n2_ := Aside0.mk (blk_grown (g := gb209) (o := .cells #[.int .i64 a0_0, .slice A0_1 l0_1.length c0_1, .int .i64 a0_2, .int .i64 a0_3, .slice A0_4 l0_4.length c0_4] 25 (0, 0)) (by (with_reducible repeat (first | refine blk_drewN ?_ _ | refine blk_drew ?_ | refine blk_alloc ?_ _)); exact BK209.out) hg (Kd.N_ne HO213.out BK209.out (by decide))); have n3_ := Aside0.mk (hb); have n4_ := Aside0.mk (ho); clear HO0_1; clear HO0_4; clear BK209; clear HB; clear HO213; have HO0_1 := n0_; have HO0_4 := n1_; have BK209 := n2_; have HB := n3_; have HO216 := n4_; clear n0_ n1_ n2_ n3_ n4_; clear ho hb hg hat; obtain ⟨Ao13, co13, eo13⟩ := Kd.N_slice HO216.out; subst eo13))
    go_ret2
    exact ⟨_, by first | rfl | (simp [errW_none, errW_some] <;> rfl) | (simp [*, errW_none, errW_some] <;> rfl), by first | exact Kd.S_nil _ _ _ _ _ | exact Kd.N_nil _ _ _ _ _ | exact Kd.V_nil _ _ _ _ _ | exact Kd.Q_nil _ _ _ _ _ | exact Kd.R_nil _ _ _ _ _, by repeat (first | (with_reducible first | exact HB.out | apply below_alloc | apply pw_below_drewN | apply below_drew1 | refine below_set ?_ GE209.out) | exact HB.out)⟩
  rw [if_neg c6] at H
  have c6b0 : decide (1000 < (y214.length : Int)) = false := decide_eq_false c6
  have c6b1 : decide (1000 < y214.length) = false := decide_eq_false (by omega)
  clear c6
  simp only [Option.some.injEq, Prod.mk.injEq] at H
  obtain ⟨rfl, rfl⟩ := H
  go_enter Try.func11, Try.ntmps11
  go_wp2_with (first | ((with_reducible refine gate_dst (N := 1) rfl ?_); refine box_event ?hg (N := 1) ?hd (cs := #[.int .i64 a0_0, .slice A0_1 l0_1.length c0_1, .int .i64 a0_2, .int .i64 a0_3, .slice A0_4 l0_4.length c0_4]) (t := 25) ?hr ?_; (case hd => rfl); (case hg => rfl); (case hr => first | (go_simp; done) | (go_simp; rfl)); intro gb209 hg w14 hbox hb; have n0_ := Aside0.mk (Kd.V_below (Kd.V_elderB (by (with_reducible repeat (first | apply Kd.V_alloc | apply Kd.V_drewN | apply Kd.V_drew)); exact HO0_1.out) gb209 (Nat.le_of_eq hg.symm)) hb); have n1_ := Aside0.mk (Kd.V_below (Kd.V_elderB (by (with_reducible repeat (first | apply Kd.V_alloc | apply Kd.V_drewN | apply Kd.V_drew)); exact HO0_4.out) gb209 (Nat.le_of_eq hg.symm)) hb); have n2_ := Aside0.mk (below_step (by repeat (first | (with_reducible first | exact HB.out | apply below_alloc | apply pw_below_drewN | apply below_drew1) | exact HB.out)) hb); have n3_ := Aside0.mk (hbox); have n4_ := Aside0.mk ((by rw [hg]; exact (below_size (by repeat (first | (with_reducible first | exact HB.out | apply below_alloc | apply pw_below_drewN | apply below_drew1) | exact HB.out))) : w.heap.size ≤ gb209)); have n5_ := Aside0.mk ((by rw [hg]; exact (below_size (by repeat (first | (with_reducible first | exact HB.out | apply below_alloc | apply pw_below_drewN | apply below_drew1) | exact HB.out))) : w.heap.size ≤ gb209)); clear HO0_1; clear HO0_4; clear HB; have HO0_1 := n0_; have HO0_4 := n1_; have HB := n2_; have BK209 := n3_; have GW209 := n4_; have GE209 := n5_; clear n0_ n1_ n2_ n3_ n4_ n5_; clear hb hbox hg; have hcz15_0 : w14.cell? ⟨gb209, 0, none⟩ = some (.int .i64 a0_0) := (blk_cell BK209.out 0).trans rfl; have hcz15_1 : w14.cell? ⟨gb209, 1, none⟩ = some (.slice A0_1 l0_1.length c0_1) := (blk_cell BK209.out 1).trans rfl; have hcz15_2 : w14.cell? ⟨gb209, 2, none⟩ = some (.int .i64 a0_2) := (blk_cell BK209.out 2).trans rfl; have hcz15_3 : w14.cell? ⟨gb209, 3, none⟩ = some (.int .i64 a0_3) := (blk_cell BK209.out 3).trans rfl; have hcz15_4 : w14.cell? ⟨gb209, 4, none⟩ = some (.slice A0_4 l0_4.length c0_4) := (blk_cell BK209.out 4).trans rfl; have hfz15_0 := blk_frozen BK209.out 0; have hfz15_1 := blk_frozen BK209.out 1; have hfz15_2 := blk_frozen BK209.out 2; have hfz15_3 := blk_frozen BK209.out 3; have hfz15_4 := blk_frozen BK209.out 4) | ((with_reducible refine gate_callee (f := 22) rfl ?_); refine goesL_ (some 6) rfl rfl Try.func22 (by kernel_rfl) rfl #[.agg #[.int .i64 a0_0, .slice A0_1 l0_1.length c0_1, .int .i64 a0_2, .int .i64 a0_3, .slice A0_4 l0_4.length c0_4]] rfl (by (try simp only [List.map_toArray, List.map_cons, List.map_nil]); first | done | rfl | (simp only [List.length_drop, List.length_take]; rfl)) ?_; (with_reducible refine (ductusref19_Let.calls k a0_0 _ _ l0_1 a0_2 a0_3 _ _ l0_4 true _ ?side1 ?side2 ?side3 ?side4 A2.out).mono ?_); (case side1 => repeat (first | exact (Kd.V_reads' HO0_1.out).2.2 | (with_reducible refine Kd.C_alloc ?_ _) | (with_reducible refine Kd.C_drewN ?_ _) | (with_reducible refine Kd.C_drew ?_))); (case side2 => exact (Kd.V_reads' HO0_1.out).2.1); (case side3 => repeat (first | exact (Kd.V_reads' HO0_4.out).2.2 | (with_reducible refine Kd.C_alloc ?_ _) | (with_reducible refine Kd.C_drewN ?_ _) | (with_reducible refine Kd.C_drew ?_))); (case side4 => exact (Kd.V_reads' HO0_4.out).2.1); rintro e w16 ⟨rfl, hb⟩; refine ⟨_, rfl, ?_⟩; have n0_ := Aside0.mk (Kd.V_below (by (with_reducible repeat (first | apply Kd.V_alloc | apply Kd.V_drewN | apply Kd.V_drew)); exact HO0_1.out) hb); have n1_ := Aside0.mk (Kd.V_below (by (with_reducible repeat (first | apply Kd.V_alloc | apply Kd.V_drewN | apply Kd.V_drew)); exact HO0_4.out) hb); have n2_ := Aside0.mk (blk_below (g := gb209) (o := .cells #[.int .i64 a0_0, .slice A0_1 l0_1.length c0_1, .int .i64 a0_2, .int .i64 a0_3, .slice A0_4 l0_4.length c0_4] 25 (0, 0)) (by (with_reducible repeat (first | refine blk_drewN ?_ _ | refine blk_drew ?_ | refine blk_alloc ?_ _)); exact BK209.out) hb); have n3_ := Aside0.mk (below_step (by repeat (first | (with_reducible first | exact HB.out | apply below_alloc | apply pw_below_drewN | apply below_drew1 | refine below_set ?_ GE209.out) | exact HB.out)) hb); clear HO0_1; clear HO0_4; clear BK209; clear HB; have HO0_1 := n0_; have HO0_4 := n1_; have BK209 := n2_; have HB := n3_; clear n0_ n1_ n2_ n3_; (try clear hb); (try clear hb2); (try clear hk); (try clear hi); have hcz17_0 : w16.cell? ⟨gb209, 0, none⟩ = some (.int .i64 a0_0) := (blk_cell BK209.out 0).trans rfl; have hcz17_1 : w16.cell? ⟨gb209, 1, none⟩ = some (.slice A0_1 l0_1.length c0_1) := (blk_cell BK209.out 1).trans rfl; have hcz17_2 : w16.cell? ⟨gb209, 2, none⟩ = some (.int .i64 a0_2) := (blk_cell BK209.out 2).trans rfl; have hcz17_3 : w16.cell? ⟨gb209, 3, none⟩ = some (.int .i64 a0_3) := (blk_cell BK209.out 3).trans rfl; have hcz17_4 : w16.cell? ⟨gb209, 4, none⟩ = some (.slice A0_4 l0_4.length c0_4) := (blk_cell BK209.out 4).trans rfl; have hfz17_0 := blk_frozen BK209.out 0; have hfz17_1 := blk_frozen BK209.out 1; have hfz17_2 := blk_frozen BK209.out 2; have hfz17_3 := blk_frozen BK209.out 3; have hfz17_4 := blk_frozen BK209.out 4) | ((with_reducible refine gate_callee (f := 23) rfl ?_); refine goesL_ (some 9) rfl rfl Try.func23 (by kernel_rfl) rfl #[.agg #[.int .i64 a0_0, .slice A0_1 l0_1.length c0_1, .int .i64 a0_2, .int .i64 a0_3, .slice A0_4 l0_4.length c0_4], .int .i64 0] rfl (by (try simp only [List.map_toArray, List.map_cons, List.map_nil]); first | done | rfl | (simp only [List.length_drop, List.length_take]; rfl)) ?_; (with_reducible refine (ductusref19_lay.calls k a0_0 (fun k_ => (((P0_1_ k_ ∨ P0_4_ k_) ∨ w.heap.size ≤ k_) ∧ k_ ≠ gb209)) _ _ l0_1 a0_2 a0_3 (fun k_ => (((P0_1_ k_ ∨ P0_4_ k_) ∨ w.heap.size ≤ k_) ∧ k_ ≠ gb209)) _ _ l0_4 0 t211 _ ?side1 ?side2 A4.out).mono ?_); (case side1 => exact HO0_1.out); (case side2 => exact HO0_4.out); rintro e w18 ⟨v212, rfl, ho0, hb⟩; refine ⟨_, rfl, ?_⟩; have n0_ := Aside0.mk (Kd.V_elder' (by (with_reducible repeat (first | apply Kd.V_alloc | apply Kd.V_drewN | apply Kd.V_drew)); exact HO0_1.out) (Kd.N_base ho0) hb); have n1_ := Aside0.mk (Kd.V_elder' (by (with_reducible repeat (first | apply Kd.V_alloc | apply Kd.V_drewN | apply Kd.V_drew)); exact HO0_4.out) (Kd.N_base ho0) hb); have n2_ := Aside0.mk (Kd.N_lower (Kd.N_mono (ok' := fun k_ => ((P0_1_ k_ ∨ P0_4_ k_) ∨ w.heap.size ≤ k_) ∧ k_ ≠ gb209) ho0 (fun k_ hk_ => ⟨Or.elim hk_ (fun hs_ => Or.elim hs_ (fun hs_ => hs_.1) (fun hs_ => hs_.1)) (fun hn_ => (.inr (Nat.le_trans (below_size (by repeat (first | (with_reducible first | exact HB.out | apply below_alloc | apply pw_below_drewN | apply below_drew1 | refine below_set ?_ GE209.out) | exact HB.out))) hn_))), Or.elim hk_ (fun hs_ => Or.elim hs_ (fun hs_ => hs_.2) (fun hs_ => hs_.2)) (fun hn_ => (Kd.freshB (g := gb209) (o := .cells #[.int .i64 a0_0, .slice A0_1 l0_1.length c0_1, .int .i64 a0_2, .int .i64 a0_3, .slice A0_4 l0_4.length c0_4] 25 (0, 0)) (by (with_reducible repeat (first | refine blk_drewN ?_ _ | refine blk_drew ?_ | refine blk_alloc ?_ _)); exact BK209.out) k_ hn_))⟩)) (below_size (by repeat (first | (with_reducible first | exact HB.out | apply below_alloc | apply pw_below_drewN | apply below_drew1 | refine below_set ?_ GE209.out) | exact HB.out)))); have n3_ := Aside0.mk (blk_below (g := gb209) (o := .cells #[.int .i64 a0_0, .slice A0_1 l0_1.length c0_1, .int .i64 a0_2, .int .i64 a0_3, .slice A0_4 l0_4.length c0_4] 25 (0, 0)) (by (with_reducible repeat (first | refine blk_drewN ?_ _ | refine blk_drew ?_ | refine blk_alloc ?_ _)); exact BK209.out) hb); have n4_ := Aside0.mk (below_step (by repeat (first | (with_reducible first | exact HB.out | apply below_alloc | apply pw_below_drewN | apply below_drew1 | refine below_set ?_ GE209.out) | exact HB.out)) hb); clear HO0_1; clear HO0_4; clear BK209; clear HB; have HO0_1 := n0_; have HO0_4 := n1_; have HO213 := n2_; have BK209 := n3_; have HB := n4_; clear n0_ n1_ n2_ n3_ n4_; (try clear hb); (try clear hb2); (try clear hk); (try clear hi); (try clear ho0)) | ((with_reducible refine gate_builtin (b := .append) (xs := #[.tmp 9, .tmp 11]) rfl ?_); at_builtin; refine Kd.N_append k39 (w0 := w) w.heap.size rfl (.tmp 9) (.tmp 11) 29 39 (.agg #[(.int .i64 0), (.slice none 0 0), (.int .i64 0), (.int .i64 0)]) 48 rfl Try.underlying29 info39 rfl (by decide) (by omega) v212 t211 (⟨0, ([] : List (S42)), 0, 0⟩ : S39) [.int .i64 0, .slice none 0 0, .int .i64 0, .int .i64 0] (fun k_ => ((P0_1_ k_ ∨ P0_4_ k_) ∨ w.heap.size ≤ k_) ∧ k_ ≠ gb209) (fun k_ => ((fun k_ => ((P0_1_ k_ ∨ P0_4_ k_) ∨ w.heap.size ≤ k_) ∧ k_ ≠ gb209)) k_ ∧ some k_ ≠ (v212 : Value).ownBlock) rfl rfl ?aP (fun _ hk => hk) ?aF ?aO ?aB ?aS ?aL ?_; (case aP => exact (k39_mkF _ _ (⟨0, ([] : List (S42)), 0, 0⟩ : S39) (Nat.le_refl _) (Kd.F_nil _ _ _))); (case aB => exact (by repeat (first | (with_reducible first | exact HB.out | apply below_alloc | apply pw_below_drewN | apply below_drew1 | refine below_set ?_ GE209.out) | exact HB.out))); (case aF => exact (fun k_ hk => ⟨(.inr (Nat.le_trans (below_size (by repeat (first | (with_reducible first | exact HB.out | apply below_alloc | apply pw_below_drewN | apply below_drew1 | refine below_set ?_ GE209.out) | exact HB.out))) hk)), Kd.freshB (g := gb209) (o := .cells #[.int .i64 a0_0, .slice A0_1 l0_1.length c0_1, .int .i64 a0_2, .int .i64 a0_3, .slice A0_4 l0_4.length c0_4] 25 (0, 0)) (by (with_reducible repeat (first | refine blk_drewN ?_ _ | refine blk_drew ?_ | refine blk_alloc ?_ _)); exact BK209.out) k_ hk⟩)); (case aO => exact (by (with_reducible repeat (first | apply Kd.N_alloc | apply Kd.N_drewN | apply Kd.N_drew)); exact HO213.out)); (case aS => exact (below_size (by repeat (first | (with_reducible first | exact HB.out | apply below_alloc | apply pw_below_drewN | apply below_drew1 | refine below_set ?_ GE209.out) | exact HB.out)))); (case aL => have := LMc5.out; omega); intro v215 w19 ho hb hg hat; rw [← Ny214.out] at ho; have n0_ := Aside0.mk (Kd.V_afterv (ok := (fun k_ => ((P0_1_ k_ ∨ P0_4_ k_) ∨ w.heap.size ≤ k_) ∧ k_ ≠ gb209)) (by (with_reducible repeat (first | apply Kd.V_alloc | apply Kd.V_drewN | apply Kd.V_drew)); exact HO0_1.out) hg hat); have n1_ := Aside0.mk (Kd.V_afterv (ok := (fun k_ => ((P0_1_ k_ ∨ P0_4_ k_) ∨ w.heap.size ≤ k_) ∧ k_ ≠ gb209)) (by (with_reducible repeat (first | apply Kd.V_alloc | apply Kd.V_drewN | apply Kd.V_drew)); exact HO0_4.out) hg hat); have n2_ := Aside0.mk (blk_grown (g := gb209) (o := .cells #[.int .i64 a0_0, .slice A0_1 l0_1.length c0_1, .int .i64 a0_2, .int .i64 a0_3, .slice A0_4 l0_4.length c0_4] 25 (0, 0)) (by (with_reducible repeat (first | refine blk_drewN ?_ _ | refine blk_drew ?_ | refine blk_alloc ?_ _)); exact BK209.out) hg (Kd.N_ne HO213.out BK209.out (by decide))); have n3_ := Aside0.mk (hb); have n4_ := Aside0.mk (ho); clear HO0_1; clear HO0_4; clear BK209; clear HB; clear HO213; have HO0_1 := n0_; have HO0_4 := n1_; have BK209 := n2_; have HB := n3_; have HO216 := n4_; clear n0_ n1_ n2_ n3_ n4_; clear ho hb hg hat; obtain ⟨Ao20, co20, eo20⟩ := Kd.N_slice HO216.out; subst eo20))
  go_ret2
  exact ⟨_, by first | rfl | (simp [errW_none, errW_some] <;> rfl) | (simp [*, errW_none, errW_some] <;> rfl), by (with_reducible repeat (first | apply Kd.N_alloc | apply Kd.N_drewN | apply Kd.N_drew)); exact Kd.N_mono HO216.out (fun _ hk => hk.1), by repeat (first | (with_reducible first | exact HB.out | apply below_alloc | apply pw_below_drewN | apply below_drew1 | refine below_set ?_ GE209.out) | exact HB.out)⟩

def ductusref16_SameSets.l0 : Nat → List (S42) → List (S42) → Int → Option (Bool)
  | 0, _, _, _ => none
  | k + 1, x0, x1, x5 => if x5 < (x0.length : Int) then (if 0 ≤ x5 then (if x5 < (x1.length : Int) then (if (!(((rd_T42 x0 x5).f0) == ((rd_T42 x1 x5).f0)) || (!(((rd_T42 x0 x5).f1) == ((rd_T42 x1 x5).f1)))) = true then (some false) else (ductusref16_SameSets.l0 k x0 x1 (wrap64 (x5 + 1)))) else (none)) else (none)) else (some true)
def ductusref16_SameSets.f (k : Nat) (l0 : List (S42)) (l1 : List (S42)) : Option (Bool) := if (l0.length : Int) = (l1.length : Int) then (ductusref16_SameSets.l0 k l0 l1 0) else (some false)
set_option maxHeartbeats 8000000 in
set_option maxRecDepth 100000 in
theorem ductusref16_SameSets.calls (k : Nat) (A0 : Option Addr) (c0 : Nat) (l0 : List (S42)) (A1 : Option Addr) (c1 : Nat) (l1 : List (S42)) (r : Bool) (w : World) (hr0 : Kd.C k42 w A0 l0.length l0) (hc0 : l0.length ≤ c0) (hr1 : Kd.C k42 w A1 l1.length l1) (hc1 : l1.length ≤ c1) (h : ductusref16_SameSets.f k l0 l1 = some r) :
    Calls Try.prog 24 #[.slice A0 l0.length c0, .slice A1 l1.length c1] w fun e w' => e = .returned (.bool r) ∧ Drawn0 w w' := by
  have hu42 := Try.underlying42
  have HR0 := Aside0.mk hr0
  have HC0 := Aside0.mk hc0
  clear hr0 hc0
  have HR1 := Aside0.mk hr1
  have HC1 := Aside0.mk hc1
  clear hr1 hc1
  have H : (if (l0.length : Int) = (l1.length : Int) then (ductusref16_SameSets.l0 k l0 l1 0) else (some false)) = some r := h
  clear h
  by_cases c3 : (l0.length : Int) = (l1.length : Int)
  rotate_left
  · rw [if_neg c3] at H
    have c3b0 : ((l0.length : Int) == (l1.length : Int)) = false := beq_eq_false_iff_ne.mpr c3
    have c3b1 : ((l0.length : Int) != (l1.length : Int)) = true := bne_iff_ne.mpr c3
    have c3b2 : (l0.length == l1.length) = false := by first | simpa using c3 | (simp at c3 ⊢; omega)
    obtain rfl := Option.some.inj H
    go_enter Try.func24, Try.ntmps24
    go_wp2
    repeat (go_quiet (fail); try go_wp2)
    go_ret
    exact ⟨by first | rfl | (simp; done) | (simp [*]; done), by repeat (first | exact Drawn0.refl _ | apply Drawn0.step)⟩
  rw [if_pos c3] at H
  have c3b0 : ((l0.length : Int) == (l1.length : Int)) = true := beq_iff_eq.mpr c3
  have c3b1 : ((l0.length : Int) != (l1.length : Int)) = false := bne_eq_false_iff_eq.mpr c3
  have c3b2 : (l0.length == l1.length) = true := by first | simpa using c3 | (simp at c3 ⊢; omega)
  clear c3
  have H' := Aside0.mk H
  clear H
  go_enter Try.func24, Try.ntmps24
  go_wp2
  repeat (go_quiet (fail); try go_wp2)
  go_loopg [5] k (fun kq v5 w' => ∃ (x5_1 : Int), v5 = .int .i64 x5_1 ∧ Aside0 (ductusref16_SameSets.l0 kq l0 l1 x5_1 = some r) ∧ Aside0 (kq ≤ k) ∧ Drawn0 w w')
  case atStart => exact ⟨(0), (by first | rfl | (simp; done) | (simp [*]; done)), H', ⟨Nat.le_refl _⟩, by repeat (first | exact Drawn0.refl _ | apply Drawn0.step)⟩
  case round =>
    clear H'
    try clear c1
    try clear c2
    try clear p2
    try clear c3
    try clear c3b0
    try clear c3b1
    try clear c3b2
    obtain ⟨x5_1, rfl, HA, HK1, ⟨m1, rfl⟩⟩ := hrel
    cases gk with
    | zero => exact absurd HA.out (by simp [ductusref16_SameSets.l0])
    | succ k1 =>
      have H := HA.out
      clear HA
      simp only [ductusref16_SameSets.l0] at H
      by_cases c4 : x5_1 < (l0.length : Int)
      rotate_left
      · rw [if_neg c4] at H
        have c4b0 : decide (x5_1 < (l0.length : Int)) = false := decide_eq_false c4
        clear c4
        obtain rfl := Option.some.inj H
        go_wp2
        repeat (go_quiet (fail); try go_wp2)
        go_ret
        exact ⟨by first | rfl | (simp; done) | (simp [*]; done), by repeat (first | exact Drawn0.refl _ | apply Drawn0.step)⟩
      rw [if_pos c4] at H
      have c4b0 : decide (x5_1 < (l0.length : Int)) = true := decide_eq_true c4
      clear c4
      by_cases c5 : 0 ≤ x5_1
      rotate_left
      · rw [if_neg c5] at H
        exact absurd H (by simp)
      rw [if_pos c5] at H
      have c5b0 : decide (0 ≤ x5_1) = true := decide_eq_true c5
      clear c5
      by_cases c6 : x5_1 < (l1.length : Int)
      rotate_left
      · rw [if_neg c6] at H
        exact absurd H (by simp)
      rw [if_pos c6] at H
      have c6b0 : decide (x5_1 < (l1.length : Int)) = true := decide_eq_true c6
      clear c6
      by_cases c7 : (!(((rd_T42 l0 x5_1).f0) == ((rd_T42 l1 x5_1).f0)) || (!(((rd_T42 l0 x5_1).f1) == ((rd_T42 l1 x5_1).f1)))) = true
      · rw [if_pos c7] at H
        have c7b0 : (!(((rd_T42 l0 x5_1).f0) == ((rd_T42 l1 x5_1).f0)) || (!(((rd_T42 l0 x5_1).f1) == ((rd_T42 l1 x5_1).f1)))) = true := c7
        clear c7
        obtain rfl := Option.some.inj H
        have p217 : 0 ≤ (x5_1 : Int) := of_decide_eq_true (by first | (with_reducible assumption) | assumption)
        have q217 : x5_1 < (l0.length : Int) := of_decide_eq_true (by first | (with_reducible assumption) | assumption)
        obtain ⟨ad217, e217, hx217_0, hx217_1⟩ := at_T42 HR0.out x5_1 p217 q217
        cases e217
        replace p217 := eq_true p217
        replace q217 := eq_true q217
        have p218 : 0 ≤ (x5_1 : Int) := of_decide_eq_true (by first | (with_reducible assumption) | assumption)
        have q218 : x5_1 < (l1.length : Int) := of_decide_eq_true (by first | (with_reducible assumption) | assumption)
        obtain ⟨ad218, e218, hx218_0, hx218_1⟩ := at_T42 HR1.out x5_1 p218 q218
        cases e218
        replace p218 := eq_true p218
        replace q218 := eq_true q218
        go_wp2
        repeat (go_quiet (fail); try go_wp2)
        go_ret
        exact ⟨by first | rfl | (simp; done) | (simp [*]; done), by repeat (first | exact Drawn0.refl _ | apply Drawn0.step)⟩
      rw [if_neg c7] at H
      have c7b0 : (!(((rd_T42 l0 x5_1).f0) == ((rd_T42 l1 x5_1).f0)) || (!(((rd_T42 l0 x5_1).f1) == ((rd_T42 l1 x5_1).f1)))) = false := by simpa using c7
      clear c7
      have H' := Aside0.mk H
      clear H
      have p217 : 0 ≤ (x5_1 : Int) := of_decide_eq_true (by first | (with_reducible assumption) | assumption)
      have q217 : x5_1 < (l0.length : Int) := of_decide_eq_true (by first | (with_reducible assumption) | assumption)
      obtain ⟨ad217, e217, hx217_0, hx217_1⟩ := at_T42 HR0.out x5_1 p217 q217
      cases e217
      replace p217 := eq_true p217
      replace q217 := eq_true q217
      have p218 : 0 ≤ (x5_1 : Int) := of_decide_eq_true (by first | (with_reducible assumption) | assumption)
      have q218 : x5_1 < (l1.length : Int) := of_decide_eq_true (by first | (with_reducible assumption) | assumption)
      obtain ⟨ad218, e218, hx218_0, hx218_1⟩ := at_T42 HR1.out x5_1 p218 q218
      cases e218
      replace p218 := eq_true p218
      replace q218 := eq_true q218
      go_wp2
      repeat (go_quiet (fail); try go_wp2)
      go_roundg k1
      case measure => have := HK1.out; omega
      case rel => exact ⟨(wrap64 (x5_1 + 1)), (by first | rfl | (simp; done) | (simp [*]; done)), H', ⟨by have := HK1.out; omega⟩, by repeat (first | exact Drawn0.refl _ | apply Drawn0.step)⟩

end Go.Proofs.Ytbbplchdgedhcaa.P
