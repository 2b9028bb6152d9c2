/- Texts of this claim put together by a program of its own (Px21, PInts, PPlaces, PMirC, PMir, PFold, PNormB, PEv, PUtfE, PCtlR, PSwap, PSwapQ), what the law does not use left out: each part's statements bear their own conditions. -/
import Derived.Test.YthgmkbghdobmlaaC0
import Derived.Test.YthgmkbghdobmlaaC5
import Derived.Test.YthgmkbghdobmlaaC6
import Derived.Test.YthgmkbghdobmlaaC7
import Derived.Test.YthgmkbghdobmlaaC4
import Derived.Test.YthgmkbghdobmlaaC2
import Derived.Test.YthgmkbghdobmlaaC3
import Derived.Test.YthgmkbghdobmlaaC1
namespace Go.Proofs.Ythgmkbghdobmlaa.P
open Go.RowKit Go.Proofs.YthgmkbghdobmlaaW.PrintWords Go.Proofs.YthgmkbghdobmlaaW.PrintLast Go.Proofs.YthgmkbghdobmlaaW.PrintMore
attribute [local go_sem] max2_int min2_int max_two min_two max_three min_three max_four min_four   -- for this text's walks alone
set_option linter.unusedVariables false
set_option linter.unusedSimpArgs false

def ductuslaw27_SwapBalance.l0 : Nat → List Int → Int → List Int → List (S39) → List Int → Option (Bool)
  | 0, _, _, _, _, _ => none
  | k + 1, x3, x5, x639000, x639001, x639002 => if x5 < (x3.length : Int) then (if 0 ≤ x5 then ((ductusref01_Right.f (rd x3 x5)).bind fun t653 => (if t653 = true then (ductuslaw27_SwapBalance.l0 k x3 (wrap64 (x5 + 1)) x639000 x639001 x639002) else (none))) else (none)) else ((ductuslaw27_bare.f k x639000).bind fun t654 => ((ductuslaw27_bare.f k x3).bind fun t657 => ((ductusref26_Right.f k t654).bind fun t660 => (if t660 = true then ((ductusref26_Right.f k t657).bind fun t661 => (some t661)) else (some true)))))
def ductuslaw27_SwapBalance.f (k : Nat) (l0_0 : List Int) (l0_1 : List (S39)) (l0_2 : List Int) : Option (Bool) := (ductuslaw27_alive.f k).bind fun t639 => (if t639 = true then ((ductuslaw27_great.f l0_0 l0_1 l0_2).bind fun t640 => (if t640 = true then (some true) else ((swap_All.f k l0_0 l0_1 l0_2).bind fun bt641 => (if bt641.2 = 0 then ((ductusref26_Controls.f k bt641.1).bind fun t645 => ((ductusref26_Controls.f k l0_0).bind fun t648 => ((ductusref01_Ints.f k t645 t648).bind fun t651 => (if t651 = true then (ductuslaw27_SwapBalance.l0 k bt641.1 0 l0_0 l0_1 l0_2) else (none))))) else (some ((bt641.1.length : Int) == 0)))))) else (none))
set_option maxHeartbeats 8000000 in
set_option maxRecDepth 100000 in
theorem ductuslaw27_SwapBalance.calls (k : Nat) (A0_0 : Option Addr) (c0_0 : Nat) (l0_0 : List Int) (A0_1 : Option Addr) (c0_1 : Nat) (l0_1 : List (S39)) (A0_2 : Option Addr) (c0_2 : Nat) (l0_2 : List Int) (r : Bool) (w : World) (hr0_0 : Kd.C (Kd.int .i64) w A0_0 l0_0.length l0_0) (hc0_0 : l0_0.length ≤ c0_0) (hr0_1 : Kd.C k39 w A0_1 l0_1.length l0_1) (hc0_1 : l0_1.length ≤ c0_1) (hr0_2 : Kd.C (Kd.int .i64) w A0_2 l0_2.length l0_2) (hc0_2 : l0_2.length ≤ c0_2) (h : ductuslaw27_SwapBalance.f k l0_0 l0_1 l0_2 = some r) :
    Calls Try.prog 5 #[.agg #[.slice A0_0 l0_0.length c0_0, .slice A0_1 l0_1.length c0_1, .slice A0_2 l0_2.length c0_2]] w fun e w' => e = .returned (.bool r) ∧ Below w.heap.size w w' := by
  have hu25 := Try.underlying25
  have HR0_0 := Aside0.mk hr0_0
  have HC0_0 := Aside0.mk hc0_0
  clear hr0_0 hc0_0
  have HR0_1 := Aside0.mk hr0_1
  have HC0_1 := Aside0.mk hc0_1
  clear hr0_1 hc0_1
  have HR0_2 := Aside0.mk hr0_2
  have HC0_2 := Aside0.mk hc0_2
  clear hr0_2 hc0_2
  have HB := Aside0.mk (Below.refl w.heap.size w)
  have H : ((ductuslaw27_alive.f k).bind fun t639 => (if t639 = true then ((ductuslaw27_great.f l0_0 l0_1 l0_2).bind fun t640 => (if t640 = true then (some true) else ((swap_All.f k l0_0 l0_1 l0_2).bind fun bt641 => (if bt641.2 = 0 then ((ductusref26_Controls.f k bt641.1).bind fun t645 => ((ductusref26_Controls.f k l0_0).bind fun t648 => ((ductusref01_Ints.f k t645 t648).bind fun t651 => (if t651 = true then (ductuslaw27_SwapBalance.l0 k bt641.1 0 l0_0 l0_1 l0_2) else (none))))) else (some ((bt641.1.length : Int) == 0)))))) else (none))) = some r := h
  clear h
  replace H := Option.bind_eq_some_iff.mp H
  obtain ⟨t639, A20, H⟩ := H
  replace H : (if t639 = true then ((ductuslaw27_great.f l0_0 l0_1 l0_2).bind fun t640 => (if t640 = true then (some true) else ((swap_All.f k l0_0 l0_1 l0_2).bind fun bt641 => (if bt641.2 = 0 then ((ductusref26_Controls.f k bt641.1).bind fun t645 => ((ductusref26_Controls.f k l0_0).bind fun t648 => ((ductusref01_Ints.f k t645 t648).bind fun t651 => (if t651 = true then (ductuslaw27_SwapBalance.l0 k bt641.1 0 l0_0 l0_1 l0_2) else (none))))) else (some ((bt641.1.length : Int) == 0)))))) else (none)) = some r := H
  have A2 := Aside0.mk A20
  clear A20
  by_cases c3 : t639 = true
  rotate_left
  · replace c3 := Bool.eq_false_iff.mpr c3
    subst c3
    have H1 : (none) = some r := by rw [if_neg (show ¬ (false = true) by decide)] at H; exact H
    clear H
    have H := H1
    clear H1
    exact absurd H (by simp)
  subst c3
  have H1 : ((ductuslaw27_great.f l0_0 l0_1 l0_2).bind fun t640 => (if t640 = true then (some true) else ((swap_All.f k l0_0 l0_1 l0_2).bind fun bt641 => (if bt641.2 = 0 then ((ductusref26_Controls.f k bt641.1).bind fun t645 => ((ductusref26_Controls.f k l0_0).bind fun t648 => ((ductusref01_Ints.f k t645 t648).bind fun t651 => (if t651 = true then (ductuslaw27_SwapBalance.l0 k bt641.1 0 l0_0 l0_1 l0_2) else (none))))) else (some ((bt641.1.length : Int) == 0)))))) = some r := by rw [if_pos rfl] at H; exact H
  clear H
  have H := H1
  clear H1
  replace H := Option.bind_eq_some_iff.mp H
  obtain ⟨t640, A40, H⟩ := H
  replace H : (if t640 = true then (some true) else ((swap_All.f k l0_0 l0_1 l0_2).bind fun bt641 => (if bt641.2 = 0 then ((ductusref26_Controls.f k bt641.1).bind fun t645 => ((ductusref26_Controls.f k l0_0).bind fun t648 => ((ductusref01_Ints.f k t645 t648).bind fun t651 => (if t651 = true then (ductuslaw27_SwapBalance.l0 k bt641.1 0 l0_0 l0_1 l0_2) else (none))))) else (some ((bt641.1.length : Int) == 0))))) = some r := H
  have A4 := Aside0.mk A40
  clear A40
  by_cases c5 : t640 = true
  · subst c5
    have H1 : (some true) = some r := by rw [if_pos rfl] at H; exact H
    clear H
    have H := H1
    clear H1
    obtain rfl := Option.some.inj H
    go_enter Try.func5, Try.ntmps5
    go_wp2_with (first | ((with_reducible refine gate_dst (N := 1) rfl ?_); refine box_event ?hg (N := 1) ?hd (cs := #[.slice A0_0 l0_0.length c0_0, .slice A0_1 l0_1.length c0_1, .slice A0_2 l0_2.length c0_2]) (t := 25) ?hr ?_; (case hd => rfl); (case hg => rfl); (case hr => first | (go_simp; done) | (go_simp; rfl)); intro gb638 hg w6 hbox hb; have n0_ := Aside0.mk (below_step (by repeat (first | (with_reducible first | exact HB.out | apply below_alloc | apply pw_below_drewN | apply below_drew1) | exact HB.out)) hb); have n1_ := Aside0.mk (hbox); have n2_ := Aside0.mk ((by rw [hg]; exact (below_size (by repeat (first | (with_reducible first | exact HB.out | apply below_alloc | apply pw_below_drewN | apply below_drew1) | exact HB.out))) : w.heap.size ≤ gb638)); have n3_ := Aside0.mk ((by rw [hg]; exact (below_size (by repeat (first | (with_reducible first | exact HB.out | apply below_alloc | apply pw_below_drewN | apply below_drew1) | exact HB.out))) : w.heap.size ≤ gb638)); clear HB; have HB := n0_; have BK638 := n1_; have GW638 := n2_; have GE638 := n3_; clear n0_ n1_ n2_ n3_; clear hb hbox hg) | ((with_reducible refine gate_callee (f := 8) rfl ?_); refine goesL_ (some 8) rfl rfl Try.func8 (by kernel_rfl) rfl #[] rfl (by (try simp only [List.map_toArray, List.map_cons, List.map_nil]); first | done | rfl | (simp only [List.length_drop, List.length_take]; rfl)) ?_; (with_reducible refine (ductuslaw27_alive.calls k  true _ A2.out).mono ?_); rintro e w7 ⟨rfl, hb⟩; refine ⟨_, rfl, ?_⟩; have n0_ := Aside0.mk (blk_below (g := gb638) (o := .cells #[.slice A0_0 l0_0.length c0_0, .slice A0_1 l0_1.length c0_1, .slice A0_2 l0_2.length c0_2] 25 (0, 0)) (by (with_reducible repeat (first | refine blk_drewN ?_ _ | refine blk_drew ?_ | refine blk_alloc ?_ _)); exact BK638.out) hb); have n1_ := Aside0.mk (below_step (by repeat (first | (with_reducible first | exact HB.out | apply below_alloc | apply pw_below_drewN | apply below_drew1 | refine below_set ?_ GE638.out) | exact HB.out)) hb); clear BK638; clear HB; have BK638 := n0_; have HB := n1_; clear n0_ n1_; (try clear hb); (try clear hb2); (try clear hk); (try clear hi); have hcz8_0 : w7.cell? ⟨gb638, 0, none⟩ = some (.slice A0_0 l0_0.length c0_0) := (blk_cell BK638.out 0).trans rfl; have hcz8_1 : w7.cell? ⟨gb638, 1, none⟩ = some (.slice A0_1 l0_1.length c0_1) := (blk_cell BK638.out 1).trans rfl; have hcz8_2 : w7.cell? ⟨gb638, 2, none⟩ = some (.slice A0_2 l0_2.length c0_2) := (blk_cell BK638.out 2).trans rfl; have hfz8_0 := blk_frozen BK638.out 0; have hfz8_1 := blk_frozen BK638.out 1; have hfz8_2 := blk_frozen BK638.out 2) | ((with_reducible refine gate_callee (f := 9) rfl ?_); refine goesL_ (some 11) rfl rfl Try.func9 (by kernel_rfl) rfl #[.agg #[.slice A0_0 l0_0.length c0_0, .slice A0_1 l0_1.length c0_1, .slice A0_2 l0_2.length c0_2]] rfl (by (try simp only [List.map_toArray, List.map_cons, List.map_nil]); first | done | rfl | (simp only [List.length_drop, List.length_take]; rfl)) ?_; (with_reducible refine (ductuslaw27_great.calls _ _ l0_0 _ _ l0_1 _ _ l0_2 true _ ?side1 ?side2 ?side3 ?side4 ?side5 ?side6 A4.out).mono ?_); (case side1 => repeat (first | exact (Kd.C_below HR0_0.out HB.out) | (with_reducible refine Kd.C_alloc ?_ _) | (with_reducible refine Kd.C_drewN ?_ _) | (with_reducible refine Kd.C_drew ?_))); (case side2 => exact HC0_0.out); (case side3 => repeat (first | exact (Kd.C_below HR0_1.out HB.out) | (with_reducible refine Kd.C_alloc ?_ _) | (with_reducible refine Kd.C_drewN ?_ _) | (with_reducible refine Kd.C_drew ?_))); (case side4 => exact HC0_1.out); (case side5 => repeat (first | exact (Kd.C_below HR0_2.out HB.out) | (with_reducible refine Kd.C_alloc ?_ _) | (with_reducible refine Kd.C_drewN ?_ _) | (with_reducible refine Kd.C_drew ?_))); (case side6 => exact HC0_2.out); rintro e w9 ⟨rfl, hb⟩; refine ⟨_, rfl, ?_⟩; have n0_ := Aside0.mk (blk_below (g := gb638) (o := .cells #[.slice A0_0 l0_0.length c0_0, .slice A0_1 l0_1.length c0_1, .slice A0_2 l0_2.length c0_2] 25 (0, 0)) (by (with_reducible repeat (first | refine blk_drewN ?_ _ | refine blk_drew ?_ | refine blk_alloc ?_ _)); exact BK638.out) hb); have n1_ := Aside0.mk (below_step (by repeat (first | (with_reducible first | exact HB.out | apply below_alloc | apply pw_below_drewN | apply below_drew1 | refine below_set ?_ GE638.out) | exact HB.out)) hb); clear BK638; clear HB; have BK638 := n0_; have HB := n1_; clear n0_ n1_; (try clear hb); (try clear hb2); (try clear hk); (try clear hi)))
    go_ret
    exact ⟨by first | rfl | (simp [errW_none, errW_some] <;> rfl) | (simp [*, errW_none, errW_some] <;> rfl), by repeat (first | (with_reducible first | exact HB.out | apply below_alloc | apply pw_below_drewN | apply below_drew1 | refine below_set ?_ GE638.out) | exact HB.out)⟩
  replace c5 := Bool.eq_false_iff.mpr c5
  subst c5
  have H1 : ((swap_All.f k l0_0 l0_1 l0_2).bind fun bt641 => (if bt641.2 = 0 then ((ductusref26_Controls.f k bt641.1).bind fun t645 => ((ductusref26_Controls.f k l0_0).bind fun t648 => ((ductusref01_Ints.f k t645 t648).bind fun t651 => (if t651 = true then (ductuslaw27_SwapBalance.l0 k bt641.1 0 l0_0 l0_1 l0_2) else (none))))) else (some ((bt641.1.length : Int) == 0)))) = some r := by rw [if_neg (show ¬ (false = true) by decide)] at H; exact H
  clear H
  have H := H1
  clear H1
  replace H := Option.bind_eq_some_iff.mp H
  obtain ⟨⟨t641, t642⟩, A100, H⟩ := H
  replace H : (if t642 = 0 then ((ductusref26_Controls.f k t641).bind fun t645 => ((ductusref26_Controls.f k l0_0).bind fun t648 => ((ductusref01_Ints.f k t645 t648).bind fun t651 => (if t651 = true then (ductuslaw27_SwapBalance.l0 k t641 0 l0_0 l0_1 l0_2) else (none))))) else (some ((t641.length : Int) == 0))) = some r := H
  have A10 := Aside0.mk A100
  clear A100
  by_cases c11 : t642 = 0
  rotate_left
  · rw [if_neg c11] at H
    have c11b0 : (t642 == 0) = false := beq_eq_false_iff_ne.mpr c11
    have c11b1 : (t642 != 0) = true := bne_iff_ne.mpr c11
    obtain rfl := Option.some.inj H
    go_enter Try.func5, Try.ntmps5
    go_wp2_with (first | ((with_reducible refine gate_dst (N := 1) rfl ?_); refine box_event ?hg (N := 1) ?hd (cs := #[.slice A0_0 l0_0.length c0_0, .slice A0_1 l0_1.length c0_1, .slice A0_2 l0_2.length c0_2]) (t := 25) ?hr ?_; (case hd => rfl); (case hg => rfl); (case hr => first | (go_simp; done) | (go_simp; rfl)); intro gb638 hg w49 hbox hb; have n0_ := Aside0.mk (below_step (by repeat (first | (with_reducible first | exact HB.out | apply below_alloc | apply pw_below_drewN | apply below_drew1) | exact HB.out)) hb); have n1_ := Aside0.mk (hbox); have n2_ := Aside0.mk ((by rw [hg]; exact (below_size (by repeat (first | (with_reducible first | exact HB.out | apply below_alloc | apply pw_below_drewN | apply below_drew1) | exact HB.out))) : w.heap.size ≤ gb638)); have n3_ := Aside0.mk ((by rw [hg]; exact (below_size (by repeat (first | (with_reducible first | exact HB.out | apply below_alloc | apply pw_below_drewN | apply below_drew1) | exact HB.out))) : w.heap.size ≤ gb638)); clear HB; have HB := n0_; have BK638 := n1_; have GW638 := n2_; have GE638 := n3_; clear n0_ n1_ n2_ n3_; clear hb hbox hg) | ((with_reducible refine gate_callee (f := 8) rfl ?_); refine goesL_ (some 8) rfl rfl Try.func8 (by kernel_rfl) rfl #[] rfl (by (try simp only [List.map_toArray, List.map_cons, List.map_nil]); first | done | rfl | (simp only [List.length_drop, List.length_take]; rfl)) ?_; (with_reducible refine (ductuslaw27_alive.calls k  true _ A2.out).mono ?_); rintro e w50 ⟨rfl, hb⟩; refine ⟨_, rfl, ?_⟩; have n0_ := Aside0.mk (blk_below (g := gb638) (o := .cells #[.slice A0_0 l0_0.length c0_0, .slice A0_1 l0_1.length c0_1, .slice A0_2 l0_2.length c0_2] 25 (0, 0)) (by (with_reducible repeat (first | refine blk_drewN ?_ _ | refine blk_drew ?_ | refine blk_alloc ?_ _)); exact BK638.out) hb); have n1_ := Aside0.mk (below_step (by repeat (first | (with_reducible first | exact HB.out | apply below_alloc | apply pw_below_drewN | apply below_drew1 | refine below_set ?_ GE638.out) | exact HB.out)) hb); clear BK638; clear HB; have BK638 := n0_; have HB := n1_; clear n0_ n1_; (try clear hb); (try clear hb2); (try clear hk); (try clear hi); have hcz51_0 : w50.cell? ⟨gb638, 0, none⟩ = some (.slice A0_0 l0_0.length c0_0) := (blk_cell BK638.out 0).trans rfl; have hcz51_1 : w50.cell? ⟨gb638, 1, none⟩ = some (.slice A0_1 l0_1.length c0_1) := (blk_cell BK638.out 1).trans rfl; have hcz51_2 : w50.cell? ⟨gb638, 2, none⟩ = some (.slice A0_2 l0_2.length c0_2) := (blk_cell BK638.out 2).trans rfl; have hfz51_0 := blk_frozen BK638.out 0; have hfz51_1 := blk_frozen BK638.out 1; have hfz51_2 := blk_frozen BK638.out 2) | ((with_reducible refine gate_callee (f := 9) rfl ?_); refine goesL_ (some 11) rfl rfl Try.func9 (by kernel_rfl) rfl #[.agg #[.slice A0_0 l0_0.length c0_0, .slice A0_1 l0_1.length c0_1, .slice A0_2 l0_2.length c0_2]] rfl (by (try simp only [List.map_toArray, List.map_cons, List.map_nil]); first | done | rfl | (simp only [List.length_drop, List.length_take]; rfl)) ?_; (with_reducible refine (ductuslaw27_great.calls _ _ l0_0 _ _ l0_1 _ _ l0_2 false _ ?side1 ?side2 ?side3 ?side4 ?side5 ?side6 A4.out).mono ?_); (case side1 => repeat (first | exact (Kd.C_below HR0_0.out HB.out) | (with_reducible refine Kd.C_alloc ?_ _) | (with_reducible refine Kd.C_drewN ?_ _) | (with_reducible refine Kd.C_drew ?_))); (case side2 => exact HC0_0.out); (case side3 => repeat (first | exact (Kd.C_below HR0_1.out HB.out) | (with_reducible refine Kd.C_alloc ?_ _) | (with_reducible refine Kd.C_drewN ?_ _) | (with_reducible refine Kd.C_drew ?_))); (case side4 => exact HC0_1.out); (case side5 => repeat (first | exact (Kd.C_below HR0_2.out HB.out) | (with_reducible refine Kd.C_alloc ?_ _) | (with_reducible refine Kd.C_drewN ?_ _) | (with_reducible refine Kd.C_drew ?_))); (case side6 => exact HC0_2.out); rintro e w52 ⟨rfl, hb⟩; refine ⟨_, rfl, ?_⟩; have n0_ := Aside0.mk (blk_below (g := gb638) (o := .cells #[.slice A0_0 l0_0.length c0_0, .slice A0_1 l0_1.length c0_1, .slice A0_2 l0_2.length c0_2] 25 (0, 0)) (by (with_reducible repeat (first | refine blk_drewN ?_ _ | refine blk_drew ?_ | refine blk_alloc ?_ _)); exact BK638.out) hb); have n1_ := Aside0.mk (below_step (by repeat (first | (with_reducible first | exact HB.out | apply below_alloc | apply pw_below_drewN | apply below_drew1 | refine below_set ?_ GE638.out) | exact HB.out)) hb); clear BK638; clear HB; have BK638 := n0_; have HB := n1_; clear n0_ n1_; (try clear hb); (try clear hb2); (try clear hk); (try clear hi); have hcz53_0 : w52.cell? ⟨gb638, 0, none⟩ = some (.slice A0_0 l0_0.length c0_0) := (blk_cell BK638.out 0).trans rfl; have hcz53_1 : w52.cell? ⟨gb638, 1, none⟩ = some (.slice A0_1 l0_1.length c0_1) := (blk_cell BK638.out 1).trans rfl; have hcz53_2 : w52.cell? ⟨gb638, 2, none⟩ = some (.slice A0_2 l0_2.length c0_2) := (blk_cell BK638.out 2).trans rfl; have hfz53_0 := blk_frozen BK638.out 0; have hfz53_1 := blk_frozen BK638.out 1; have hfz53_2 := blk_frozen BK638.out 2) | ((with_reducible refine gate_callee (f := 10) rfl ?_); refine goesL_ (some 19) rfl rfl Try.func10 (by kernel_rfl) rfl #[.slice A0_0 l0_0.length c0_0, .slice A0_1 l0_1.length c0_1, .slice A0_2 l0_2.length c0_2] rfl (by (try simp only [List.map_toArray, List.map_cons, List.map_nil]); first | done | rfl | (simp only [List.length_drop, List.length_take]; rfl)) ?_; (with_reducible refine (swap_All.calls k _ _ l0_0 _ _ l0_1 _ _ l0_2 t641 t642 _ ?side1 ?side2 ?side3 ?side4 ?side5 ?side6 A10.out).mono ?_); (case side1 => repeat (first | exact (Kd.C_below HR0_0.out HB.out) | (with_reducible refine Kd.C_alloc ?_ _) | (with_reducible refine Kd.C_drewN ?_ _) | (with_reducible refine Kd.C_drew ?_))); (case side2 => exact HC0_0.out); (case side3 => repeat (first | exact (Kd.C_below HR0_1.out HB.out) | (with_reducible refine Kd.C_alloc ?_ _) | (with_reducible refine Kd.C_drewN ?_ _) | (with_reducible refine Kd.C_drew ?_))); (case side4 => exact HC0_1.out); (case side5 => repeat (first | exact (Kd.C_below HR0_2.out HB.out) | (with_reducible refine Kd.C_alloc ?_ _) | (with_reducible refine Kd.C_drewN ?_ _) | (with_reducible refine Kd.C_drew ?_))); (case side6 => exact HC0_2.out); rintro e w54 ⟨v643, rfl, ho0, hb⟩; refine ⟨_, rfl, ?_⟩; have n0_ := Aside0.mk (Kd.R_lower ho0 (below_size (by repeat (first | (with_reducible first | exact HB.out | apply below_alloc | apply pw_below_drewN | apply below_drew1 | refine below_set ?_ GE638.out) | exact HB.out)))); have n1_ := Aside0.mk (blk_below (g := gb638) (o := .cells #[.slice A0_0 l0_0.length c0_0, .slice A0_1 l0_1.length c0_1, .slice A0_2 l0_2.length c0_2] 25 (0, 0)) (by (with_reducible repeat (first | refine blk_drewN ?_ _ | refine blk_drew ?_ | refine blk_alloc ?_ _)); exact BK638.out) hb); have n2_ := Aside0.mk (below_step (by repeat (first | (with_reducible first | exact HB.out | apply below_alloc | apply pw_below_drewN | apply below_drew1 | refine below_set ?_ GE638.out) | exact HB.out)) hb); clear BK638; clear HB; have HO644 := n0_; have BK638 := n1_; have HB := n2_; clear n0_ n1_ n2_; (try clear hb); (try clear hb2); (try clear hk); (try clear hi); (try clear ho0); obtain ⟨Ao55, co55, eo55⟩ := Kd.R_slice HO644.out; subst eo55))
    go_ret
    exact ⟨by first | rfl | (simp [errW_none, errW_some] <;> rfl) | (simp [*, errW_none, errW_some] <;> rfl), by repeat (first | (with_reducible first | exact HB.out | apply below_alloc | apply pw_below_drewN | apply below_drew1 | refine below_set ?_ GE638.out) | exact HB.out)⟩
  rw [if_pos c11] at H
  have c11b0 : (t642 == 0) = true := beq_iff_eq.mpr c11
  have c11b1 : (t642 != 0) = false := bne_eq_false_iff_eq.mpr c11
  clear c11
  replace H := Option.bind_eq_some_iff.mp H
  obtain ⟨t645, A120, H⟩ := H
  replace H : ((ductusref26_Controls.f k l0_0).bind fun t648 => ((ductusref01_Ints.f k t645 t648).bind fun t651 => (if t651 = true then (ductuslaw27_SwapBalance.l0 k t641 0 l0_0 l0_1 l0_2) else (none)))) = some r := H
  have A12 := Aside0.mk A120
  clear A120
  replace H := Option.bind_eq_some_iff.mp H
  obtain ⟨t648, A130, H⟩ := H
  replace H : ((ductusref01_Ints.f k t645 t648).bind fun t651 => (if t651 = true then (ductuslaw27_SwapBalance.l0 k t641 0 l0_0 l0_1 l0_2) else (none))) = some r := H
  have A13 := Aside0.mk A130
  clear A130
  replace H := Option.bind_eq_some_iff.mp H
  obtain ⟨t651, A140, H⟩ := H
  replace H : (if t651 = true then (ductuslaw27_SwapBalance.l0 k t641 0 l0_0 l0_1 l0_2) else (none)) = some r := H
  have A14 := Aside0.mk A140
  clear A140
  by_cases c15 : t651 = true
  rotate_left
  · replace c15 := Bool.eq_false_iff.mpr c15
    subst c15
    have H1 : (none) = some r := by rw [if_neg (show ¬ (false = true) by decide)] at H; exact H
    clear H
    have H := H1
    clear H1
    exact absurd H (by simp)
  subst c15
  have H1 : (ductuslaw27_SwapBalance.l0 k t641 0 l0_0 l0_1 l0_2) = some r := by rw [if_pos rfl] at H; exact H
  clear H
  have H := H1
  clear H1
  have H' := Aside0.mk H
  clear H
  go_enter Try.func5, Try.ntmps5
  try go_wp2_with (first | ((with_reducible refine gate_dst (N := 1) rfl ?_); refine box_event ?hg (N := 1) ?hd (cs := #[.slice A0_0 l0_0.length c0_0, .slice A0_1 l0_1.length c0_1, .slice A0_2 l0_2.length c0_2]) (t := 25) ?hr ?_; (case hd => rfl); (case hg => rfl); (case hr => first | (go_simp; done) | (go_simp; rfl)); intro gb638 hg w16 hbox hb; have n0_ := Aside0.mk (below_step (by repeat (first | (with_reducible first | exact HB.out | apply below_alloc | apply pw_below_drewN | apply below_drew1) | exact HB.out)) hb); have n1_ := Aside0.mk (hbox); have n2_ := Aside0.mk ((by rw [hg]; exact (below_size (by repeat (first | (with_reducible first | exact HB.out | apply below_alloc | apply pw_below_drewN | apply below_drew1) | exact HB.out))) : w.heap.size ≤ gb638)); have n3_ := Aside0.mk ((by rw [hg]; exact (below_size (by repeat (first | (with_reducible first | exact HB.out | apply below_alloc | apply pw_below_drewN | apply below_drew1) | exact HB.out))) : w.heap.size ≤ gb638)); clear HB; have HB := n0_; have BK638 := n1_; have GW638 := n2_; have GE638 := n3_; clear n0_ n1_ n2_ n3_; clear hb hbox hg) | ((with_reducible refine gate_callee (f := 8) rfl ?_); refine goesL_ (some 8) rfl rfl Try.func8 (by kernel_rfl) rfl #[] rfl (by (try simp only [List.map_toArray, List.map_cons, List.map_nil]); first | done | rfl | (simp only [List.length_drop, List.length_take]; rfl)) ?_; (with_reducible refine (ductuslaw27_alive.calls k  true _ A2.out).mono ?_); rintro e w17 ⟨rfl, hb⟩; refine ⟨_, rfl, ?_⟩; have n0_ := Aside0.mk (blk_below (g := gb638) (o := .cells #[.slice A0_0 l0_0.length c0_0, .slice A0_1 l0_1.length c0_1, .slice A0_2 l0_2.length c0_2] 25 (0, 0)) (by (with_reducible repeat (first | refine blk_drewN ?_ _ | refine blk_drew ?_ | refine blk_alloc ?_ _)); exact BK638.out) hb); have n1_ := Aside0.mk (below_step (by repeat (first | (with_reducible first | exact HB.out | apply below_alloc | apply pw_below_drewN | apply below_drew1 | refine below_set ?_ GE638.out) | exact HB.out)) hb); clear BK638; clear HB; have BK638 := n0_; have HB := n1_; clear n0_ n1_; (try clear hb); (try clear hb2); (try clear hk); (try clear hi); have hcz18_0 : w17.cell? ⟨gb638, 0, none⟩ = some (.slice A0_0 l0_0.length c0_0) := (blk_cell BK638.out 0).trans rfl; have hcz18_1 : w17.cell? ⟨gb638, 1, none⟩ = some (.slice A0_1 l0_1.length c0_1) := (blk_cell BK638.out 1).trans rfl; have hcz18_2 : w17.cell? ⟨gb638, 2, none⟩ = some (.slice A0_2 l0_2.length c0_2) := (blk_cell BK638.out 2).trans rfl; have hfz18_0 := blk_frozen BK638.out 0; have hfz18_1 := blk_frozen BK638.out 1; have hfz18_2 := blk_frozen BK638.out 2) | ((with_reducible refine gate_callee (f := 9) rfl ?_); refine goesL_ (some 11) rfl rfl Try.func9 (by kernel_rfl) rfl #[.agg #[.slice A0_0 l0_0.length c0_0, .slice A0_1 l0_1.length c0_1, .slice A0_2 l0_2.length c0_2]] rfl (by (try simp only [List.map_toArray, List.map_cons, List.map_nil]); first | done | rfl | (simp only [List.length_drop, List.length_take]; rfl)) ?_; (with_reducible refine (ductuslaw27_great.calls _ _ l0_0 _ _ l0_1 _ _ l0_2 false _ ?side1 ?side2 ?side3 ?side4 ?side5 ?side6 A4.out).mono ?_); (case side1 => repeat (first | exact (Kd.C_below HR0_0.out HB.out) | (with_reducible refine Kd.C_alloc ?_ _) | (with_reducible refine Kd.C_drewN ?_ _) | (with_reducible refine Kd.C_drew ?_))); (case side2 => exact HC0_0.out); (case side3 => repeat (first | exact (Kd.C_below HR0_1.out HB.out) | (with_reducible refine Kd.C_alloc ?_ _) | (with_reducible refine Kd.C_drewN ?_ _) | (with_reducible refine Kd.C_drew ?_))); (case side4 => exact HC0_1.out); (case side5 => repeat (first | exact (Kd.C_below HR0_2.out HB.out) | (with_reducible refine Kd.C_alloc ?_ _) | (with_reducible refine Kd.C_drewN ?_ _) | (with_reducible refine Kd.C_drew ?_))); (case side6 => exact HC0_2.out); rintro e w19 ⟨rfl, hb⟩; refine ⟨_, rfl, ?_⟩; have n0_ := Aside0.mk (blk_below (g := gb638) (o := .cells #[.slice A0_0 l0_0.length c0_0, .slice A0_1 l0_1.length c0_1, .slice A0_2 l0_2.length c0_2] 25 (0, 0)) (by (with_reducible repeat (first | refine blk_drewN ?_ _ | refine blk_drew ?_ | refine blk_alloc ?_ _)); exact BK638.out) hb); have n1_ := Aside0.mk (below_step (by repeat (first | (with_reducible first | exact HB.out | apply below_alloc | apply pw_below_drewN | apply below_drew1 | refine below_set ?_ GE638.out) | exact HB.out)) hb); clear BK638; clear HB; have BK638 := n0_; have HB := n1_; clear n0_ n1_; (try clear hb); (try clear hb2); (try clear hk); (try clear hi); have hcz20_0 : w19.cell? ⟨gb638, 0, none⟩ = some (.slice A0_0 l0_0.length c0_0) := (blk_cell BK638.out 0).trans rfl; have hcz20_1 : w19.cell? ⟨gb638, 1, none⟩ = some (.slice A0_1 l0_1.length c0_1) := (blk_cell BK638.out 1).trans rfl; have hcz20_2 : w19.cell? ⟨gb638, 2, none⟩ = some (.slice A0_2 l0_2.length c0_2) := (blk_cell BK638.out 2).trans rfl; have hfz20_0 := blk_frozen BK638.out 0; have hfz20_1 := blk_frozen BK638.out 1; have hfz20_2 := blk_frozen BK638.out 2) | ((with_reducible refine gate_callee (f := 10) rfl ?_); refine goesL_ (some 19) rfl rfl Try.func10 (by kernel_rfl) rfl #[.slice A0_0 l0_0.length c0_0, .slice A0_1 l0_1.length c0_1, .slice A0_2 l0_2.length c0_2] rfl (by (try simp only [List.map_toArray, List.map_cons, List.map_nil]); first | done | rfl | (simp only [List.length_drop, List.length_take]; rfl)) ?_; (with_reducible refine (swap_All.calls k _ _ l0_0 _ _ l0_1 _ _ l0_2 t641 t642 _ ?side1 ?side2 ?side3 ?side4 ?side5 ?side6 A10.out).mono ?_); (case side1 => repeat (first | exact (Kd.C_below HR0_0.out HB.out) | (with_reducible refine Kd.C_alloc ?_ _) | (with_reducible refine Kd.C_drewN ?_ _) | (with_reducible refine Kd.C_drew ?_))); (case side2 => exact HC0_0.out); (case side3 => repeat (first | exact (Kd.C_below HR0_1.out HB.out) | (with_reducible refine Kd.C_alloc ?_ _) | (with_reducible refine Kd.C_drewN ?_ _) | (with_reducible refine Kd.C_drew ?_))); (case side4 => exact HC0_1.out); (case side5 => repeat (first | exact (Kd.C_below HR0_2.out HB.out) | (with_reducible refine Kd.C_alloc ?_ _) | (with_reducible refine Kd.C_drewN ?_ _) | (with_reducible refine Kd.C_drew ?_))); (case side6 => exact HC0_2.out); rintro e w21 ⟨v643, rfl, ho0, hb⟩; refine ⟨_, rfl, ?_⟩; have n0_ := Aside0.mk (Kd.R_lower ho0 (below_size (by repeat (first | (with_reducible first | exact HB.out | apply below_alloc | apply pw_below_drewN | apply below_drew1 | refine below_set ?_ GE638.out) | exact HB.out)))); have n1_ := Aside0.mk (blk_below (g := gb638) (o := .cells #[.slice A0_0 l0_0.length c0_0, .slice A0_1 l0_1.length c0_1, .slice A0_2 l0_2.length c0_2] 25 (0, 0)) (by (with_reducible repeat (first | refine blk_drewN ?_ _ | refine blk_drew ?_ | refine blk_alloc ?_ _)); exact BK638.out) hb); have n2_ := Aside0.mk (below_step (by repeat (first | (with_reducible first | exact HB.out | apply below_alloc | apply pw_below_drewN | apply below_drew1 | refine below_set ?_ GE638.out) | exact HB.out)) hb); clear BK638; clear HB; have HO644 := n0_; have BK638 := n1_; have HB := n2_; clear n0_ n1_ n2_; (try clear hb); (try clear hb2); (try clear hk); (try clear hi); (try clear ho0)))
  have n0_ := Aside0.mk (Kd.R_drew HO644.out)
  have n1_ := Aside0.mk (blk_drew BK638.out)
  have n2_ := Aside0.mk (below_drew1 HB.out)
  clear HO644
  clear BK638
  clear HB
  have HO644 := n0_
  have BK638 := n1_
  have HB := n2_
  clear n0_ n1_ n2_
  obtain ⟨Ao23, co23, eo23⟩ := Kd.R_slice HO644.out
  (first | subst eo23 | (injection eo23 with f1_ f2_ f3_; have f4_ := f1_.symm; have f5_ := f3_.symm; clear f1_ f2_ f3_; subst f4_; subst f5_))
  refine start_ (n := 7) (S := fun w' => w'.cell? ⟨gb638, 0, none⟩ = some (.slice A0_0 l0_0.length c0_0) ∧ w'.cell? ⟨gb638, 1, none⟩ = some (.slice A0_1 l0_1.length c0_1) ∧ w'.cell? ⟨gb638, 2, none⟩ = some (.slice A0_2 l0_2.length c0_2)) (ds := []) #[false, false, false, false, false, false, false] (by kernel_rfl) rfl rfl ⟨(blk_cell BK638.out 0).trans rfl, (blk_cell BK638.out 1).trans rfl, (blk_cell BK638.out 2).trans rfl⟩ (fun hHeld => ?_)
  generalize w21.drew = w22 at HO644 BK638 HB hHeld ⊢
  refine pure_ (i := 0) (N := some 27) (v := ?_) (a' := ?_) #[true, false, false, false, false, false, false] rfl rfl (by kernel_rfl) (fun _ _ _ h => h) (Or.inl ⟨by rfl, ?_⟩) ?_ ?_
  rotate_left
  · intro w'
    go_simp
    with_reducible rfl
  rotate_left
  · simp only [Act.put, List.setIfInBounds_toArray, List.set_cons_zero, List.set_cons_succ, i64_w, i32_w]
    rfl
  refine pure_ (i := 2) (N := some 29) (v := ?_) (a' := ?_) #[true, false, true, false, false, false, false] rfl rfl (by kernel_rfl) (fun _ _ _ h => h) (Or.inl ⟨by rfl, ?_⟩) ?_ ?_
  rotate_left
  · intro w'
    go_simp
    with_reducible rfl
  rotate_left
  · simp only [Act.put, List.setIfInBounds_toArray, List.set_cons_zero, List.set_cons_succ, i64_w, i32_w]
    rfl
  refine take_ (i := 3) (N := some 30) (v := ?_) (a' := ?_) #[true, false, true, true, false, false, false] rfl rfl (by kernel_rfl) (fun _ _ _ h => h) (Or.inl ⟨by rfl, ?_⟩) hHeld ?_ ?_
  rotate_left
  · rintro w' ⟨s0, s1, s2⟩
    go_simp
    with_reducible rfl
  rotate_left
  · simp only [Act.put, List.setIfInBounds_toArray, List.set_cons_zero, List.set_cons_succ, i64_w, i32_w]
    rfl
  refine one_ (i := 1) (N := some 28) #[true, true, true, true, false, false, false] rfl rfl (by kernel_rfl) (by decide) (fun K hK => ?_)
  refine goes_ Try.func20 (by kernel_rfl) rfl #[.slice Ao23 t641.length co23] (by rfl) rfl rfl (by (try simp only [List.map_toArray, List.map_cons, List.map_nil]); first | done | rfl | (simp only [List.length_drop, List.length_take]; rfl)) ?_
  with_reducible refine (ductusref26_Controls.calls k _ _ t641 t645 _ ?side1 ?side2 A12.out).mono ?_
  (case side1 => repeat (first | exact (Kd.R_reads' HO644.out).2.2 | (with_reducible refine Kd.C_alloc ?_ _) | (with_reducible refine Kd.C_drewN ?_ _) | (with_reducible refine Kd.C_drew ?_)))
  (case side2 => exact (Kd.R_reads' HO644.out).2.1)
  rintro e w24 ⟨v646, rfl, ho0, hb⟩
  refine ⟨_, rfl, ?_⟩
  have n0_ := Aside0.mk (Kd.R_elder' (by (with_reducible repeat (first | apply Kd.R_alloc | apply Kd.R_drewN | apply Kd.R_drew)); exact HO644.out) (Kd.R_base ho0) hb)
  have n1_ := Aside0.mk (Kd.R_lower (Kd.R_new' ho0 (Kd.R_lt (by (with_reducible repeat (first | apply Kd.R_alloc | apply Kd.R_drewN | apply Kd.R_drew)); exact HO644.out))) (below_size (by repeat (first | (with_reducible first | exact HB.out | apply below_alloc | apply pw_below_drewN | apply below_drew1 | refine below_set ?_ GE638.out) | exact HB.out))))
  have n2_ := Aside0.mk (blk_below (g := gb638) (o := .cells #[.slice A0_0 l0_0.length c0_0, .slice A0_1 l0_1.length c0_1, .slice A0_2 l0_2.length c0_2] 25 (0, 0)) (by (with_reducible repeat (first | refine blk_drewN ?_ _ | refine blk_drew ?_ | refine blk_alloc ?_ _)); exact BK638.out) hb)
  have n3_ := Aside0.mk (below_step (by repeat (first | (with_reducible first | exact HB.out | apply below_alloc | apply pw_below_drewN | apply below_drew1 | refine below_set ?_ GE638.out) | exact HB.out)) hb)
  clear HO644
  clear BK638
  clear HB
  have HO644 := n0_
  have HO647 := n1_
  have BK638 := n2_
  have HB := n3_
  clear n0_ n1_ n2_ n3_
  (try clear hb)
  (try clear hb2)
  (try clear hk)
  (try clear hi)
  (try clear ho0)
  refine hK.out _ _ ⟨(blk_cell BK638.out 0).trans rfl, (blk_cell BK638.out 1).trans rfl, (blk_cell BK638.out 2).trans rfl⟩ (fun hHeld => ?_)
  clear hK K
  refine norm_ (a' := ?_) ?_ ?_
  rotate_left
  · show Act.put _ (some 28) _ = _
    simp only [Act.put, List.setIfInBounds_toArray, List.set_cons_zero, List.set_cons_succ, i64_w, i32_w]
    rfl
  refine one_ (i := 4) (N := some 31) #[true, true, true, true, true, false, false] rfl rfl (by kernel_rfl) (by decide) (fun K hK => ?_)
  refine goes_ Try.func20 (by kernel_rfl) rfl #[.slice A0_0 l0_0.length c0_0] (by rfl) rfl rfl (by (try simp only [List.map_toArray, List.map_cons, List.map_nil]); first | done | rfl | (simp only [List.length_drop, List.length_take]; rfl)) ?_
  with_reducible refine (ductusref26_Controls.calls k _ _ l0_0 t648 _ ?side1 ?side2 A13.out).mono ?_
  (case side1 => repeat (first | exact (Kd.C_below HR0_0.out HB.out) | (with_reducible refine Kd.C_alloc ?_ _) | (with_reducible refine Kd.C_drewN ?_ _) | (with_reducible refine Kd.C_drew ?_)))
  (case side2 => exact HC0_0.out)
  rintro e w25 ⟨v649, rfl, ho0, hb⟩
  refine ⟨_, rfl, ?_⟩
  have n0_ := Aside0.mk (Kd.R_elder' (by (with_reducible repeat (first | apply Kd.R_alloc | apply Kd.R_drewN | apply Kd.R_drew)); exact HO644.out) (Kd.R_base ho0) hb)
  have n1_ := Aside0.mk (Kd.R_elder' (by (with_reducible repeat (first | apply Kd.R_alloc | apply Kd.R_drewN | apply Kd.R_drew)); exact HO647.out) (Kd.R_base ho0) hb)
  have n2_ := Aside0.mk (Kd.R_lower (Kd.R_new' (Kd.R_new' ho0 (Kd.R_lt (by (with_reducible repeat (first | apply Kd.R_alloc | apply Kd.R_drewN | apply Kd.R_drew)); exact HO644.out))) (Kd.R_lt (by (with_reducible repeat (first | apply Kd.R_alloc | apply Kd.R_drewN | apply Kd.R_drew)); exact HO647.out))) (below_size (by repeat (first | (with_reducible first | exact HB.out | apply below_alloc | apply pw_below_drewN | apply below_drew1 | refine below_set ?_ GE638.out) | exact HB.out))))
  have n3_ := Aside0.mk (blk_below (g := gb638) (o := .cells #[.slice A0_0 l0_0.length c0_0, .slice A0_1 l0_1.length c0_1, .slice A0_2 l0_2.length c0_2] 25 (0, 0)) (by (with_reducible repeat (first | refine blk_drewN ?_ _ | refine blk_drew ?_ | refine blk_alloc ?_ _)); exact BK638.out) hb)
  have n4_ := Aside0.mk (below_step (by repeat (first | (with_reducible first | exact HB.out | apply below_alloc | apply pw_below_drewN | apply below_drew1 | refine below_set ?_ GE638.out) | exact HB.out)) hb)
  clear HO644
  clear HO647
  clear BK638
  clear HB
  have HO644 := n0_
  have HO647 := n1_
  have HO650 := n2_
  have BK638 := n3_
  have HB := n4_
  clear n0_ n1_ n2_ n3_ n4_
  (try clear hb)
  (try clear hb2)
  (try clear hk)
  (try clear hi)
  (try clear ho0)
  obtain ⟨Ao26, co26, eo26⟩ := Kd.R_slice HO647.out
  (first | subst eo26 | (injection eo26 with f1_ f2_ f3_; have f4_ := f1_.symm; have f5_ := f3_.symm; clear f1_ f2_ f3_; subst f4_; subst f5_))
  obtain ⟨Ao27, co27, eo27⟩ := Kd.R_slice HO650.out
  (first | subst eo27 | (injection eo27 with f1_ f2_ f3_; have f4_ := f1_.symm; have f5_ := f3_.symm; clear f1_ f2_ f3_; subst f4_; subst f5_))
  refine hK.out _ _ ⟨(blk_cell BK638.out 0).trans rfl, (blk_cell BK638.out 1).trans rfl, (blk_cell BK638.out 2).trans rfl⟩ (fun hHeld => ?_)
  clear hK K
  refine norm_ (a' := ?_) ?_ ?_
  rotate_left
  · show Act.put _ (some 31) _ = _
    simp only [Act.put, List.setIfInBounds_toArray, List.set_cons_zero, List.set_cons_succ, i64_w, i32_w]
    rfl
  refine one_ (i := 5) (N := some 32) #[true, true, true, true, true, true, false] rfl rfl (by kernel_rfl) (by decide) (fun K hK => ?_)
  refine goes_ Try.func16 (by kernel_rfl) rfl #[.slice Ao26 t645.length co26, .slice Ao27 t648.length co27] (by rfl) rfl rfl (by (try simp only [List.map_toArray, List.map_cons, List.map_nil]); first | done | rfl | (simp only [List.length_drop, List.length_take]; rfl)) ?_
  with_reducible refine (ductusref01_Ints.calls k _ _ t645 _ _ t648 true _ ?side1 ?side2 ?side3 ?side4 A14.out).mono ?_
  (case side1 => repeat (first | exact (Kd.R_reads' HO647.out).2.2 | (with_reducible refine Kd.C_alloc ?_ _) | (with_reducible refine Kd.C_drewN ?_ _) | (with_reducible refine Kd.C_drew ?_)))
  (case side2 => exact (Kd.R_reads' HO647.out).2.1)
  (case side3 => repeat (first | exact (Kd.R_reads' HO650.out).2.2 | (with_reducible refine Kd.C_alloc ?_ _) | (with_reducible refine Kd.C_drewN ?_ _) | (with_reducible refine Kd.C_drew ?_)))
  (case side4 => exact (Kd.R_reads' HO650.out).2.1)
  rintro e w' ⟨rfl, ⟨nd, rfl⟩⟩
  refine ⟨_, rfl, ?_⟩
  refine hK.out _ _ ⟨(blk_cell BK638.out 0).trans rfl, (blk_cell BK638.out 1).trans rfl, (blk_cell BK638.out 2).trans rfl⟩ (fun hHeld => ?_)
  clear hK K
  refine norm_ (a' := ?_) ?_ ?_
  rotate_left
  · show Act.put _ (some 32) _ = _
    simp only [Act.put, List.setIfInBounds_toArray, List.set_cons_zero, List.set_cons_succ, i64_w, i32_w]
    rfl
  refine pure_ (i := 6) (N := some 33) (v := ?_) (a' := ?_) #[true, true, true, true, true, true, true] rfl rfl (by kernel_rfl) (fun _ _ _ h => h) (Or.inl ⟨by rfl, ?_⟩) ?_ ?_
  rotate_left
  · intro w'
    go_simp
    with_reducible rfl
  rotate_left
  · simp only [Act.put, List.setIfInBounds_toArray, List.set_cons_zero, List.set_cons_succ, i64_w, i32_w]
    rfl
  refine done_ (by kernel_rfl) ?_
  try go_wp2
  go_loopg [5] k (fun kq v5 w' => ∃ (x5_1 : Int), v5 = .int .i64 x5_1 ∧ Aside0 (ductuslaw27_SwapBalance.l0 kq t641 x5_1 l0_0 l0_1 l0_2 = some r) ∧ Aside0 (kq ≤ k) ∧ Aside0 (Kd.R (Kd.int .i64) 3 w' w.heap.size (fun _ => True) (.slice Ao23 t641.length co23) t641) ∧ Aside0 (w'.heap[gb638]? = some (.cells #[(.slice A0_0 l0_0.length c0_0), (.slice A0_1 l0_1.length c0_1), (.slice A0_2 l0_2.length c0_2)] 25 (0, 0))) ∧ Aside0 (Below w.heap.size w w'))
  case atStart => exact ⟨(0), (by first | rfl | (simp; done) | (simp [*]; done)), H', ⟨Nat.le_refl _⟩, ⟨by (with_reducible repeat (first | apply Kd.R_alloc | apply Kd.R_drewN | apply Kd.R_drew)); exact Kd.R_mono HO644.out (fun _ hk => trivial)⟩, ⟨by (with_reducible repeat (first | refine blk_drewN ?_ _ | refine blk_drew ?_ | refine blk_alloc ?_ _)); exact BK638.out⟩, ⟨by repeat (first | (with_reducible first | exact HB.out | apply below_alloc | apply pw_below_drewN | apply below_drew1 | refine below_set ?_ GE638.out) | exact HB.out)⟩⟩
  case round =>
    clear H'
    try clear c1
    try clear c2
    try clear p2
    try clear c3
    try clear c5
    try clear c8
    try clear c9
    try clear c10
    try clear c11
    try clear c11b0
    try clear c11b1
    try clear c15
    try clear c16
    try clear c20
    try clear hcz18_0
    try clear hcz18_1
    try clear hcz18_2
    try clear hcz20_0
    try clear hcz20_1
    try clear hcz20_2
    try clear hcz8_0
    try clear hcz8_1
    try clear hcz8_2
    try clear hfz18_0
    try clear hfz18_1
    try clear hfz18_2
    try clear hfz20_0
    try clear hfz20_1
    try clear hfz20_2
    try clear hfz8_0
    try clear hfz8_1
    try clear hfz8_2
    obtain ⟨x5_1, rfl, HA, HK1, HO_3, BK638, HB⟩ := hrel
    cases gk with
    | zero => exact absurd HA.out (by simp [ductuslaw27_SwapBalance.l0])
    | succ k1 =>
      have H := HA.out
      clear HA
      simp only [ductuslaw27_SwapBalance.l0] at H
      by_cases c28 : x5_1 < (t641.length : Int)
      · rw [if_pos c28] at H
        have c28b0 : decide (x5_1 < (t641.length : Int)) = true := decide_eq_true c28
        clear c28
        by_cases c29 : 0 ≤ x5_1
        rotate_left
        · rw [if_neg c29] at H
          exact absurd H (by simp)
        rw [if_pos c29] at H
        have c29b0 : decide (0 ≤ x5_1) = true := decide_eq_true c29
        clear c29
        replace H := Option.bind_eq_some_iff.mp H
        obtain ⟨t653, A300, H⟩ := H
        replace H : (if t653 = true then (ductuslaw27_SwapBalance.l0 k1 t641 (wrap64 (x5_1 + 1)) l0_0 l0_1 l0_2) else (none)) = some r := H
        have A30 := Aside0.mk A300
        clear A300
        by_cases c31 : t653 = true
        rotate_left
        · replace c31 := Bool.eq_false_iff.mpr c31
          subst c31
          have H1 : (none) = some r := by rw [if_neg (show ¬ (false = true) by decide)] at H; exact H
          clear H
          have H := H1
          clear H1
          exact absurd H (by simp)
        subst c31
        have H1 : (ductuslaw27_SwapBalance.l0 k1 t641 (wrap64 (x5_1 + 1)) l0_0 l0_1 l0_2) = some r := by rw [if_pos rfl] at H; exact H
        clear H
        have H := H1
        clear H1
        have H' := Aside0.mk H
        clear H
        have p652 : 0 ≤ (x5_1 : Int) := of_decide_eq_true (by first | (with_reducible assumption) | assumption)
        have q652 : x5_1 < (t641.length : Int) := of_decide_eq_true (by first | (with_reducible assumption) | assumption)
        obtain ⟨ad652, e652, hx652_0⟩ := Kd.at_int (Kd.R_reads' HO_3.out).2.2 x5_1 p652 q652
        cases e652
        replace p652 := eq_true p652
        replace q652 := eq_true q652
        go_wp2_with (first | ((with_reducible refine gate_callee (f := 21) rfl ?_); refine goesL_ (some 44) rfl rfl Try.func21 (by kernel_rfl) rfl #[.int .i64 (rd t641 x5_1)] rfl (by (try simp only [List.map_toArray, List.map_cons, List.map_nil]); first | done | rfl | (simp only [List.length_drop, List.length_take]; rfl)) ?_; (with_reducible refine (ductusref01_Right.calls (rd t641 x5_1) true _ A30.out).mono ?_); rintro e w' ⟨rfl, ⟨nd, rfl⟩⟩; refine ⟨_, rfl, ?_⟩))
        go_roundg k1
        case measure => have := HK1.out; omega
        case rel => exact ⟨(wrap64 (x5_1 + 1)), (by first | rfl | (simp; done) | (simp [*]; done)), H', ⟨by have := HK1.out; omega⟩, ⟨by (with_reducible repeat (first | apply Kd.R_alloc | apply Kd.R_drewN | apply Kd.R_drew)); exact HO_3.out⟩, ⟨by (with_reducible repeat (first | refine blk_drewN ?_ _ | refine blk_drew ?_ | refine blk_alloc ?_ _)); exact BK638.out⟩, ⟨by repeat (first | (with_reducible first | exact HB.out | apply below_alloc | apply pw_below_drewN | apply below_drew1 | refine below_set ?_ GE638.out) | exact HB.out)⟩⟩
      rw [if_neg c28] at H
      have c28b0 : decide (x5_1 < (t641.length : Int)) = false := decide_eq_false c28
      clear c28
      replace H := Option.bind_eq_some_iff.mp H
      obtain ⟨t654, A320, H⟩ := H
      replace H : ((ductuslaw27_bare.f k1 t641).bind fun t657 => ((ductusref26_Right.f k1 t654).bind fun t660 => (if t660 = true then ((ductusref26_Right.f k1 t657).bind fun t661 => (some t661)) else (some true)))) = some r := H
      have A32 := Aside0.mk A320
      clear A320
      replace H := Option.bind_eq_some_iff.mp H
      obtain ⟨t657, A330, H⟩ := H
      replace H : ((ductusref26_Right.f k1 t654).bind fun t660 => (if t660 = true then ((ductusref26_Right.f k1 t657).bind fun t661 => (some t661)) else (some true))) = some r := H
      have A33 := Aside0.mk A330
      clear A330
      replace H := Option.bind_eq_some_iff.mp H
      obtain ⟨t660, A340, H⟩ := H
      replace H : (if t660 = true then ((ductusref26_Right.f k1 t657).bind fun t661 => (some t661)) else (some true)) = some r := H
      have A34 := Aside0.mk A340
      clear A340
      by_cases c35 : t660 = true
      rotate_left
      · replace c35 := Bool.eq_false_iff.mpr c35
        subst c35
        have H1 : (some true) = some r := by rw [if_neg (show ¬ (false = true) by decide)] at H; exact H
        clear H
        have H := H1
        clear H1
        obtain rfl := Option.some.inj H
        have hcz44_0 : wr.cell? ⟨gb638, 0, none⟩ = some (.slice A0_0 l0_0.length c0_0) := (blk_cell BK638.out 0).trans rfl
        have hcz44_1 : wr.cell? ⟨gb638, 1, none⟩ = some (.slice A0_1 l0_1.length c0_1) := (blk_cell BK638.out 1).trans rfl
        have hcz44_2 : wr.cell? ⟨gb638, 2, none⟩ = some (.slice A0_2 l0_2.length c0_2) := (blk_cell BK638.out 2).trans rfl
        have hfz44_0 := blk_frozen BK638.out 0
        have hfz44_1 := blk_frozen BK638.out 1
        have hfz44_2 := blk_frozen BK638.out 2
        go_wp2_with (first | ((with_reducible refine gate_callee (f := 22) rfl ?_); refine goesL_ (some 48) rfl rfl Try.func22 (by kernel_rfl) rfl #[.slice A0_0 l0_0.length c0_0] rfl (by (try simp only [List.map_toArray, List.map_cons, List.map_nil]); first | done | rfl | (simp only [List.length_drop, List.length_take]; rfl)) ?_; (with_reducible refine (ductuslaw27_bare.calls k1 _ _ l0_0 t654 _ ?side1 ?side2 A32.out).mono ?_); (case side1 => repeat (first | exact (Kd.C_below HR0_0.out HB.out) | (with_reducible refine Kd.C_alloc ?_ _) | (with_reducible refine Kd.C_drewN ?_ _) | (with_reducible refine Kd.C_drew ?_))); (case side2 => exact HC0_0.out); rintro e w45 ⟨v655, rfl, ho0, hb⟩; refine ⟨_, rfl, ?_⟩; have n0_ := Aside0.mk (Kd.R_elder' (by (with_reducible repeat (first | apply Kd.R_alloc | apply Kd.R_drewN | apply Kd.R_drew)); exact HO_3.out) (Kd.R_base ho0) hb); have n1_ := Aside0.mk (Kd.R_lower (Kd.R_new' ho0 (Kd.R_lt (by (with_reducible repeat (first | apply Kd.R_alloc | apply Kd.R_drewN | apply Kd.R_drew)); exact HO_3.out))) (below_size (by repeat (first | (with_reducible first | exact HB.out | apply below_alloc | apply pw_below_drewN | apply below_drew1 | refine below_set ?_ GE638.out) | exact HB.out)))); have n2_ := Aside0.mk (blk_below (g := gb638) (o := .cells #[.slice A0_0 l0_0.length c0_0, .slice A0_1 l0_1.length c0_1, .slice A0_2 l0_2.length c0_2] 25 (0, 0)) (by (with_reducible repeat (first | refine blk_drewN ?_ _ | refine blk_drew ?_ | refine blk_alloc ?_ _)); exact BK638.out) hb); have n3_ := Aside0.mk (below_step (by repeat (first | (with_reducible first | exact HB.out | apply below_alloc | apply pw_below_drewN | apply below_drew1 | refine below_set ?_ GE638.out) | exact HB.out)) hb); clear HO_3; clear BK638; clear HB; have HO_3 := n0_; have HO656 := n1_; have BK638 := n2_; have HB := n3_; clear n0_ n1_ n2_ n3_; (try clear hb); (try clear hb2); (try clear hk); (try clear hi); (try clear ho0)) | ((with_reducible refine gate_callee (f := 22) rfl ?_); refine goesL_ (some 50) rfl rfl Try.func22 (by kernel_rfl) rfl #[.slice Ao23 t641.length co23] rfl (by (try simp only [List.map_toArray, List.map_cons, List.map_nil]); first | done | rfl | (simp only [List.length_drop, List.length_take]; rfl)) ?_; (with_reducible refine (ductuslaw27_bare.calls k1 _ _ t641 t657 _ ?side1 ?side2 A33.out).mono ?_); (case side1 => repeat (first | exact (Kd.R_reads' HO_3.out).2.2 | (with_reducible refine Kd.C_alloc ?_ _) | (with_reducible refine Kd.C_drewN ?_ _) | (with_reducible refine Kd.C_drew ?_))); (case side2 => exact (Kd.R_reads' HO_3.out).2.1); rintro e w46 ⟨v658, rfl, ho0, hb⟩; refine ⟨_, rfl, ?_⟩; have n0_ := Aside0.mk (Kd.R_elder' (by (with_reducible repeat (first | apply Kd.R_alloc | apply Kd.R_drewN | apply Kd.R_drew)); exact HO_3.out) (Kd.R_base ho0) hb); have n1_ := Aside0.mk (Kd.R_elder' (by (with_reducible repeat (first | apply Kd.R_alloc | apply Kd.R_drewN | apply Kd.R_drew)); exact HO656.out) (Kd.R_base ho0) hb); have n2_ := Aside0.mk (Kd.R_lower (Kd.R_new' (Kd.R_new' ho0 (Kd.R_lt (by (with_reducible repeat (first | apply Kd.R_alloc | apply Kd.R_drewN | apply Kd.R_drew)); exact HO_3.out))) (Kd.R_lt (by (with_reducible repeat (first | apply Kd.R_alloc | apply Kd.R_drewN | apply Kd.R_drew)); exact HO656.out))) (below_size (by repeat (first | (with_reducible first | exact HB.out | apply below_alloc | apply pw_below_drewN | apply below_drew1 | refine below_set ?_ GE638.out) | exact HB.out)))); have n3_ := Aside0.mk (blk_below (g := gb638) (o := .cells #[.slice A0_0 l0_0.length c0_0, .slice A0_1 l0_1.length c0_1, .slice A0_2 l0_2.length c0_2] 25 (0, 0)) (by (with_reducible repeat (first | refine blk_drewN ?_ _ | refine blk_drew ?_ | refine blk_alloc ?_ _)); exact BK638.out) hb); have n4_ := Aside0.mk (below_step (by repeat (first | (with_reducible first | exact HB.out | apply below_alloc | apply pw_below_drewN | apply below_drew1 | refine below_set ?_ GE638.out) | exact HB.out)) hb); clear HO_3; clear HO656; clear BK638; clear HB; have HO_3 := n0_; have HO656 := n1_; have HO659 := n2_; have BK638 := n3_; have HB := n4_; clear n0_ n1_ n2_ n3_ n4_; (try clear hb); (try clear hb2); (try clear hk); (try clear hi); (try clear ho0); obtain ⟨Ao47, co47, eo47⟩ := Kd.R_slice HO656.out; subst eo47) | ((with_reducible refine gate_callee (f := 23) rfl ?_); refine goesL_ (some 52) rfl rfl Try.func23 (by kernel_rfl) rfl #[.slice Ao47 t654.length co47] rfl (by (try simp only [List.map_toArray, List.map_cons, List.map_nil]); first | done | rfl | (simp only [List.length_drop, List.length_take]; rfl)) ?_; (with_reducible refine (ductusref26_Right.calls k1 _ _ t654 false _ ?side1 ?side2 A34.out).mono ?_); (case side1 => repeat (first | exact (Kd.R_reads' HO656.out).2.2 | (with_reducible refine Kd.C_alloc ?_ _) | (with_reducible refine Kd.C_drewN ?_ _) | (with_reducible refine Kd.C_drew ?_))); (case side2 => exact (Kd.R_reads' HO656.out).2.1); rintro e w48 ⟨rfl, hb⟩; refine ⟨_, rfl, ?_⟩; have n0_ := Aside0.mk (Kd.R_below (by (with_reducible repeat (first | apply Kd.R_alloc | apply Kd.R_drewN | apply Kd.R_drew)); exact HO_3.out) hb); have n1_ := Aside0.mk (Kd.R_below (by (with_reducible repeat (first | apply Kd.R_alloc | apply Kd.R_drewN | apply Kd.R_drew)); exact HO656.out) hb); have n2_ := Aside0.mk (Kd.R_below (by (with_reducible repeat (first | apply Kd.R_alloc | apply Kd.R_drewN | apply Kd.R_drew)); exact HO659.out) hb); have n3_ := Aside0.mk (blk_below (g := gb638) (o := .cells #[.slice A0_0 l0_0.length c0_0, .slice A0_1 l0_1.length c0_1, .slice A0_2 l0_2.length c0_2] 25 (0, 0)) (by (with_reducible repeat (first | refine blk_drewN ?_ _ | refine blk_drew ?_ | refine blk_alloc ?_ _)); exact BK638.out) hb); have n4_ := Aside0.mk (below_step (by repeat (first | (with_reducible first | exact HB.out | apply below_alloc | apply pw_below_drewN | apply below_drew1 | refine below_set ?_ GE638.out) | exact HB.out)) hb); clear HO_3; clear HO656; clear HO659; clear BK638; clear HB; have HO_3 := n0_; have HO656 := n1_; have HO659 := n2_; have BK638 := n3_; have HB := n4_; clear n0_ n1_ n2_ n3_ n4_; (try clear hb); (try clear hb2); (try clear hk); (try clear hi)))
        go_ret
        exact ⟨by first | rfl | (simp [errW_none, errW_some] <;> rfl) | (simp [*, errW_none, errW_some] <;> rfl), by repeat (first | (with_reducible first | exact HB.out | apply below_alloc | apply pw_below_drewN | apply below_drew1 | refine below_set ?_ GE638.out) | exact HB.out)⟩
      subst c35
      have H1 : ((ductusref26_Right.f k1 t657).bind fun t661 => (some t661)) = some r := by rw [if_pos rfl] at H; exact H
      clear H
      have H := H1
      clear H1
      replace H := Option.bind_eq_some_iff.mp H
      obtain ⟨t661, A360, H⟩ := H
      replace H : (some t661) = some r := H
      have A36 := Aside0.mk A360
      clear A360
      obtain rfl := Option.some.inj H
      have hcz37_0 : wr.cell? ⟨gb638, 0, none⟩ = some (.slice A0_0 l0_0.length c0_0) := (blk_cell BK638.out 0).trans rfl
      have hcz37_1 : wr.cell? ⟨gb638, 1, none⟩ = some (.slice A0_1 l0_1.length c0_1) := (blk_cell BK638.out 1).trans rfl
      have hcz37_2 : wr.cell? ⟨gb638, 2, none⟩ = some (.slice A0_2 l0_2.length c0_2) := (blk_cell BK638.out 2).trans rfl
      have hfz37_0 := blk_frozen BK638.out 0
      have hfz37_1 := blk_frozen BK638.out 1
      have hfz37_2 := blk_frozen BK638.out 2
      go_wp2_with (first | ((with_reducible refine gate_callee (f := 22) rfl ?_); refine goesL_ (some 48) rfl rfl Try.func22 (by kernel_rfl) rfl #[.slice A0_0 l0_0.length c0_0] rfl (by (try simp only [List.map_toArray, List.map_cons, List.map_nil]); first | done | rfl | (simp only [List.length_drop, List.length_take]; rfl)) ?_; (with_reducible refine (ductuslaw27_bare.calls k1 _ _ l0_0 t654 _ ?side1 ?side2 A32.out).mono ?_); (case side1 => repeat (first | exact (Kd.C_below HR0_0.out HB.out) | (with_reducible refine Kd.C_alloc ?_ _) | (with_reducible refine Kd.C_drewN ?_ _) | (with_reducible refine Kd.C_drew ?_))); (case side2 => exact HC0_0.out); rintro e w38 ⟨v655, rfl, ho0, hb⟩; refine ⟨_, rfl, ?_⟩; have n0_ := Aside0.mk (Kd.R_elder' (by (with_reducible repeat (first | apply Kd.R_alloc | apply Kd.R_drewN | apply Kd.R_drew)); exact HO_3.out) (Kd.R_base ho0) hb); have n1_ := Aside0.mk (Kd.R_lower (Kd.R_new' ho0 (Kd.R_lt (by (with_reducible repeat (first | apply Kd.R_alloc | apply Kd.R_drewN | apply Kd.R_drew)); exact HO_3.out))) (below_size (by repeat (first | (with_reducible first | exact HB.out | apply below_alloc | apply pw_below_drewN | apply below_drew1 | refine below_set ?_ GE638.out) | exact HB.out)))); have n2_ := Aside0.mk (blk_below (g := gb638) (o := .cells #[.slice A0_0 l0_0.length c0_0, .slice A0_1 l0_1.length c0_1, .slice A0_2 l0_2.length c0_2] 25 (0, 0)) (by (with_reducible repeat (first | refine blk_drewN ?_ _ | refine blk_drew ?_ | refine blk_alloc ?_ _)); exact BK638.out) hb); have n3_ := Aside0.mk (below_step (by repeat (first | (with_reducible first | exact HB.out | apply below_alloc | apply pw_below_drewN | apply below_drew1 | refine below_set ?_ GE638.out) | exact HB.out)) hb); clear HO_3; clear BK638; clear HB; have HO_3 := n0_; have HO656 := n1_; have BK638 := n2_; have HB := n3_; clear n0_ n1_ n2_ n3_; (try clear hb); (try clear hb2); (try clear hk); (try clear hi); (try clear ho0)) | ((with_reducible refine gate_callee (f := 22) rfl ?_); refine goesL_ (some 50) rfl rfl Try.func22 (by kernel_rfl) rfl #[.slice Ao23 t641.length co23] rfl (by (try simp only [List.map_toArray, List.map_cons, List.map_nil]); first | done | rfl | (simp only [List.length_drop, List.length_take]; rfl)) ?_; (with_reducible refine (ductuslaw27_bare.calls k1 _ _ t641 t657 _ ?side1 ?side2 A33.out).mono ?_); (case side1 => repeat (first | exact (Kd.R_reads' HO_3.out).2.2 | (with_reducible refine Kd.C_alloc ?_ _) | (with_reducible refine Kd.C_drewN ?_ _) | (with_reducible refine Kd.C_drew ?_))); (case side2 => exact (Kd.R_reads' HO_3.out).2.1); rintro e w39 ⟨v658, rfl, ho0, hb⟩; refine ⟨_, rfl, ?_⟩; have n0_ := Aside0.mk (Kd.R_elder' (by (with_reducible repeat (first | apply Kd.R_alloc | apply Kd.R_drewN | apply Kd.R_drew)); exact HO_3.out) (Kd.R_base ho0) hb); have n1_ := Aside0.mk (Kd.R_elder' (by (with_reducible repeat (first | apply Kd.R_alloc | apply Kd.R_drewN | apply Kd.R_drew)); exact HO656.out) (Kd.R_base ho0) hb); have n2_ := Aside0.mk (Kd.R_lower (Kd.R_new' (Kd.R_new' ho0 (Kd.R_lt (by (with_reducible repeat (first | apply Kd.R_alloc | apply Kd.R_drewN | apply Kd.R_drew)); exact HO_3.out))) (Kd.R_lt (by (with_reducible repeat (first | apply Kd.R_alloc | apply Kd.R_drewN | apply Kd.R_drew)); exact HO656.out))) (below_size (by repeat (first | (with_reducible first | exact HB.out | apply below_alloc | apply pw_below_drewN | apply below_drew1 | refine below_set ?_ GE638.out) | exact HB.out)))); have n3_ := Aside0.mk (blk_below (g := gb638) (o := .cells #[.slice A0_0 l0_0.length c0_0, .slice A0_1 l0_1.length c0_1, .slice A0_2 l0_2.length c0_2] 25 (0, 0)) (by (with_reducible repeat (first | refine blk_drewN ?_ _ | refine blk_drew ?_ | refine blk_alloc ?_ _)); exact BK638.out) hb); have n4_ := Aside0.mk (below_step (by repeat (first | (with_reducible first | exact HB.out | apply below_alloc | apply pw_below_drewN | apply below_drew1 | refine below_set ?_ GE638.out) | exact HB.out)) hb); clear HO_3; clear HO656; clear BK638; clear HB; have HO_3 := n0_; have HO656 := n1_; have HO659 := n2_; have BK638 := n3_; have HB := n4_; clear n0_ n1_ n2_ n3_ n4_; (try clear hb); (try clear hb2); (try clear hk); (try clear hi); (try clear ho0); obtain ⟨Ao40, co40, eo40⟩ := Kd.R_slice HO656.out; subst eo40) | ((with_reducible refine gate_callee (f := 23) rfl ?_); refine goesL_ (some 52) rfl rfl Try.func23 (by kernel_rfl) rfl #[.slice Ao40 t654.length co40] rfl (by (try simp only [List.map_toArray, List.map_cons, List.map_nil]); first | done | rfl | (simp only [List.length_drop, List.length_take]; rfl)) ?_; (with_reducible refine (ductusref26_Right.calls k1 _ _ t654 true _ ?side1 ?side2 A34.out).mono ?_); (case side1 => repeat (first | exact (Kd.R_reads' HO656.out).2.2 | (with_reducible refine Kd.C_alloc ?_ _) | (with_reducible refine Kd.C_drewN ?_ _) | (with_reducible refine Kd.C_drew ?_))); (case side2 => exact (Kd.R_reads' HO656.out).2.1); rintro e w41 ⟨rfl, hb⟩; refine ⟨_, rfl, ?_⟩; have n0_ := Aside0.mk (Kd.R_below (by (with_reducible repeat (first | apply Kd.R_alloc | apply Kd.R_drewN | apply Kd.R_drew)); exact HO_3.out) hb); have n1_ := Aside0.mk (Kd.R_below (by (with_reducible repeat (first | apply Kd.R_alloc | apply Kd.R_drewN | apply Kd.R_drew)); exact HO656.out) hb); have n2_ := Aside0.mk (Kd.R_below (by (with_reducible repeat (first | apply Kd.R_alloc | apply Kd.R_drewN | apply Kd.R_drew)); exact HO659.out) hb); have n3_ := Aside0.mk (blk_below (g := gb638) (o := .cells #[.slice A0_0 l0_0.length c0_0, .slice A0_1 l0_1.length c0_1, .slice A0_2 l0_2.length c0_2] 25 (0, 0)) (by (with_reducible repeat (first | refine blk_drewN ?_ _ | refine blk_drew ?_ | refine blk_alloc ?_ _)); exact BK638.out) hb); have n4_ := Aside0.mk (below_step (by repeat (first | (with_reducible first | exact HB.out | apply below_alloc | apply pw_below_drewN | apply below_drew1 | refine below_set ?_ GE638.out) | exact HB.out)) hb); clear HO_3; clear HO656; clear HO659; clear BK638; clear HB; have HO_3 := n0_; have HO656 := n1_; have HO659 := n2_; have BK638 := n3_; have HB := n4_; clear n0_ n1_ n2_ n3_ n4_; (try clear hb); (try clear hb2); (try clear hk); (try clear hi); obtain ⟨Ao42, co42, eo42⟩ := Kd.R_slice HO659.out; subst eo42) | (go_at_call 23; (with_reducible refine (ductusref26_Right.calls k1 _ _ t657 t661 _ ?side1 ?side2 A36.out).mono ?_); (case side1 => repeat (first | exact (Kd.R_reads' HO659.out).2.2 | (with_reducible refine Kd.C_alloc ?_ _) | (with_reducible refine Kd.C_drewN ?_ _) | (with_reducible refine Kd.C_drew ?_))); (case side2 => exact (Kd.R_reads' HO659.out).2.1); rintro e w43 ⟨rfl, hb⟩; have n0_ := Aside0.mk (Kd.R_below (by (with_reducible repeat (first | apply Kd.R_alloc | apply Kd.R_drewN | apply Kd.R_drew)); exact HO_3.out) hb); have n1_ := Aside0.mk (Kd.R_below (by (with_reducible repeat (first | apply Kd.R_alloc | apply Kd.R_drewN | apply Kd.R_drew)); exact HO656.out) hb); have n2_ := Aside0.mk (Kd.R_below (by (with_reducible repeat (first | apply Kd.R_alloc | apply Kd.R_drewN | apply Kd.R_drew)); exact HO659.out) hb); have n3_ := Aside0.mk (blk_below (g := gb638) (o := .cells #[.slice A0_0 l0_0.length c0_0, .slice A0_1 l0_1.length c0_1, .slice A0_2 l0_2.length c0_2] 25 (0, 0)) (by (with_reducible repeat (first | refine blk_drewN ?_ _ | refine blk_drew ?_ | refine blk_alloc ?_ _)); exact BK638.out) hb); have n4_ := Aside0.mk (below_step (by repeat (first | (with_reducible first | exact HB.out | apply below_alloc | apply pw_below_drewN | apply below_drew1 | refine below_set ?_ GE638.out) | exact HB.out)) hb); clear HO_3; clear HO656; clear HO659; clear BK638; clear HB; have HO_3 := n0_; have HO656 := n1_; have HO659 := n2_; have BK638 := n3_; have HB := n4_; clear n0_ n1_ n2_ n3_ n4_; (try clear hb); (try clear hb2); (try clear hk); (try clear hi)))
      go_ret
      exact ⟨by first | rfl | (simp [errW_none, errW_some] <;> rfl) | (simp [*, errW_none, errW_some] <;> rfl), by repeat (first | (with_reducible first | exact HB.out | apply below_alloc | apply pw_below_drewN | apply below_drew1 | refine below_set ?_ GE638.out) | exact HB.out)⟩

end Go.Proofs.Ythgmkbghdobmlaa.P
namespace Go.Proofs.Ythgmkbghdobmlaa.P
open Go.RowKit Go.Proofs.YthgmkbghdobmlaaW.PrintWords Go.Proofs.YthgmkbghdobmlaaW.PrintLast
set_option linter.unusedVariables false

theorem ints_loop (a b : List Int) (hl : a.length = b.length) (hn : a.length < 9223372036854775807) (d : Nat) : ∀ (k i : Nat), i ≤ a.length → a.length - i = d → d < k →
    ductusref01_Ints.l0 k a b (i : Int) = some (decide (a.drop i = b.drop i)) := by
  induction d with
  | zero =>
    intro k i hi hd hk
    obtain ⟨k, rfl⟩ : ∃ m, k = m + 1 := ⟨k - 1, by omega⟩
    simp only [ductusref01_Ints.l0]
    rw [if_neg (by omega), List.drop_eq_nil_of_le (by omega), List.drop_eq_nil_of_le (by omega)]
    simp
  | succ d ih =>
    intro k i hi hd hk
    obtain ⟨k, rfl⟩ : ∃ m, k = m + 1 := ⟨k - 1, by omega⟩
    simp only [ductusref01_Ints.l0]
    rw [if_pos (by omega), if_pos (by omega), if_pos (by omega), wrap_succ i (by omega), drop_cons a i (by omega), drop_cons b i (by omega)]
    by_cases h : rd a i = rd b i
    · rw [if_pos h, ih k (i + 1) (by omega) (by omega) (by omega), h]
      simp
    · rw [if_neg h]
      simp [h]
theorem ints_eq (k : Nat) (a b : List Int) (hn : a.length < 9223372036854775807) (hk : a.length < k) : ductusref01_Ints.f k a b = some (decide (a = b)) := by
  unfold ductusref01_Ints.f
  by_cases h : a.length = b.length
  · rw [if_pos (by omega)]
    have := ints_loop a b h hn a.length k 0 (by omega) (by omega) hk
    simpa using this
  · rw [if_neg (by omega)]
    have : ¬ a = b := fun e => h (by rw [e])
    simp [this]
theorem ints_same (k : Nat) (a : List Int) (hn : a.length < 9223372036854775807) (hk : a.length < k) : ductusref01_Ints.f k a a = some true := by
  rw [ints_eq k a a hn hk]
  simp

end Go.Proofs.Ythgmkbghdobmlaa.P
namespace Go.Proofs.Ythgmkbghdobmlaa.P
open Go.RowKit Go.Proofs.YthgmkbghdobmlaaW.PrintWords Go.Proofs.YthgmkbghdobmlaaW.PrintLast
set_option linter.unusedVariables false

/-- The places of those that a test lets. -/
def placesOf (p : Int → Bool) : Nat → List Int → List Int
  | _, [] => []
  | i, c :: l => if p c then (i : Int) :: placesOf p (i + 1) l else placesOf p (i + 1) l
theorem places_len (p : Int → Bool) : ∀ (i : Nat) (l : List Int), (placesOf p i l).length = (l.filter p).length
  | _, [] => rfl
  | i, c :: l => by
    simp only [placesOf, List.filter_cons]
    split <;> simp [places_len p (i + 1) l]
theorem places_mem (p : Int → Bool) : ∀ (i : Nat) (l : List Int) (x : Int), x ∈ placesOf p i l → (i : Int) ≤ x ∧ x < ((i + l.length : Nat) : Int)
  | _, [], _, h => by simp [placesOf] at h
  | i, c :: l, x, h => by
    simp only [placesOf] at h
    have h2 : ∀ x ∈ placesOf p (i + 1) l, (i : Int) ≤ x ∧ x < ((i + (l.length + 1) : Nat) : Int) := fun x hx => by
      have := places_mem p (i + 1) l x hx
      omega
    simp only [List.length_cons]
    split at h
    · rcases List.mem_cons.1 h with rfl | h
      · omega
      · exact h2 x h
    · exact h2 x h
theorem places_up (p : Int → Bool) : ∀ (i : Nat) (l : List Int), List.Pairwise (· < ·) (placesOf p i l)
  | _, [] => List.Pairwise.nil
  | i, c :: l => by
    simp only [placesOf]
    split
    · refine List.pairwise_cons.2 ⟨fun x hx => ?_, places_up p (i + 1) l⟩
      have := places_mem p (i + 1) l x hx
      omega
    · exact places_up p (i + 1) l
end Go.Proofs.Ythgmkbghdobmlaa.P
namespace Go.Proofs.Ythgmkbghdobmlaa.P
open Go.RowKit Go.Proofs.YthgmkbghdobmlaaW.PrintWords Go.Proofs.YthgmkbghdobmlaaW.PrintLast Go.Proofs.YthgmkbghdobmlaaW.PrintMore
set_option linter.unusedVariables false
set_option linter.unusedSimpArgs false

def mkeys : List Int := [40, 41, 91, 93, 123, 125, 9001, 9002, 12296, 12297, 12298, 12299, 12300, 12301, 12302, 12303, 12304, 12305, 60, 62, 171, 187, 8804, 8805, 8810, 8811]
def mtbl : List (Int × Int) := [(40, 41), (41, 40), (91, 93), (93, 91), (123, 125), (125, 123), (9001, 9002), (9002, 9001), (12296, 12297), (12297, 12296), (12298, 12299), (12299, 12298), (12300, 12301), (12301, 12300), (12302, 12303), (12303, 12302), (12304, 12305), (12305, 12304), (60, 62), (62, 60), (171, 187), (187, 171), (8804, 8805), (8805, 8804), (8810, 8811), (8811, 8810)]
/-- What a character is mirrored into. -/
def mir (c : Int) : Int := match mtbl.find? (fun p => p.1 == c) with
  | some p => p.2
  | none => c
theorem mir_out {c : Int} (h : c ∉ mkeys) : mir c = c := by
  have hn : mtbl.find? (fun p => p.1 == c) = none := by
    rw [List.find?_eq_none]
    intro p hp he
    simp only [beq_iff_eq] at he
    have hk : ∀ p ∈ mtbl, p.1 ∈ mkeys := by decide
    exact h (he ▸ hk p hp)
  unfold mir
  rw [hn]
theorem ans_out {c : Int} (h : c ∉ mkeys) : pair_Other.ans c = (0, false, false) := by
  have h1 : pair_Other.up c = none := by
    unfold pair_Other.up
    rw [List.find?_eq_none]
    intro p hp he
    simp only [beq_iff_eq] at he
    have hk : ∀ p ∈ pair_Other.tbl, p.1 ∈ mkeys := by decide
    exact h (he ▸ hk p hp)
  have h2 : pair_Other.down c = none := by
    unfold pair_Other.down
    rw [List.find?_eq_none]
    intro p hp he
    simp only [beq_iff_eq] at he
    have hk : ∀ p ∈ pair_Other.tbl, p.2 ∈ mkeys := by decide
    exact h (he ▸ hk p hp)
  unfold pair_Other.ans
  rw [h1, h2]
/-- What holds of every one in the table, and of all that are none, holds. -/
theorem by_keys (P : Int → Prop) (hin : ∀ c ∈ mkeys, P c) (hout : ∀ c, c ∉ mkeys → P c) (c : Int) : P c := by
  by_cases h : c ∈ mkeys
  · exact hin c h
  · exact hout c h
theorem mirror_eq0 (c : Int) : pair_Mirror.f 4 c = some (mir c) := by
  revert c
  refine by_keys _ (by decide +kernel) fun c h => ?_
  have ho := ans_out h
  rw [mir_out h]
  simp only [mkeys, List.mem_cons, List.not_mem_nil, or_false, not_or] at h
  simp [pair_Mirror.f, pair_Mirror.j0, pair_Mirror.j1, pair_Mirror.j2, pair_Other.f, ho, h]
theorem mirror_eq (k : Nat) (hk : 4 ≤ k) (c : Int) : pair_Mirror.f k c = some (mir c) := more (pair_Mirror.mono c) 4 k hk _ (mirror_eq0 c)
end Go.Proofs.Ythgmkbghdobmlaa.P
namespace Go.Proofs.Ythgmkbghdobmlaa.P
open Go.RowKit Go.Proofs.YthgmkbghdobmlaaW.PrintWords Go.Proofs.YthgmkbghdobmlaaW.PrintLast Go.Proofs.YthgmkbghdobmlaaW.PrintMore
set_option linter.unusedVariables false
set_option linter.unusedSimpArgs false

theorem plain_loop (l : List Int) (hn : l.length * 8 ≤ 140737488351232) (d : Nat) : ∀ (k i : Nat) (acc : List Int), i ≤ l.length → l.length - i = d → d + 4 < k → acc.length = i →
    pair_Plain.l0 k acc l (l.length : Int) (i : Int) = some (acc ++ (l.drop i).map fun c => mn c (mir c)) := by
  induction d with
  | zero =>
    intro k i acc hi hd hk ha
    obtain ⟨k, rfl⟩ : ∃ m, k = m + 1 := ⟨k - 1, by omega⟩
    simp only [pair_Plain.l0]
    rw [if_neg (by omega), List.drop_eq_nil_of_le (by omega)]
    simp
  | succ d ih =>
    intro k i acc hi hd hk ha
    obtain ⟨k, rfl⟩ : ∃ m, k = m + 1 := ⟨k - 1, by omega⟩
    simp only [pair_Plain.l0]
    rw [if_pos (by omega), if_pos (by omega), if_pos (by omega), mirror_eq k (by omega)]
    simp only [Option.bind_some]
    rw [if_pos (by omega), wrap_succ i (by omega), ih k (i + 1) _ (by omega) (by omega) (by omega) (by simp [ha]), drop_cons l i (by omega)]
    simp
/-- The lesser one of two that are mirrored, of each. -/
def plainL (l : List Int) : List Int := l.map fun c => mn c (mir c)
theorem plain_eq (k : Nat) (l : List Int) (hn : l.length * 8 ≤ 140737488351232) (hk : l.length + 4 < k) : pair_Plain.f k l = some (plainL l) := by
  unfold pair_Plain.f
  have := plain_loop l hn l.length k 0 [] (by omega) (by omega) hk rfl
  unfold plainL
  simpa using this

end Go.Proofs.Ythgmkbghdobmlaa.P
namespace Go.Proofs.Ythgmkbghdobmlaa.P
open Go.RowKit Go.Proofs.YthgmkbghdobmlaaW.PrintWords Go.Proofs.YthgmkbghdobmlaaW.PrintLast Go.Proofs.YthgmkbghdobmlaaW.PrintMore
set_option linter.unusedVariables false
set_option linter.unusedSimpArgs false

def fspans : List (Int × Nat × Int) := [(65, 26, 32), (181, 1, 775), (192, 23, 32), (216, 7, 32), (913, 17, 32), (931, 7, 32), (962, 1, 1), (1024, 16, 80), (1040, 32, 32), (7838, 1, -7615)]
def fkeys : List Int := fspans.flatMap fun s => (List.range s.2.1).map fun (i : Nat) => s.1 + (i : Int)
def foldFrom (c : Int) : List (Int × Nat × Int) → Int
  | [] => c
  | s :: t => if s.1 ≤ c ∧ c < s.1 + (s.2.1 : Int) then c + s.2.2 else foldFrom c t
/-- What a character is folded into. -/
def foldc (c : Int) : Int := foldFrom c fspans
theorem fkeys_no {c : Int} (h : c ∉ fkeys) : ∀ s ∈ fspans, ¬ (s.1 ≤ c ∧ c < s.1 + (s.2.1 : Int)) := by
  intro s hs hc
  refine h ?_
  unfold fkeys
  rw [List.mem_flatMap]
  refine ⟨s, hs, ?_⟩
  rw [List.mem_map]
  refine ⟨(c - s.1).toNat, ?_, ?_⟩
  · rw [List.mem_range]
    omega
  · omega
theorem foldFrom_out (c : Int) : ∀ l : List (Int × Nat × Int), (∀ s ∈ l, ¬ (s.1 ≤ c ∧ c < s.1 + (s.2.1 : Int))) → foldFrom c l = c
  | [], _ => rfl
  | s :: t, h => by
    simp only [foldFrom]
    rw [if_neg (h s List.mem_cons_self)]
    exact foldFrom_out c t fun x hx => h x (List.mem_cons_of_mem _ hx)
theorem fold_out {c : Int} (h : c ∉ fkeys) : foldc c = c := foldFrom_out c fspans (fkeys_no h)
theorem by_fkeys (P : Int → Prop) (hin : ∀ c ∈ fkeys, P c) (hout : ∀ c, c ∉ fkeys → P c) (c : Int) : P c := by
  by_cases h : c ∈ fkeys
  · exact hin c h
  · exact hout c h
theorem fold_eq0 (c : Int) : fold_Of.f 12 c = some (foldc c) := by
  revert c
  refine by_fkeys _ (by decide +kernel) fun c h => ?_
  rw [fold_out h]
  have hn := fkeys_no h
  simp only [fspans, List.mem_cons, List.not_mem_nil, or_false, forall_eq_or_imp, forall_eq] at hn
  obtain ⟨h0, h1, h2, h3, h4, h5, h6, h7, h8, h9⟩ := hn
  have q0 : ¬ (c ≥ 65 ∧ c ≤ 90) := by omega
  have q1 : ¬ (c ≥ 181 ∧ c ≤ 181) := by omega
  have q2 : ¬ (c ≥ 192 ∧ c ≤ 214) := by omega
  have q3 : ¬ (c ≥ 216 ∧ c ≤ 222) := by omega
  have q4 : ¬ (c ≥ 913 ∧ c ≤ 929) := by omega
  have q5 : ¬ (c ≥ 931 ∧ c ≤ 937) := by omega
  have q6 : ¬ (c ≥ 962 ∧ c ≤ 962) := by omega
  have q7 : ¬ (c ≥ 1024 ∧ c ≤ 1039) := by omega
  have q8 : ¬ (c ≥ 1040 ∧ c ≤ 1071) := by omega
  have q9 : ¬ (c ≥ 7838 ∧ c ≤ 7838) := by omega
  have two : ∀ (a b : Int) (x y : Option Int), ¬ (c ≥ a ∧ c ≤ b) → (if c ≥ a then (if c ≤ b then x else y) else y) = y := by
    intro a b x y hq
    by_cases e1 : c ≥ a
    · rw [if_pos e1, if_neg (fun e2 => hq ⟨e1, e2⟩)]
    · rw [if_neg e1]
  have s0 : wrap64 (0 + 1) = 1 := by decide +kernel
  have s1 : wrap64 (1 + 1) = 2 := by decide +kernel
  have s2 : wrap64 (2 + 1) = 3 := by decide +kernel
  have s3 : wrap64 (3 + 1) = 4 := by decide +kernel
  have s4 : wrap64 (4 + 1) = 5 := by decide +kernel
  have s5 : wrap64 (5 + 1) = 6 := by decide +kernel
  have s6 : wrap64 (6 + 1) = 7 := by decide +kernel
  have s7 : wrap64 (7 + 1) = 8 := by decide +kernel
  have s8 : wrap64 (8 + 1) = 9 := by decide +kernel
  have s9 : wrap64 (9 + 1) = 10 := by decide +kernel
  unfold fold_Of.f fold_stretches.f
  simp only [Option.bind_some, List.length_cons, List.length_nil]
  simp only [fold_Of.l0, rd_T87, two _ _ _ _ q0, two _ _ _ _ q1, two _ _ _ _ q2, two _ _ _ _ q3, two _ _ _ _ q4, two _ _ _ _ q5, two _ _ _ _ q6, two _ _ _ _ q7, two _ _ _ _ q8, two _ _ _ _ q9, s0, s1, s2, s3, s4, s5, s6, s7, s8, s9,
    List.length_cons, List.length_nil, List.getD_cons_zero, List.getD_cons_succ, Int.toNat_natCast, Int.toNat_zero, Int.toNat_one, Int.reduceToNat, if_true, if_false, Int.reduceLT, Int.reduceLE]
  simp
theorem fold_eq (k : Nat) (hk : 12 ≤ k) (c : Int) : fold_Of.f k c = some (foldc c) := more (fold_Of.mono c) 12 k hk _ (fold_eq0 c)
end Go.Proofs.Ythgmkbghdobmlaa.P
namespace Go.Proofs.Ythgmkbghdobmlaa.P
open Go.RowKit Go.Proofs.YthgmkbghdobmlaaW.PrintWords Go.Proofs.YthgmkbghdobmlaaW.PrintLast Go.Proofs.YthgmkbghdobmlaaW.PrintMore
set_option linter.unusedVariables false
set_option linter.unusedSimpArgs false

def trF (flags c : Int) : Int := if Go.bits .and .i64 flags 1 = 0 then c else foldc c
def trM (flags c : Int) : Int := if Go.bits .and .i64 flags 2 = 0 then c else mn c (mir c)
/-- What is searched in a character's place. -/
def tr (flags c : Int) : Int := trM flags (trF flags c)
def chrs (flags : Int) (l : List Int) : List Int := (l.filter nctl).map (tr flags)
def plcs (l : List Int) : List Int := placesOf nctl 0 l ++ [(l.length : Int)]

theorem all_loop (l : List Int) (hn : l.length ≤ 9000) (d : Nat) : ∀ (k i : Nat) (acc : List Int), i ≤ l.length → l.length - i = d → d + 12 < k → acc.length = i →
    fold_All.l0 k acc l (l.length : Int) (i : Int) = some (acc ++ (l.drop i).map foldc) := by
  induction d with
  | zero =>
    intro k i acc hi hd hk ha
    obtain ⟨k, rfl⟩ : ∃ m, k = m + 1 := ⟨k - 1, by omega⟩
    simp only [fold_All.l0]
    rw [if_neg (by omega), List.drop_eq_nil_of_le (by omega)]
    simp
  | succ d ih =>
    intro k i acc hi hd hk ha
    obtain ⟨k, rfl⟩ : ∃ m, k = m + 1 := ⟨k - 1, by omega⟩
    simp only [fold_All.l0]
    rw [if_pos (by omega), if_pos (by omega), if_pos (by omega), fold_eq k (by omega)]
    simp only [Option.bind_some]
    rw [if_pos (by omega), wrap_succ i (by omega), ih k (i + 1) _ (by omega) (by omega) (by omega) (by simp [ha]), drop_cons l i (by omega)]
    simp
theorem all_eq (k : Nat) (l : List Int) (hn : l.length ≤ 9000) (hk : l.length + 12 < k) : fold_All.f k l = some (l.map foldc) := by
  unfold fold_All.f
  have := all_loop l hn l.length k 0 [] (by omega) (by omega) hk rfl
  simpa using this
theorem of_loop (l0 : List Int) (flags : Int) (hn : l0.length ≤ 9000) (d : Nat) : ∀ (k i : Nat) (acc at_ : List Int), i ≤ l0.length → l0.length - i = d → d + l0.length + 100 < k → acc.length ≤ i → at_.length ≤ i →
    norm_Of.l0 k l0 flags acc at_ l0 (l0.length : Int) (i : Int) = some ((acc ++ (l0.drop i).filter nctl).map (tr flags), at_ ++ placesOf nctl i (l0.drop i) ++ [(l0.length : Int)]) := by
  induction d with
  | zero =>
    intro k i acc at_ hi hd hk ha hb
    obtain ⟨k, rfl⟩ : ∃ m, k = m + 1 := ⟨k - 1, by omega⟩
    simp only [norm_Of.l0]
    rw [if_neg (by omega), List.drop_eq_nil_of_le (by omega)]
    simp only [placesOf, List.filter_nil, List.append_nil]
    by_cases h1 : Go.bits .and .i64 flags 1 = 0
    · rw [if_pos h1]
      by_cases h2 : Go.bits .and .i64 flags 2 = 0
      · rw [if_pos h2, if_pos (by omega)]
        have e : acc.map (tr flags) = acc := by
          have : ∀ c, tr flags c = c := fun c => by unfold tr trM trF; rw [if_pos h2, if_pos h1]
          rw [List.map_congr_left (fun c _ => this c), List.map_id']
        rw [e]
      · rw [if_neg h2, plain_eq k acc (by omega) (by omega)]
        simp only [Option.bind_some]
        rw [if_pos (by omega)]
        have e : acc.map (tr flags) = plainL acc := by
          unfold plainL
          exact List.map_congr_left fun c _ => by unfold tr trM trF; rw [if_neg h2, if_pos h1]
        rw [e]
    · rw [if_neg h1, all_eq k acc (by omega) (by omega)]
      simp only [Option.bind_some]
      by_cases h2 : Go.bits .and .i64 flags 2 = 0
      · rw [if_pos h2, if_pos (by omega)]
        have e : acc.map (tr flags) = acc.map foldc := List.map_congr_left fun c _ => by unfold tr trM trF; rw [if_pos h2, if_neg h1]
        rw [e]
      · rw [if_neg h2, plain_eq k (acc.map foldc) (by simp; omega) (by simp; omega)]
        simp only [Option.bind_some]
        rw [if_pos (by omega)]
        have e : acc.map (tr flags) = plainL (acc.map foldc) := by
          unfold plainL
          rw [List.map_map]
          exact List.map_congr_left fun c _ => by unfold tr trM trF; rw [if_neg h2, if_neg h1]; rfl
        rw [e]
  | succ d ih =>
    intro k i acc at_ hi hd hk ha hb
    obtain ⟨k, rfl⟩ : ∃ m, k = m + 1 := ⟨k - 1, by omega⟩
    simp only [norm_Of.l0]
    rw [if_pos (by omega), if_pos (by omega), if_pos (by omega), control_eq k (by omega)]
    simp only [Option.bind_some]
    rw [wrap_succ i (by omega), drop_cons l0 i (by omega)]
    by_cases h : ctl (rd l0 (i : Int)) = true
    · have h2 : nctl (rd l0 (i : Int)) = false := by unfold nctl; rw [h]; rfl
      rw [if_pos h, ih k (i + 1) acc at_ (by omega) (by omega) (by omega) (by omega) (by omega)]
      simp [placesOf, h2]
    · have h2 : nctl (rd l0 (i : Int)) = true := by unfold nctl; simpa using h
      rw [if_neg h, if_pos (by omega), if_pos (by omega), ih k (i + 1) _ _ (by omega) (by omega) (by omega) (by simp; omega) (by simp; omega)]
      simp [placesOf, h2]
theorem norm_of_eq (k : Nat) (l : List Int) (flags : Int) (hn : l.length ≤ 9000) (hk : 2 * l.length + 100 < k) : norm_Of.f k l flags = some (chrs flags l, plcs l) := by
  unfold norm_Of.f chrs plcs
  have := of_loop l flags hn l.length k 0 [] [] (by omega) (by omega) (by omega) (by simp) (by simp)
  simpa using this
def backOf (l : List Int) (a b : Int) : Int × Int × Bool := if 0 ≤ a ∧ a ≤ b ∧ b < (l.length : Int) then (if b > a then (rd l a, wrap64 (rd l (b - 1) + 1), true) else (rd l a, rd l a, true)) else (0, 0, false)
theorem lies_eq (a b n : Int) : norm_lies.f a b n = some (decide (0 ≤ a ∧ a ≤ b ∧ b < n)) := by
  unfold norm_lies.f
  by_cases h : a ≥ 0
  · by_cases h2 : a ≤ b
    · rw [if_pos h, if_pos h2]
      simp [show 0 ≤ a from h, h2]
    · rw [if_pos h, if_neg h2]
      simp [h2]
  · rw [if_neg h]
    have : ¬ 0 ≤ a := h
    simp [this]
theorem back_eq (l : List Int) (hn : l.length ≤ 9001) (a b : Int) : norm_Back.f l a b = some (backOf l a b) := by
  unfold norm_Back.f backOf
  rw [lies_eq]
  simp only [Option.bind_some, decide_eq_true_eq]
  by_cases h : 0 ≤ a ∧ a ≤ b ∧ b < (l.length : Int)
  · rw [if_pos h, if_pos h, if_pos h.1, if_pos (by omega)]
    by_cases h2 : b > a
    · rw [if_pos h2, if_pos h2, wrap_id (x := b - 1) (by omega) (by omega), if_pos (by omega), if_pos (by omega)]
    · rw [if_neg h2, if_neg h2]
  · rw [if_neg h, if_neg h]
theorem plcs_len (l : List Int) : (plcs l).length = (l.filter nctl).length + 1 := by
  unfold plcs
  rw [List.length_append, places_len]
  rfl
theorem plcs_up (l : List Int) : List.Pairwise (· < ·) (plcs l) := by
  unfold plcs
  refine List.pairwise_append.2 ⟨places_up nctl 0 l, List.pairwise_singleton _ _, fun x hx y hy => ?_⟩
  have := places_mem nctl 0 l x hx
  simp only [List.mem_singleton] at hy
  omega
theorem plcs_in (l : List Int) : ∀ x ∈ plcs l, 0 ≤ x ∧ x ≤ (l.length : Int) := by
  intro x hx
  unfold plcs at hx
  rcases List.mem_append.1 hx with h | h
  · have := places_mem nctl 0 l x h
    omega
  · simp only [List.mem_singleton] at h
    omega
/-- The place of the i-th that is searched. -/
theorem plcs_at (l : List Int) (i : Nat) (h : i < (l.filter nctl).length) : rd (plcs l) (i : Int) = (placesOf nctl 0 l)[i]'(by rw [places_len]; exact h) := by
  rw [rd_get _ i (by rw [plcs_len]; omega)]
  unfold plcs
  rw [List.getElem_append_left]
theorem plcs_lt (l : List Int) (i : Nat) (h : i < (l.filter nctl).length) : 0 ≤ rd (plcs l) (i : Int) ∧ rd (plcs l) (i : Int) < (l.length : Int) := by
  rw [plcs_at l i h]
  have := places_mem nctl 0 l _ (List.getElem_mem (show i < (placesOf nctl 0 l).length by rw [places_len]; exact h))
  omega
theorem plcs_mono (l : List Int) (i j : Nat) (h : i < j) (hj : j ≤ (l.filter nctl).length) : rd (plcs l) (i : Int) < rd (plcs l) (j : Int) := by
  rw [rd_get _ i (by rw [plcs_len]; omega), rd_get _ j (by rw [plcs_len]; omega)]
  exact List.pairwise_iff_getElem.1 (plcs_up l) i j _ _ h
end Go.Proofs.Ythgmkbghdobmlaa.P
namespace Go.Proofs.Ythgmkbghdobmlaa.P
open Go.RowKit Go.Proofs.YthgmkbghdobmlaaW.PrintWords Go.Proofs.YthgmkbghdobmlaaW.PrintLast
set_option linter.unusedVariables false

theorem ev_step {α β : Type} {f : Nat → Option α} {g : Nat → Option β} {a : α} {r : β} (H : Ev f a) (h : ∀ k, f k = some a → g (k + 1) = some r) : Ev g r := by
  obtain ⟨K, H⟩ := H
  refine ⟨K + 1, fun k hk => ?_⟩
  obtain ⟨k, rfl⟩ : ∃ m, k = m + 1 := ⟨k - 1, by omega⟩
  exact h k (H k (by omega))
theorem ev_step2 {α β γ : Type} {f : Nat → Option α} {f2 : Nat → Option γ} {g : Nat → Option β} {a : α} {b : γ} {r : β} (H : Ev f a) (H2 : Ev f2 b) (h : ∀ k, f k = some a → f2 k = some b → g (k + 1) = some r) : Ev g r := by
  obtain ⟨K, H⟩ := H
  obtain ⟨K2, H2⟩ := H2
  refine ⟨K + K2 + 1, fun k hk => ?_⟩
  obtain ⟨k, rfl⟩ : ∃ m, k = m + 1 := ⟨k - 1, by omega⟩
  exact h k (H k (by omega)) (H2 k (by omega))
theorem ev_step3 {α β γ δ : Type} {f : Nat → Option α} {f2 : Nat → Option γ} {f3 : Nat → Option δ} {g : Nat → Option β} {a : α} {b : γ} {c : δ} {r : β} (H : Ev f a) (H2 : Ev f2 b) (H3 : Ev f3 c) (h : ∀ k, f k = some a → f2 k = some b → f3 k = some c → g (k + 1) = some r) : Ev g r := by
  obtain ⟨K, H⟩ := H
  obtain ⟨K2, H2⟩ := H2
  obtain ⟨K3, H3⟩ := H3
  refine ⟨K + K2 + K3 + 1, fun k hk => ?_⟩
  obtain ⟨k, rfl⟩ : ∃ m, k = m + 1 := ⟨k - 1, by omega⟩
  exact h k (H k (by omega)) (H2 k (by omega)) (H3 k (by omega))
theorem ev_one {β : Type} {g : Nat → Option β} {r : β} (h : ∀ k, g (k + 1) = some r) : Ev g r := ⟨1, fun k hk => by
  obtain ⟨k, rfl⟩ : ∃ m, k = m + 1 := ⟨k - 1, by omega⟩
  exact h k⟩
theorem ev_now {β : Type} {g : Nat → Option β} {r : β} (h : ∀ k, g k = some r) : Ev g r := ⟨0, fun k _ => h k⟩
theorem ev_same {α β : Type} {f : Nat → Option α} {g : Nat → Option β} {a : α} {r : β} (H : Ev f a) (h : ∀ k, f k = some a → g k = some r) : Ev g r := by
  obtain ⟨K, H⟩ := H
  exact ⟨K, fun k hk => h k (H k hk)⟩
theorem ev_same2 {α β γ : Type} {f : Nat → Option α} {f2 : Nat → Option γ} {g : Nat → Option β} {a : α} {b : γ} {r : β} (H : Ev f a) (H2 : Ev f2 b) (h : ∀ k, f k = some a → f2 k = some b → g k = some r) : Ev g r := by
  obtain ⟨K, H⟩ := H
  obtain ⟨K2, H2⟩ := H2
  exact ⟨K + K2, fun k hk => h k (H k (by omega)) (H2 k (by omega))⟩
/-- Two answers at once. -/
theorem ev_and {α γ : Type} {f : Nat → Option α} {f2 : Nat → Option γ} {a : α} {b : γ} (H : Ev f a) (H2 : Ev f2 b) : Ev (fun k => (f k).bind fun x => (f2 k).map fun y => (x, y)) (a, b) :=
  ev_same2 H H2 fun k h h2 => by rw [h, h2]; rfl
theorem ev_fst {α γ : Type} {o : Option α} {o2 : Option γ} {a : α} {b : γ} (h : (o.bind fun x => o2.map fun y => (x, y)) = some (a, b)) : o = some a ∧ o2 = some b := by
  cases o with
  | none => cases h
  | some x =>
    cases o2 with
    | none => cases h
    | some y =>
      simp only [Option.bind_some, Option.map_some, Option.some.injEq, Prod.mk.injEq] at h
      rw [h.1, h.2]
      exact ⟨rfl, rfl⟩
end Go.Proofs.Ythgmkbghdobmlaa.P
namespace Go.Proofs.Ythgmkbghdobmlaa.P
open Go.RowKit Go.Proofs.YthgmkbghdobmlaaW.PrintWords Go.Proofs.YthgmkbghdobmlaaW.PrintLast
set_option linter.unusedVariables false
set_option linter.unusedSimpArgs false

theorem right_eq (c : Int) : ductusref01_Right.f c = some (decide (0 ≤ c ∧ c ≤ 1114111 ∧ (c < 55296 ∨ c > 57343))) := by
  unfold ductusref01_Right.f
  by_cases h0 : c ≥ 0
  · by_cases h1 : c ≤ 1114111
    · by_cases h2 : c < 55296
      · rw [if_pos h0, if_pos h1, if_pos h2, decide_eq_true (show 0 ≤ c ∧ c ≤ 1114111 ∧ (c < 55296 ∨ c > 57343) from ⟨h0, h1, .inl h2⟩)]
      · rw [if_pos h0, if_pos h1, if_neg h2]
        congr 1
        rw [decide_eq_decide]
        omega
    · rw [if_pos h0, if_neg h1, decide_eq_false (by omega)]
  · rw [if_neg h0, decide_eq_false (by omega)]
/-- Is it a character? -/
def RightC (c : Int) : Prop := 0 ≤ c ∧ c ≤ 1114111 ∧ (c < 55296 ∨ c > 57343)
instance (c : Int) : Decidable (RightC c) := inferInstanceAs (Decidable (0 ≤ c ∧ c ≤ 1114111 ∧ (c < 55296 ∨ c > 57343)))
theorem vrune_ev (c : Int) : Ev (fun k => utf8_ValidRune.f k c) (decide (RightC c)) := by
  have hj : ∀ b, (b = true → 0 ≤ c ∧ c < 55296) → (b = false → ¬ (0 ≤ c ∧ c < 55296)) → Ev (fun k => utf8_ValidRune.j0 k c b) (decide (RightC c)) := by
    intro b h1 h2
    refine ev_one fun k => ?_
    simp only [utf8_ValidRune.j0]
    cases b with
    | true =>
      have := h1 rfl
      rw [if_pos rfl, decide_eq_true (show RightC c from ⟨by omega, by omega, .inl (by omega)⟩)]
    | false =>
      have := h2 rfl
      rw [if_neg (by simp)]
      by_cases q1 : 57343 < c
      · rw [if_pos q1]
        by_cases q2 : c ≤ 1114111
        · rw [if_pos q2, decide_eq_true (show RightC c from ⟨by omega, q2, .inr q1⟩)]
        · rw [if_neg q2, decide_eq_false (show ¬ RightC c from fun h => q2 h.2.1)]
      · rw [if_neg q1, decide_eq_false (show ¬ RightC c from fun h => by have := h.1; have := h.2.2; omega)]
  by_cases h0 : 0 ≤ c
  · by_cases h1 : c < 55296
    · refine ev_same (hj true (fun _ => ⟨h0, h1⟩) (fun h => by cases h)) fun k hk => ?_
      unfold utf8_ValidRune.f
      rw [if_pos h0, decide_eq_true h1]
      exact hk
    · refine ev_same (hj false (fun h => by cases h) (fun _ h => h1 h.2)) fun k hk => ?_
      unfold utf8_ValidRune.f
      rw [if_pos h0, decide_eq_false h1]
      exact hk
  · refine ev_same (hj false (fun h => by cases h) (fun _ h => h0 h.1)) fun k hk => ?_
    unfold utf8_ValidRune.f
    rw [if_neg h0]
    exact hk
theorem wrap32_id {x : Int} (h0 : -2147483648 ≤ x) (h1 : x ≤ 2147483647) : wrap32 x = x := by
  unfold wrap32
  omega
theorem rightU_ev (c : Int) : Ev (fun k => utf_Right.f k c) (decide (RightC c)) := by
  by_cases h0 : c ≥ 0
  · by_cases h1 : c ≤ 1114111
    · have hw : wrap32 c = c := wrap32_id (by omega) (by omega)
      refine ev_same (vrune_ev c) fun k hk => ?_
      unfold utf_Right.f
      rw [if_pos h0, if_pos h1, hw, hk, Option.bind_some]
    · refine ev_now fun k => ?_
      unfold utf_Right.f
      rw [if_pos h0, if_neg h1, decide_eq_false (show ¬ RightC c from fun h => h1 h.2.1)]
  · refine ev_now fun k => ?_
    unfold utf_Right.f
    rw [if_neg h0, decide_eq_false (show ¬ RightC c from fun h => h0 h.1)]
theorem rightR (c : Int) : ductusref01_Right.f c = some (decide (RightC c)) := right_eq c
def allR (l : List Int) : Prop := ∀ c ∈ l, RightC c
instance (l : List Int) : Decidable (allR l) := inferInstanceAs (Decidable (∀ c ∈ l, RightC c))
theorem allR_at {l : List Int} (h : allR l) (i : Nat) (hi : i < l.length) : RightC (rd l (i : Int)) := by
  rw [rd_get l i hi]
  exact h _ (List.getElem_mem hi)
theorem sidx_loop (l : List Int) (hl : l.length < 9223372036854775807) (d : Nat) : ∀ i : Nat, i + d = l.length → ∃ r, Ev (fun k => slices_IndexFunc_int_swap_looked_1.l0 k l (l.length : Int) (i : Int)) r ∧ (r ≥ 0 ↔ ¬ allR (l.drop i)) := by
  induction d with
  | zero =>
    intro i hi
    refine ⟨-1, ev_one fun k => ?_, ?_⟩
    · simp only [slices_IndexFunc_int_swap_looked_1.l0]
      rw [if_neg (by omega)]
    · rw [List.drop_eq_nil_of_le (by omega)]
      simp [allR]
  | succ d ih =>
    intro i hi
    have hw : wrap64 ((i : Int) + 1) = ((i + 1 : Nat) : Int) := wrap_succ i (by omega)
    have he : Ev (fun k => swap_looked_1.f k (rd l (i : Int))) (!decide (RightC (rd l (i : Int)))) := ev_same (rightU_ev _) fun k hk => by
      unfold swap_looked_1.f
      rw [hk]
      rfl
    by_cases h : RightC (rd l (i : Int))
    · obtain ⟨r, hr, hi2⟩ := ih (i + 1) (by omega)
      refine ⟨r, ev_step2 he hr fun k hk hk2 => ?_, ?_⟩
      · simp only [slices_IndexFunc_int_swap_looked_1.l0]
        rw [if_pos (by omega), if_pos (by omega), if_pos (by omega), hk, decide_eq_true h, Option.bind_some, if_neg (by simp), hw]
        exact hk2
      · rw [hi2, drop_cons l i (by omega)]
        simp [allR, h]
    · refine ⟨(i : Int), ev_step he fun k hk => ?_, ?_⟩
      · simp only [slices_IndexFunc_int_swap_looked_1.l0]
        rw [if_pos (by omega), if_pos (by omega), if_pos (by omega), hk, decide_eq_false h, Option.bind_some, if_pos (by rfl)]
      · rw [drop_cons l i (by omega)]
        simp [allR, h]
theorem scontains_ev (l : List Int) (hl : l.length < 9223372036854775807) : Ev (fun k => slices_ContainsFunc_int_swap_looked_1.f k l) (!decide (allR l)) := by
  obtain ⟨r, hr, hi⟩ := sidx_loop l hl l.length 0 (by omega)
  rw [List.drop_zero] at hi
  refine ev_same hr fun k hk => ?_
  unfold slices_ContainsFunc_int_swap_looked_1.f slices_IndexFunc_int_swap_looked_1.f
  have hk : slices_IndexFunc_int_swap_looked_1.l0 k l (l.length : Int) 0 = some r := hk
  rw [hk, Option.bind_some]
  by_cases h : allR l
  · rw [decide_eq_true h, decide_eq_false (show ¬ r ≥ 0 from fun x => hi.1 x h)]
    rfl
  · rw [decide_eq_false h, decide_eq_true (show r ≥ 0 from hi.2 h)]
    rfl
end Go.Proofs.Ythgmkbghdobmlaa.P
namespace Go.Proofs.Ythgmkbghdobmlaa.P
open Go.RowKit Go.Proofs.YthgmkbghdobmlaaW.PrintWords Go.Proofs.YthgmkbghdobmlaaW.PrintLast Go.Proofs.YthgmkbghdobmlaaW.PrintMore
set_option linter.unusedVariables false
set_option linter.unusedSimpArgs false

theorem closer_or (k : Int) : closerK k = -1 ∨ closerK k = 18 ∨ closerK k = 22 := by
  unfold closerK
  split
  · exact .inr (.inl rfl)
  · split
    · exact .inr (.inr rfl)
    · exact .inl rfl
/-- What a class does. -/
def roleK (k : Int) : Int := if closerK k = 18 then 1 else if closerK k = 22 then 2 else if k = 18 then -1 else if k = 22 then -2 else if k = 10 then 3 else 0
theorem role_eq (c : Int) (k : Nat) : ductusref26_role.f (k + 2) c = some (roleK (cls c)) := by
  unfold ductusref26_role.f
  rw [show ductusref02_Of.f c = some (cls c) from rfl, Option.bind_some]
  generalize cls c = q
  simp only [ductusref26_role.j0, ductusref26_role.j1]
  unfold roleK closerK
  by_cases h1 : q = 14
  · simp [h1]
  · by_cases h2 : q = 16
    · simp [h2]
    · by_cases h3 : q = 15
      · simp [h3]
      · by_cases h4 : q = 17
        · simp [h4]
        · by_cases h5 : q = 19
          · simp [h5]
          · by_cases h6 : q = 20
            · simp [h6]
            · by_cases h7 : q = 21
              · simp [h7]
              · simp only [h1, h2, h3, h4, h5, h6, h7]
                by_cases h8 : q = 18
                · simp [h8]
                · by_cases h9 : q = 22
                  · simp [h9]
                  · by_cases h10 : q = 10
                    · simp [h10]
                    · simp [h4, h7, h8, h9, h10]
theorem role_ev (c : Int) : Ev (fun k => ductusref26_role.f k c) (roleK (cls c)) := ⟨2, fun k hk => by
  obtain ⟨j, rfl⟩ : ∃ j, k = j + 2 := ⟨k - 2, by omega⟩
  exact role_eq c j⟩
def bk (x : Int) : Int := if x = 18 then 1 else 2
theorem role_open {k : Int} (h : closerK k ≠ -1) : roleK k = bk (closerK k) ∧ (roleK k = 1 ∨ roleK k = 2) := by
  unfold roleK bk
  rcases closer_or k with h1 | h1 | h1
  · exact (h h1).elim
  · rw [h1]; exact ⟨rfl, .inl rfl⟩
  · rw [h1]; exact ⟨rfl, .inr rfl⟩
theorem opc_role (c : Int) : opc c = decide (roleK (cls c) ≠ 0 ∧ roleK (cls c) ≠ 3) := by
  unfold opc opcK
  by_cases h1 : closerK (cls c) ≠ -1
  · rw [decide_eq_true h1, Bool.true_or]
    have := (role_open h1).2
    symm
    rw [decide_eq_true_eq]
    omega
  · rw [decide_eq_false h1, Bool.false_or]
    have hn1 : closerK (cls c) = -1 := by simpa using h1
    by_cases h3 : cls c = 18 ∨ cls c = 22
    · rw [decide_eq_true h3]
      symm
      rw [decide_eq_true_eq]
      rcases h3 with h | h
      · rw [h]; decide
      · rw [h]; decide
    · rw [decide_eq_false h3]
      symm
      rw [decide_eq_false_iff_not]
      unfold roleK
      rw [hn1, if_neg (by decide), if_neg (by decide), if_neg (by omega), if_neg (by omega)]
      split
      · exact fun h => h.2 rfl
      · exact fun h => h.1 rfl
theorem rctl_loop (l : List Int) (hl : l.length < 4398046511104) (d : Nat) : ∀ (i : Nat) (acc : List Int), i ≤ l.length → l.length - i = d → acc.length ≤ i → Ev (fun k => ductusref26_Controls.l0 k l acc (i : Int)) (acc ++ (l.drop i).filter opc) := by
  induction d with
  | zero =>
    intro i acc hi hd ha
    refine ev_one fun k => ?_
    simp only [ductusref26_Controls.l0]
    rw [if_neg (by omega), List.drop_eq_nil_of_le (by omega), List.filter_nil, List.append_nil]
  | succ d ih =>
    intro i acc hi hd ha
    rw [drop_cons l i (by omega)]
    have hr := role_ev (rd l (i : Int))
    have w1 : wrap64 ((i : Int) + 1) = ((i + 1 : Nat) : Int) := wrap_succ i (by omega)
    have ho := opc_role (rd l (i : Int))
    have g1 : (i : Int) < (l.length : Int) := by omega
    have g2 : (0 : Int) ≤ (i : Int) := by omega
    by_cases h0 : roleK (cls (rd l (i : Int))) = 0
    · rw [List.filter_cons_of_neg (by rw [ho]; simp [h0])]
      refine ev_step2 hr (ih (i + 1) acc (by omega) (by omega) (by omega)) fun k hk hk2 => ?_
      simp only [ductusref26_Controls.l0]
      rw [if_pos g1, if_pos g2, hk, Option.bind_some, if_pos h0, w1]
      exact hk2
    · by_cases h3 : roleK (cls (rd l (i : Int))) = 3
      · rw [List.filter_cons_of_neg (by rw [ho]; simp [h3])]
        refine ev_step2 hr (ih (i + 1) acc (by omega) (by omega) (by omega)) fun k hk hk2 => ?_
        simp only [ductusref26_Controls.l0]
        rw [if_pos g1, if_pos g2, hk, Option.bind_some, if_neg h0, Option.bind_some, if_pos h3, w1]
        exact hk2
      · rw [List.filter_cons_of_pos (by rw [ho]; simp [h0, h3])]
        have hnext := ih (i + 1) (acc ++ [rd l (i : Int)]) (by omega) (by omega) (by simp; omega)
        rw [List.append_assoc] at hnext
        refine ev_step2 hr hnext fun k hk hk2 => ?_
        simp only [ductusref26_Controls.l0]
        rw [if_pos g1, if_pos g2, hk, Option.bind_some, if_neg h0, Option.bind_some, if_neg h3, if_pos (by omega), w1]
        exact hk2
theorem rctl_ev (l : List Int) (hl : l.length < 4398046511104) : Ev (fun k => ductusref26_Controls.f k l) (l.filter opc) := by
  have h := rctl_loop l hl l.length 0 [] (by omega) (by omega) (by simp)
  simp only [List.drop_zero, List.nil_append] at h
  exact h
end Go.Proofs.Ythgmkbghdobmlaa.P
namespace Go.Proofs.Ythgmkbghdobmlaa.P
open Go.RowKit Go.Proofs.YthgmkbghdobmlaaW.PrintWords Go.Proofs.YthgmkbghdobmlaaW.PrintLast Go.Proofs.YthgmkbghdobmlaaW.PrintMore
set_option linter.unusedVariables false
set_option linter.unusedSimpArgs false

theorem tr0 (c : Int) : tr 0 c = c := by
  unfold tr trM trF
  rw [if_pos (by decide), if_pos (by decide)]
theorem chrs0 (l : List Int) : chrs 0 l = l.filter nctl := by
  unfold chrs
  rw [show tr 0 = id from funext tr0, List.map_id]
theorem normOf_ev (l : List Int) (hl : l.length ≤ 9000) : Ev (fun k => norm_Of.f k l 0) (l.filter nctl, plcs l) := ⟨2 * l.length + 101, fun k hk => by
  have := norm_of_eq k l 0 hl (by omega)
  rw [chrs0] at this
  exact this⟩
theorem splain_eq (l : List Int) (hl : l.length ≤ 9000) : swap_Plain.f l = some (l.filter nctl) := by
  unfold swap_Plain.f
  rw [if_pos (by omega)]
theorem ctl_eqB (l : List Int) (hl : l.length ≤ 9000) : balance_Controls.f l = some (l.filter opc) := by
  unfold balance_Controls.f
  rw [if_pos (by omega)]

abbrev F0 (sp : List S39) (i : Nat) : Int := (rd_T39 sp (i : Int)).f0
abbrev F1 (sp : List S39) (i : Nat) : Int := (rd_T39 sp (i : Int)).f1
theorem dropS (sp : List S39) (i : Nat) (h : i < sp.length) : sp.drop i = rd_T39 sp (i : Int) :: sp.drop (i + 1) := by
  rw [List.drop_eq_getElem_cons h]
  unfold rd_T39
  rw [Int.toNat_natCast, List.getD_eq_getElem?_getD, List.getElem?_eq_getElem h]
  rfl
theorem getS (sp : List S39) (i : Nat) (h : i < sp.length) : rd_T39 sp (i : Int) = sp[i] := by
  unfold rd_T39
  rw [Int.toNat_natCast, List.getD_eq_getElem?_getD, List.getElem?_eq_getElem h]
  rfl
def badS (sp : List S39) (m : Int) (i : Nat) : Prop := F0 sp i < 0 ∨ F1 sp i < F0 sp i ∨ F1 sp i > m
def badP (sp : List S39) (i : Nat) : Prop := 0 < i ∧ (F0 sp i < F1 sp (i - 1) ∨ F0 sp i = F0 sp (i - 1))
instance (sp : List S39) (m : Int) (i : Nat) : Decidable (badS sp m i) := inferInstanceAs (Decidable (_ ∨ _))
instance (sp : List S39) (i : Nat) : Decidable (badP sp i) := inferInstanceAs (Decidable (_ ∧ _))
def rightL (sp : List S39) (m : Int) : Nat → Nat → Bool
  | 0, _ => true
  | d + 1, i => if badS sp m i then false else if badP sp i then false else rightL sp m d (i + 1)
theorem scan_loop (sp : List S39) (m : Int) (hn : sp.length ≤ 500) (d : Nat) : ∀ i : Nat, i + d = sp.length → Ev (fun k => scan_Right.l0 k sp m sp (sp.length : Int) (i : Int)) (rightL sp m d i) := by
  induction d with
  | zero =>
    intro i hi
    refine ev_one fun k => ?_
    simp only [scan_Right.l0]
    rw [if_neg (by omega)]
    rfl
  | succ d ih =>
    intro i hi
    have hw : wrap64 ((i : Int) + 1) = ((i + 1 : Nat) : Int) := wrap_succ i (by omega)
    have hjT : Ev (fun k => scan_Right.j1 k sp m (i : Int) sp (sp.length : Int) (i : Int) true (F0 sp i) (F1 sp i)) false := ev_one fun k => by
      simp only [scan_Right.j1, if_true]
    have hjF : Ev (fun k => scan_Right.j1 k sp m (i : Int) sp (sp.length : Int) (i : Int) false (F0 sp i) (F1 sp i)) (if badP sp i then false else rightL sp m d (i + 1)) := by
        by_cases h0 : 0 < i
        · have hw1 : wrap64 ((i : Int) - 1) = ((i - 1 : Nat) : Int) := by
            rw [wrap_id (by omega) (by omega)]
            omega
          by_cases h1 : F0 sp i < F1 sp (i - 1)
          · refine ev_one fun k => ?_
            simp only [scan_Right.j1, Bool.false_eq_true, if_false]
            rw [if_pos (by omega), hw1, if_pos (by omega), if_pos (by omega), if_pos h1, if_pos ⟨h0, .inl h1⟩]
          · by_cases h2 : F0 sp i = F0 sp (i - 1)
            · refine ev_one fun k => ?_
              simp only [scan_Right.j1, Bool.false_eq_true, if_false]
              rw [if_pos (by omega), hw1, if_pos (by omega), if_pos (by omega), if_neg h1, if_pos h2, if_pos ⟨h0, .inr h2⟩]
            · refine ev_step (ih (i + 1) (by omega)) fun k hk => ?_
              simp only [scan_Right.j1, Bool.false_eq_true, if_false]
              rw [if_pos (by omega), hw1, if_pos (by omega), if_pos (by omega), if_neg h1, if_neg h2, hw, hk, if_neg (show ¬ badP sp i from fun h => h.2.elim h1 h2)]
        · refine ev_step (ih (i + 1) (by omega)) fun k hk => ?_
          simp only [scan_Right.j1, Bool.false_eq_true, if_false]
          rw [if_neg (by omega), hw, hk, if_neg (show ¬ badP sp i from fun h => h0 h.1)]
    by_cases h1 : F0 sp i < 0
    · refine ev_step hjT fun k hk => ?_
      simp only [scan_Right.l0]
      rw [if_pos (by omega), if_pos (by omega), if_pos (by omega), if_pos h1, hk]
      simp only [rightL]
      rw [if_pos (.inl h1)]
    · by_cases h2 : F1 sp i < F0 sp i
      · refine ev_step hjT fun k hk => ?_
        simp only [scan_Right.l0]
        rw [if_pos (by omega), if_pos (by omega), if_pos (by omega), if_neg h1, if_pos h2, hk]
        simp only [rightL]
        rw [if_pos (.inr (.inl h2))]
      · by_cases h3 : F1 sp i > m
        · refine ev_step hjT fun k hk => ?_
          simp only [scan_Right.l0]
          rw [if_pos (by omega), if_pos (by omega), if_pos (by omega), if_neg h1, if_neg h2, decide_eq_true h3, hk]
          simp only [rightL]
          rw [if_pos (.inr (.inr h3))]
        · refine ev_step hjF fun k hk => ?_
          simp only [scan_Right.l0]
          rw [if_pos (by omega), if_pos (by omega), if_pos (by omega), if_neg h1, if_neg h2, decide_eq_false h3, hk]
          simp only [rightL]
          rw [if_neg (show ¬ badS sp m i from fun h => h.elim h1 fun h => h.elim h2 h3)]
def rightM (sp : List S39) (m : Int) : Bool := rightL sp m sp.length 0
theorem scan_ev (sp : List S39) (m : Int) (hn : sp.length ≤ 500) : Ev (fun k => scan_Right.f k sp m) (rightM sp m) := scan_loop sp m hn sp.length 0 (by omega)
theorem right_at (sp : List S39) (m : Int) : ∀ (d i : Nat), i + d = sp.length → rightL sp m d i = true → ∀ j, i ≤ j → j < sp.length → ¬ badS sp m j ∧ ¬ badP sp j
  | 0, i, hi, _, j, h1, h2 => by omega
  | d + 1, i, hi, h, j, h1, h2 => by
    simp only [rightL] at h
    by_cases c1 : badS sp m i
    · rw [if_pos c1] at h
      cases h
    rw [if_neg c1] at h
    by_cases c2 : badP sp i
    · rw [if_pos c2] at h
      cases h
    rw [if_neg c2] at h
    by_cases e : j = i
    · subst e
      exact ⟨c1, c2⟩
    · exact right_at sp m d (i + 1) (by omega) h j (by omega) h2
theorem right_in {sp : List S39} {m : Int} (h : rightM sp m = true) (j : Nat) (hj : j < sp.length) : 0 ≤ F0 sp j ∧ F0 sp j ≤ F1 sp j ∧ F1 sp j ≤ m := by
  have := (right_at sp m sp.length 0 (by omega) h j (by omega) hj).1
  unfold badS at this
  omega
theorem right_up {sp : List S39} {m : Int} (h : rightM sp m = true) (i : Nat) : ∀ j : Nat, i < j → j < sp.length → F1 sp i ≤ F0 sp j := by
  intro j hij hj
  induction j with
  | zero => omega
  | succ j ih =>
    have h2 := (right_at sp m sp.length 0 (by omega) h (j + 1) (by omega) hj).2
    have h3 := right_in h j (by omega)
    have e : j + 1 - 1 = j := by omega
    unfold badP at h2
    rw [e] at h2
    by_cases e2 : i = j
    · subst e2
      omega
    · have := ih (by omega) (by omega)
      omega
/-- Spans in order, each within n. -/
def Good (n : Int) (sp : List S39) : Prop := (∀ s ∈ sp, 0 ≤ s.f0 ∧ s.f0 ≤ s.f1 ∧ s.f1 ≤ n) ∧ sp.Pairwise (fun a b => a.f1 ≤ b.f0)
theorem right_good {sp : List S39} {m : Int} (h : rightM sp m = true) : Good m sp := by
  constructor
  · intro s hs
    obtain ⟨i, hi, rfl⟩ := List.mem_iff_getElem.1 hs
    have := right_in h i hi
    unfold F0 F1 at this
    rw [getS sp i hi] at this
    exact this
  · rw [List.pairwise_iff_getElem]
    intro i j hi hj hij
    have := right_up h i j hij hj
    unfold F0 F1 at this
    rw [getS sp i hi, getS sp j hj] at this
    exact this

def exM (l at_ pl : List Int) : List S39 → List Int → Int → List Int × Int
  | [], out, last => if (((out ++ l.drop last.toNat).length : Nat) : Int) > 8000 then ([], 2) else (out ++ l.drop last.toNat, 0)
  | s :: sp, out, last => if (((out ++ (l.take (backOf at_ s.f0 s.f1).1.toNat).drop last.toNat ++ pl ++ ((l.take (backOf at_ s.f0 s.f1).2.1.toNat).drop (backOf at_ s.f0 s.f1).1.toNat).filter opc).length : Nat) : Int) > 8000 then ([], 2) else exM l at_ pl sp (out ++ (l.take (backOf at_ s.f0 s.f1).1.toNat).drop last.toNat ++ pl ++ ((l.take (backOf at_ s.f0 s.f1).2.1.toNat).drop (backOf at_ s.f0 s.f1).1.toNat).filter opc) (backOf at_ s.f0 s.f1).2.1
def Fits (l at_ : List Int) : List S39 → Int → Prop
  | [], last => 0 ≤ last ∧ last ≤ (l.length : Int)
  | s :: sp, last => (0 ≤ last ∧ last ≤ (backOf at_ s.f0 s.f1).1 ∧ (backOf at_ s.f0 s.f1).1 ≤ (backOf at_ s.f0 s.f1).2.1 ∧ (backOf at_ s.f0 s.f1).2.1 ≤ (l.length : Int)) ∧ Fits l at_ sp (backOf at_ s.f0 s.f1).2.1
theorem mid_len (l : List Int) (a b : Nat) : ((l.take b).drop a).length ≤ l.length := by
  rw [List.length_drop, List.length_take]
  omega
theorem ex_loop (l at_ pl : List Int) (sp : List S39) (hl : l.length ≤ 500) (ha : at_.length ≤ 501) (hp : pl.length ≤ 500) (hs : sp.length ≤ 500) (d : Nat) : ∀ (i : Nat) (out : List Int) (last : Int), i + d = sp.length → out.length ≤ 8000 → Fits l at_ (sp.drop i) last →
    Ev (fun k => swap_exchange.l0 k l at_ sp pl out last (i : Int)) (exM l at_ pl (sp.drop i) out last) := by
  induction d with
  | zero =>
    intro i out last hi ho hf
    rw [List.drop_eq_nil_of_le (by omega)] at hf ⊢
    refine ev_one fun k => ?_
    simp only [swap_exchange.l0]
    have hd : (l.drop last.toNat).length ≤ l.length := by rw [List.length_drop]; omega
    rw [if_neg (by omega), if_pos (show 0 ≤ last ∧ last ≤ (l.length : Int) from hf), if_pos (by omega)]
    simp only [exM]
    split <;> rfl
  | succ d ih =>
    intro i out last hi ho hf
    rw [dropS sp i (by omega)] at hf ⊢
    have hw : wrap64 ((i : Int) + 1) = ((i + 1 : Nat) : Int) := wrap_succ i (by omega)
    obtain ⟨hf1, hf2⟩ := hf
    simp only [exM]
    obtain ⟨B, hB⟩ : ∃ B, backOf at_ (rd_T39 sp (i : Int)).f0 (rd_T39 sp (i : Int)).f1 = B := ⟨_, rfl⟩
    rw [hB] at hf1 hf2 ⊢
    have hbk : norm_Back.f at_ (rd_T39 sp (i : Int)).f0 (rd_T39 sp (i : Int)).f1 = some B := by rw [back_eq at_ (by omega), hB]
    have m1 := mid_len l last.toNat B.1.toNat
    have m2 := mid_len l B.1.toNat B.2.1.toNat
    have m3 := List.length_filter_le opc ((l.take B.2.1.toNat).drop B.1.toNat)
    have hct : balance_Controls.f ((l.take B.2.1.toNat).drop B.1.toNat) = some (((l.take B.2.1.toNat).drop B.1.toNat).filter opc) := ctl_eqB _ (by omega)
    obtain ⟨o, ho2⟩ : ∃ o, out ++ (l.take B.1.toNat).drop last.toNat ++ pl ++ ((l.take B.2.1.toNat).drop B.1.toNat).filter opc = o := ⟨_, rfl⟩
    have hfl : ([out, (l.take B.1.toNat).drop last.toNat, pl, ((l.take B.2.1.toNat).drop B.1.toNat).filter opc] : List (List Int)).flatten = o := by rw [← ho2]; simp
    have hol : o.length ≤ 10000 := by
      rw [← ho2]
      simp only [List.length_append]
      omega
    rw [ho2]
    by_cases c : ((o.length : Nat) : Int) > 8000
    · refine ev_one fun k => ?_
      simp only [swap_exchange.l0]
      rw [if_pos (by omega), if_pos (by omega), hbk, Option.bind_some, if_pos hf1, hct, Option.bind_some, hfl, if_pos (by omega), if_pos c, if_pos c]
    · refine ev_step (ih (i + 1) o B.2.1 (by omega) (by omega) hf2) fun k hk => ?_
      simp only [swap_exchange.l0]
      rw [if_pos (by omega), if_pos (by omega), hbk, Option.bind_some, if_pos hf1, hct, Option.bind_some, hfl, if_pos (by omega), if_neg c, if_neg c, hw]
      exact hk
/-- The document's controls. -/
theorem rctlB_ev (l : List Int) (hl : l.length ≤ 9000) : Ev (fun k => ductusref26_Controls.f k l) (l.filter opc) := rctl_ev l (by omega)
def cntM (l : List Int) : Int := ((l.filter nctl).length : Int)
theorem plcs_le (l : List Int) (i j : Int) (h0 : 0 ≤ i) (h : i ≤ j) (hj : j ≤ cntM l) : rd (plcs l) i ≤ rd (plcs l) j := by
  unfold cntM at hj
  obtain ⟨a, rfl⟩ := Int.eq_ofNat_of_zero_le h0
  obtain ⟨b, rfl⟩ := Int.eq_ofNat_of_zero_le (Int.le_trans h0 h)
  by_cases e : a = b
  · subst e
    exact Int.le_refl _
  · exact Int.le_of_lt (plcs_mono l a b (by omega) (by omega))
theorem plcs_rng (l : List Int) (i : Int) (h0 : 0 ≤ i) (hj : i ≤ cntM l) : 0 ≤ rd (plcs l) i ∧ rd (plcs l) i ≤ (l.length : Int) := by
  unfold cntM at hj
  obtain ⟨a, rfl⟩ := Int.eq_ofNat_of_zero_le h0
  have hlt : a < (plcs l).length := by rw [plcs_len]; omega
  have := plcs_in l _ (List.getElem_mem hlt)
  rw [rd_get (plcs l) a hlt]
  exact this
/-- What a span's place is. -/
theorem back_at (l : List Int) (hl : l.length ≤ 9000) (a b : Int) (h0 : 0 ≤ a) (h1 : a ≤ b) (h2 : b ≤ cntM l) :
    backOf (plcs l) a b = (rd (plcs l) a, (if b > a then rd (plcs l) (b - 1) + 1 else rd (plcs l) a), true) := by
  unfold backOf
  have hp : b < ((plcs l).length : Int) := by
    rw [plcs_len]
    unfold cntM at h2
    omega
  rw [if_pos ⟨h0, h1, hp⟩]
  by_cases h : b > a
  · rw [if_pos h, if_pos h]
    have := plcs_rng l (b - 1) (by omega) (by omega)
    rw [wrap_id (by omega) (by omega)]
  · rw [if_neg h, if_neg h]
theorem back_fit (l : List Int) (hl : l.length ≤ 9000) (a b : Int) (h0 : 0 ≤ a) (h1 : a ≤ b) (h2 : b ≤ cntM l) :
    0 ≤ (backOf (plcs l) a b).1 ∧ (backOf (plcs l) a b).1 ≤ (backOf (plcs l) a b).2.1 ∧ (backOf (plcs l) a b).2.1 ≤ (l.length : Int) ∧ ∀ c : Int, b ≤ c → c ≤ cntM l → (backOf (plcs l) a b).2.1 ≤ rd (plcs l) c := by
  rw [back_at l hl a b h0 h1 h2]
  have r1 := plcs_rng l a h0 (by omega)
  by_cases h : b > a
  · simp only [if_pos h]
    have e := plcs_le l a (b - 1) h0 (by omega) (by omega)
    obtain ⟨x, hx⟩ := Int.eq_ofNat_of_zero_le (show 0 ≤ b - 1 by omega)
    have e2 := plcs_lt l x (by unfold cntM at h2; omega)
    rw [← hx] at e2
    refine ⟨r1.1, by omega, by omega, fun c hc hc2 => ?_⟩
    obtain ⟨y, hy⟩ := Int.eq_ofNat_of_zero_le (show 0 ≤ c by omega)
    have e3 := plcs_mono l x y (by omega) (by unfold cntM at hc2; omega)
    rw [← hx, ← hy] at e3
    omega
  · simp only [if_neg h]
    exact ⟨r1.1, Int.le_refl _, r1.2, fun c hc hc2 => plcs_le l a c h0 (by omega) hc2⟩
theorem fits_of (l : List Int) (hl : l.length ≤ 9000) : ∀ (sp : List S39) (last : Int), Good (cntM l) sp → 0 ≤ last → last ≤ (l.length : Int) → (∀ s ∈ sp, last ≤ rd (plcs l) s.f0) → Fits l (plcs l) sp last
  | [], last, hg, h0, h1, _ => ⟨h0, h1⟩
  | s :: sp, last, hg, h0, h1, h2 => by
    obtain ⟨b0, b1, b2⟩ := hg.1 s (by simp)
    obtain ⟨f0, f1, f2, f3⟩ := back_fit l hl s.f0 s.f1 b0 b1 b2
    have hh := h2 s (by simp)
    have hb : (backOf (plcs l) s.f0 s.f1).1 = rd (plcs l) s.f0 := by rw [back_at l hl _ _ b0 b1 b2]
    refine ⟨⟨h0, by omega, f1, f2⟩, fits_of l hl sp _ ⟨fun t ht => hg.1 t (by simp [ht]), (List.pairwise_cons.1 hg.2).2⟩ (by omega) f2 fun t ht => ?_⟩
    have e := (List.pairwise_cons.1 hg.2).1 t ht
    obtain ⟨c0, c1, c2⟩ := hg.1 t (by simp [ht])
    exact f3 t.f0 e (by omega)
theorem fits0 (l : List Int) (hl : l.length ≤ 9000) (sp : List S39) (hg : Good (cntM l) sp) : Fits l (plcs l) sp 0 :=
  fits_of l hl sp 0 hg (by omega) (by omega) fun s hs => (plcs_rng l s.f0 (hg.1 s hs).1 (by have := hg.1 s hs; omega)).1

def okM (l w : List Int) (sp : List S39) : Bool := decide (allR l) && (decide (allR w) && rightM sp (cntM l))
theorem okM_right {l w : List Int} {sp : List S39} (h : okM l w sp = true) : rightM sp (cntM l) = true := by
  unfold okM at h
  simp only [Bool.and_eq_true] at h
  exact h.2.2
def allM (l : List Int) (sp : List S39) (w : List Int) : List Int × Int := if okM l w sp = true then exM l (plcs l) (w.filter nctl) sp [] 0 else ([], 1)
theorem plcs_cnt (l : List Int) (hl : l.length ≤ 9000) : wrap64 (((plcs l).length : Int) - 1) = cntM l := by
  have h1 := plcs_len l
  have h2 := List.length_filter_le nctl l
  unfold cntM
  rw [wrap_id (by omega) (by omega)]
  omega
theorem looked_ev (l w : List Int) (sp : List S39) (hl : l.length ≤ 500) (hs : sp.length ≤ 500) (hw : w.length ≤ 500) : Ev (fun k => swap_looked.f k l sp w) (plcs l, okM l w sp) := by
  have hm := plcs_cnt l (by omega)
  refine ev_same2 (ev_and (normOf_ev l (by omega)) (scontains_ev l (by omega))) (ev_and (scontains_ev w (by omega)) (scan_ev sp (cntM l) hs)) fun k hk hk2 => ?_
  obtain ⟨e1, e2⟩ := ev_fst hk
  obtain ⟨e3, e4⟩ := ev_fst hk2
  unfold swap_looked.f okM
  rw [e1, Option.bind_some, e2, Option.bind_some]
  by_cases h1 : allR l
  · rw [decide_eq_true h1, if_neg (by simp), e3, Option.bind_some]
    by_cases h2 : allR w
    · rw [decide_eq_true h2, if_neg (by simp), hm, e4, Option.bind_some]
      rfl
    · rw [decide_eq_false h2, if_pos (by simp)]
      rfl
  · rw [decide_eq_false h1, if_pos (by simp)]
    rfl
theorem plcs_short (l : List Int) (hl : l.length ≤ 500) : (plcs l).length ≤ 501 := by
  have h1 := plcs_len l
  have h2 := List.length_filter_le nctl l
  omega
theorem exch_ev (l w : List Int) (sp : List S39) (hl : l.length ≤ 500) (hs : sp.length ≤ 500) (hw : w.length ≤ 500) (hg : Good (cntM l) sp) : Ev (fun k => swap_exchange.f k l (plcs l) sp w) (exM l (plcs l) (w.filter nctl) sp [] 0) := by
  have h2 := List.length_filter_le nctl w
  refine ev_same (ex_loop l (plcs l) (w.filter nctl) sp hl (plcs_short l hl) (by omega) hs sp.length 0 [] 0 (by omega) (by simp) (fits0 l (by omega) sp hg)) fun k hk => ?_
  unfold swap_exchange.f
  rw [splain_eq w (by omega), Option.bind_some]
  exact hk
theorem all_ev (l w : List Int) (sp : List S39) (hl : l.length ≤ 500) (hs : sp.length ≤ 500) (hw : w.length ≤ 500) : Ev (fun k => swap_All.f k l sp w) (allM l sp w) := by
  by_cases h : okM l w sp = true
  · refine ev_same2 (looked_ev l w sp hl hs hw) (exch_ev l w sp hl hs hw (right_good (okM_right h))) fun k h1 h2 => ?_
    unfold swap_All.f allM
    rw [h1, Option.bind_some, if_pos h, if_pos h]
    exact h2
  · refine ev_same (looked_ev l w sp hl hs hw) fun k h1 => ?_
    unfold swap_All.f allM
    rw [h1, Option.bind_some, if_neg h, if_neg h]
end Go.Proofs.Ythgmkbghdobmlaa.P
namespace Go.Proofs.Ythgmkbghdobmlaa.P
open Go.RowKit Go.Proofs.YthgmkbghdobmlaaW.PrintWords Go.Proofs.YthgmkbghdobmlaaW.PrintLast Go.Proofs.YthgmkbghdobmlaaW.PrintMore
set_option linter.unusedVariables false
set_option linter.unusedSimpArgs false

theorem alive27 : Ev (fun k => ductuslaw27_alive.f k) true := Ev.of ductuslaw27_alive.mono (k := 300) (by decide +kernel)
theorem ints_ev (a : List Int) (h : a.length < 9223372036854775807) : Ev (fun k => ductusref01_Ints.f k a a) true := ⟨a.length + 1, fun k hk => ints_same k a h (by omega)⟩
theorem great_no {l0 : List Int} {l1 : List S39} {l2 : List Int} (h0 : l0.length ≤ 500) (h1 : l1.length ≤ 500) (h2 : l2.length ≤ 500) : ductuslaw27_great.f l0 l1 l2 = some false := by
  unfold ductuslaw27_great.f
  rw [if_neg (by omega), if_neg (by omega), decide_eq_false (by omega)]
theorem great_yes {l0 : List Int} {l1 : List S39} {l2 : List Int} (h : ¬ (l0.length ≤ 500 ∧ l1.length ≤ 500 ∧ l2.length ≤ 500)) : ductuslaw27_great.f l0 l1 l2 = some true := by
  unfold ductuslaw27_great.f
  by_cases h0 : l0.length ≤ 500
  · rw [if_neg (by omega)]
    by_cases h1 : l1.length ≤ 500
    · rw [if_neg (by omega), decide_eq_true (by omega)]
    · rw [if_pos (by omega)]
  · rw [if_pos (by omega)]
theorem opc_ctl {c : Int} (h : opc c = true) : ctl c = true := by
  unfold opc opcK closerK at h
  unfold ctl ctlK opnK outK
  generalize cls c = k at h ⊢
  simp only [Bool.or_eq_true, decide_eq_true_eq, beq_iff_eq, List.mem_cons, List.not_mem_nil, or_false]
  simp only [Bool.or_eq_true, decide_eq_true_eq] at h
  rcases h with h | h
  · split at h
    · omega
    · split at h
      · omega
      · exact absurd rfl h
  · omega
theorem plain_opc (l : List Int) : (l.filter nctl).filter opc = [] := by
  rw [List.filter_eq_nil_iff]
  intro x hx h
  have := opc_ctl h
  have h2 := (List.mem_filter.1 hx).2
  unfold nctl at h2
  rw [this] at h2
  exact absurd h2 (by decide)
theorem filter_two (p : Int → Bool) (l : List Int) : (l.filter p).filter p = l.filter p := by
  rw [List.filter_filter]
  simp
/-- What an exchange can end in. -/
theorem ex_ends (l at_ pl : List Int) : ∀ (sp : List S39) (out : List Int) (last : Int), exM l at_ pl sp out last = ([], 2) ∨ ∃ o, exM l at_ pl sp out last = (o, 0) ∧ o.length ≤ 8000
  | [], out, last => by
    simp only [exM]
    by_cases c : (((out ++ l.drop last.toNat).length : Nat) : Int) > 8000
    · rw [if_pos c]
      exact .inl rfl
    · rw [if_neg c]
      exact .inr ⟨_, rfl, by omega⟩
  | s :: sp, out, last => by
    simp only [exM]
    split
    · exact .inl rfl
    · exact ex_ends l at_ pl sp _ _
/-- The exchange leaves the controls. -/
theorem ex_ctl (l w at_ : List Int) : ∀ (sp : List S39) (out : List Int) (last : Int) (o : List Int), Fits l at_ sp last → exM l at_ (w.filter nctl) sp out last = (o, 0) → o.filter opc = out.filter opc ++ (l.drop last.toNat).filter opc
  | [], out, last, o, hf, he => by
    simp only [exM] at he
    split at he
    · exact absurd (congrArg Prod.snd he) (show ¬ (2 : Int) = 0 by decide)
    · obtain rfl := congrArg Prod.fst he
      rw [List.filter_append]
  | s :: sp, out, last, o, hf, he => by
    obtain ⟨⟨g0, g1, g2, g3⟩, hf2⟩ := hf
    simp only [exM] at he
    split at he
    · exact absurd (congrArg Prod.snd he) (show ¬ (2 : Int) = 0 by decide)
    · have ih := ex_ctl l w at_ sp _ _ o hf2 he
      obtain ⟨B, hB⟩ : ∃ B, backOf at_ s.f0 s.f1 = B := ⟨_, rfl⟩
      rw [hB] at ih g1 g2 g3
      have cut : ∀ a b : Nat, a ≤ b → b ≤ l.length → l.drop a = (l.take b).drop a ++ l.drop b := fun a b hab hbl => by
        conv => lhs; rw [← List.take_append_drop b l]
        exact List.drop_append_of_le_length (by rw [List.length_take]; omega)
      rw [ih, List.filter_append, List.filter_append, List.filter_append, filter_two, plain_opc, List.append_nil, cut last.toNat B.1.toNat (by omega) (by omega), cut B.1.toNat B.2.1.toNat (by omega) (by omega), List.filter_append, List.filter_append, List.append_assoc, List.append_assoc]
theorem ex_allR (l at_ pl : List Int) (hl : allR l) (hp : allR pl) : ∀ (sp : List S39) (out : List Int) (last : Int) (o : List Int), allR out → exM l at_ pl sp out last = (o, 0) → allR o
  | [], out, last, o, ho, he => by
    simp only [exM] at he
    split at he
    · exact absurd (congrArg Prod.snd he) (show ¬ (2 : Int) = 0 by decide)
    · obtain rfl := congrArg Prod.fst he
      intro c hc
      rcases List.mem_append.1 hc with h | h
      · exact ho c h
      · exact hl c (List.mem_of_mem_drop h)
  | s :: sp, out, last, o, ho, he => by
    simp only [exM] at he
    split at he
    · exact absurd (congrArg Prod.snd he) (show ¬ (2 : Int) = 0 by decide)
    · refine ex_allR l at_ pl hl hp sp _ _ o (fun c hc => ?_) he
      rcases List.mem_append.1 hc with h | h
      · rcases List.mem_append.1 h with h | h
        · rcases List.mem_append.1 h with h | h
          · exact ho c h
          · exact hl c (List.mem_of_mem_take (List.mem_of_mem_drop h))
        · exact hp c h
      · exact hl c (List.mem_of_mem_take (List.mem_of_mem_drop (List.mem_filter.1 h).1))
end Go.Proofs.Ythgmkbghdobmlaa.P
