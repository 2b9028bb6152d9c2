/- Texts of this claim put together by a program of its own (Px22, PInts, PPlaces, PMirC, PMir, PFold, PNormB, PEv), what the law does not use left out: each part's statements bear their own conditions. -/
import Derived.Test.YthgmkbghdobmlaaC0
import Derived.Test.YthgmkbghdobmlaaC5
import Derived.Test.YthgmkbghdobmlaaC6
import Derived.Test.YthgmkbghdobmlaaC8
import Derived.Test.YthgmkbghdobmlaaC4
import Derived.Test.YthgmkbghdobmlaaC2
import Derived.Test.YthgmkbghdobmlaaC3
import Derived.Test.YthgmkbghdobmlaaC1
import Derived.Test.YthgmkbghdobmlaaC7
namespace Go.Proofs.Ythgmkbghdobmlaa.P
open Go.RowKit Go.Proofs.YthgmkbghdobmlaaW.PrintWords Go.Proofs.YthgmkbghdobmlaaW.PrintLast Go.Proofs.YthgmkbghdobmlaaW.PrintMore
attribute [local go_sem] max2_int min2_int max_two min_two max_three min_three max_four min_four   -- for this text's walks alone
set_option linter.unusedVariables false
set_option linter.unusedSimpArgs false

mutual
def ductuslaw27_SwapNone.j0 : Nat → List Int → Int → List Int → Int → List Int → Int → Bool → List Int → List (S39) → List Int → Option (Bool)
  | 0, _, _, _, _, _, _, _, _, _, _ => none
  | k + 1, x3, x4, x5, x6, x7, x8, x46, x663000, x663001, x663002 => if x46 = true then (if x4 = 1 then (if (x3.length : Int) = 0 then (some true) else (if x8 = 1 then (some ((x7.length : Int) == 0)) else (none))) else (if x8 = 1 then (some ((x7.length : Int) == 0)) else (none))) else (ductuslaw27_SwapNone.l0 k x3 x5 x6 x7 0 0 x663000 x663001 x663002)
def ductuslaw27_SwapNone.l0 : Nat → List Int → List Int → Int → List Int → Int → Int → List Int → List (S39) → List Int → Option (Bool)
  | 0, _, _, _, _, _, _, _, _, _ => none
  | k + 1, x3, x5, x6, x7, x9, x10, x663000, x663001, x663002 => if x10 < (x663001.length : Int) then (if 0 ≤ x10 then (ductuslaw27_SwapNone.l0 k x3 x5 x6 x7 (wrap64 ((wrap64 (x9 + ((rd_T39 x663001 x10).f1))) - ((rd_T39 x663001 x10).f0))) (wrap64 (x10 + 1)) x663000 x663001 x663002) else (none)) else (if x6 = 0 then ((ductusref01_Ints.f k x3 x663000).bind fun t679 => (if t679 = true then ((ductusref01_Ints.f k x5 x663000).bind fun t680 => (if t680 = true then ((ductusref27_Plain.f k x7).bind fun t681 => ((ductusref27_Plain.f k x663000).bind fun t684 => (some ((wrap64 ((t681.length : Int) + x9)) == (t684.length : Int))))) else (none))) else (none))) else (none))
end
def ductuslaw27_SwapNone.f (k : Nat) (l0_0 : List Int) (l0_1 : List (S39)) (l0_2 : List Int) : Option (Bool) := (ductuslaw27_alive.f k).bind fun t663 => (if t663 = true then ((ductuslaw27_great.f l0_0 l0_1 l0_2).bind fun t664 => (if t664 = true then (some true) else ((swap_All.f k l0_0 ([] : List (S39)) l0_2).bind fun bt665 => ((swap_Some.f k l0_0 l0_1 ([] : List Int) l0_2).bind fun bt669 => ((swap_All.f k l0_0 l0_1 ([] : List Int)).bind fun bt673 => (if bt665.2 = 0 then (ductuslaw27_SwapNone.j0 k bt665.1 bt665.2 bt669.1 bt669.2 bt673.1 bt673.2 (bt673.2 != 0) l0_0 l0_1 l0_2) else (ductuslaw27_SwapNone.j0 k bt665.1 bt665.2 bt669.1 bt669.2 bt673.1 bt673.2 true l0_0 l0_1 l0_2))))))) else (none))
def ductuslaw27_SwapNone.T14 : Bool × List (List Nat × List Nat) := (true, [([], []), ([], []), ([1], [1]), ([], []), ([2, 3], [2, 3]), ([4], [4]), ([5], [5]), ([0, 6], [0, 6]), ([], []), ([8], [8]), ([], []), ([9, 10], [9, 10]), ([11], [11]), ([12], [12]), ([7, 13], [7, 13]), ([14, 0, 1, 2, 3, 4, 5, 6, 7, 8, 9, 10, 11, 12, 13, 14], [0, 14])])
def ductuslaw27_SwapNone.B14 : List Nat := [0, 0, 2, 0, 14, 30, 62, 127, 0, 256, 0, 1792, 3840, 7936, 16383, 32767]
theorem ductuslaw27_SwapNone.tab14 : rtab .any (opsOf Try.f6 14) = ductuslaw27_SwapNone.T14 := by kernel_rfl
theorem ductuslaw27_SwapNone.bits14 : waitsOk ductuslaw27_SwapNone.T14.2 ductuslaw27_SwapNone.B14 = true := by kernel_rfl
def ductuslaw27_SwapNone.T15 : Bool × List (List Nat × List Nat) := (true, [([], []), ([0], [0]), ([1], [1]), ([2], [2]), ([2], [2]), ([4, 2], [2, 4]), ([3, 5, 2, 2], [2, 3, 5]), ([2, 6], [2, 6]), ([7, 6], [7]), ([8], [8]), ([8], [8]), ([10, 8], [8, 10]), ([9, 11, 8, 8], [8, 9, 11]), ([8, 12], [8, 12]), ([13, 12], [13]), ([14], [14]), ([15, 14, 14], [14, 15]), ([16, 14], [14, 16]), ([14], [14]), ([17, 18, 14], [14, 17, 18]), ([14], [14]), ([20, 14], [14, 20]), ([21, 16, 14], [14, 21]), ([22, 14], [14, 22]), ([19, 23, 14], [14, 19, 23]), ([14, 24], [14, 24]), ([25, 22, 0, 1, 2, 3, 4, 5, 6, 7, 8, 9, 10, 11, 12, 13, 14, 15, 16, 17, 18, 19, 20, 21, 22, 23, 24, 25], [25])])
def ductuslaw27_SwapNone.B15 : List Nat := [0, 1, 3, 7, 7, 23, 63, 127, 255, 511, 511, 1535, 4095, 8191, 16383, 32767, 65535, 131071, 32767, 524287, 32767, 1081343, 3276799, 7471103, 16777215, 33554431, 67108863]
theorem ductuslaw27_SwapNone.tab15 : rtab .any (opsOf Try.f6 15) = ductuslaw27_SwapNone.T15 := by kernel_rfl
theorem ductuslaw27_SwapNone.bits15 : waitsOk ductuslaw27_SwapNone.T15.2 ductuslaw27_SwapNone.B15 = true := by kernel_rfl
set_option maxHeartbeats 8000000 in
set_option maxRecDepth 100000 in
theorem ductuslaw27_SwapNone.calls (k : Nat) (A0_0 : Option Addr) (c0_0 : Nat) (l0_0 : List Int) (A0_1 : Option Addr) (c0_1 : Nat) (l0_1 : List (S39)) (A0_2 : Option Addr) (c0_2 : Nat) (l0_2 : List Int) (r : Bool) (w : World) (hr0_0 : Kd.C (Kd.int .i64) w A0_0 l0_0.length l0_0) (hc0_0 : l0_0.length ≤ c0_0) (hr0_1 : Kd.C k39 w A0_1 l0_1.length l0_1) (hc0_1 : l0_1.length ≤ c0_1) (hr0_2 : Kd.C (Kd.int .i64) w A0_2 l0_2.length l0_2) (hc0_2 : l0_2.length ≤ c0_2) (h : ductuslaw27_SwapNone.f k l0_0 l0_1 l0_2 = some r) :
    Calls Try.prog 6 #[.agg #[.slice A0_0 l0_0.length c0_0, .slice A0_1 l0_1.length c0_1, .slice A0_2 l0_2.length c0_2]] w fun e w' => e = .returned (.bool r) ∧ Below w.heap.size w w' := by
  have hu25 := Try.underlying25
  have HR0_0 := Aside0.mk hr0_0
  have HC0_0 := Aside0.mk hc0_0
  clear hr0_0 hc0_0
  have HR0_1 := Aside0.mk hr0_1
  have HC0_1 := Aside0.mk hc0_1
  clear hr0_1 hc0_1
  have HR0_2 := Aside0.mk hr0_2
  have HC0_2 := Aside0.mk hc0_2
  clear hr0_2 hc0_2
  have HB := Aside0.mk (Below.refl w.heap.size w)
  have H : ((ductuslaw27_alive.f k).bind fun t663 => (if t663 = true then ((ductuslaw27_great.f l0_0 l0_1 l0_2).bind fun t664 => (if t664 = true then (some true) else ((swap_All.f k l0_0 ([] : List (S39)) l0_2).bind fun bt665 => ((swap_Some.f k l0_0 l0_1 ([] : List Int) l0_2).bind fun bt669 => ((swap_All.f k l0_0 l0_1 ([] : List Int)).bind fun bt673 => (if bt665.2 = 0 then (ductuslaw27_SwapNone.j0 k bt665.1 bt665.2 bt669.1 bt669.2 bt673.1 bt673.2 (bt673.2 != 0) l0_0 l0_1 l0_2) else (ductuslaw27_SwapNone.j0 k bt665.1 bt665.2 bt669.1 bt669.2 bt673.1 bt673.2 true l0_0 l0_1 l0_2))))))) else (none))) = some r := h
  clear h
  replace H := Option.bind_eq_some_iff.mp H
  obtain ⟨t663, A20, H⟩ := H
  replace H : (if t663 = true then ((ductuslaw27_great.f l0_0 l0_1 l0_2).bind fun t664 => (if t664 = true then (some true) else ((swap_All.f k l0_0 ([] : List (S39)) l0_2).bind fun bt665 => ((swap_Some.f k l0_0 l0_1 ([] : List Int) l0_2).bind fun bt669 => ((swap_All.f k l0_0 l0_1 ([] : List Int)).bind fun bt673 => (if bt665.2 = 0 then (ductuslaw27_SwapNone.j0 k bt665.1 bt665.2 bt669.1 bt669.2 bt673.1 bt673.2 (bt673.2 != 0) l0_0 l0_1 l0_2) else (ductuslaw27_SwapNone.j0 k bt665.1 bt665.2 bt669.1 bt669.2 bt673.1 bt673.2 true l0_0 l0_1 l0_2))))))) else (none)) = some r := H
  have A2 := Aside0.mk A20
  clear A20
  by_cases c3 : t663 = true
  rotate_left
  · replace c3 := Bool.eq_false_iff.mpr c3
    subst c3
    have H1 : (none) = some r := by rw [if_neg (show ¬ (false = true) by decide)] at H; exact H
    clear H
    have H := H1
    clear H1
    exact absurd H (by simp)
  subst c3
  have H1 : ((ductuslaw27_great.f l0_0 l0_1 l0_2).bind fun t664 => (if t664 = true then (some true) else ((swap_All.f k l0_0 ([] : List (S39)) l0_2).bind fun bt665 => ((swap_Some.f k l0_0 l0_1 ([] : List Int) l0_2).bind fun bt669 => ((swap_All.f k l0_0 l0_1 ([] : List Int)).bind fun bt673 => (if bt665.2 = 0 then (ductuslaw27_SwapNone.j0 k bt665.1 bt665.2 bt669.1 bt669.2 bt673.1 bt673.2 (bt673.2 != 0) l0_0 l0_1 l0_2) else (ductuslaw27_SwapNone.j0 k bt665.1 bt665.2 bt669.1 bt669.2 bt673.1 bt673.2 true l0_0 l0_1 l0_2))))))) = some r := by rw [if_pos rfl] at H; exact H
  clear H
  have H := H1
  clear H1
  replace H := Option.bind_eq_some_iff.mp H
  obtain ⟨t664, A40, H⟩ := H
  replace H : (if t664 = true then (some true) else ((swap_All.f k l0_0 ([] : List (S39)) l0_2).bind fun bt665 => ((swap_Some.f k l0_0 l0_1 ([] : List Int) l0_2).bind fun bt669 => ((swap_All.f k l0_0 l0_1 ([] : List Int)).bind fun bt673 => (if bt665.2 = 0 then (ductuslaw27_SwapNone.j0 k bt665.1 bt665.2 bt669.1 bt669.2 bt673.1 bt673.2 (bt673.2 != 0) l0_0 l0_1 l0_2) else (ductuslaw27_SwapNone.j0 k bt665.1 bt665.2 bt669.1 bt669.2 bt673.1 bt673.2 true l0_0 l0_1 l0_2)))))) = some r := H
  have A4 := Aside0.mk A40
  clear A40
  by_cases c5 : t664 = true
  · subst c5
    have H1 : (some true) = some r := by rw [if_pos rfl] at H; exact H
    clear H
    have H := H1
    clear H1
    obtain rfl := Option.some.inj H
    go_enter Try.func6, Try.ntmps6
    go_wp2_with (first | ((with_reducible refine gate_dst (N := 1) rfl ?_); (try (refine gate_guard (by rfl) ?_; dsimp only)); refine box_event ?hg (N := 1) ?hd (cs := #[.slice A0_0 l0_0.length c0_0, .slice A0_1 l0_1.length c0_1, .slice A0_2 l0_2.length c0_2]) (t := 25) ?hr ?_; (case hd => rfl); (case hg => rfl); (case hr => first | (go_simp; done) | (go_simp; rfl)); intro gb662 hg w6 hbox hb; have n0_ := Aside0.mk (below_step (by repeat (first | (with_reducible first | exact HB.out | apply below_alloc | apply pw_below_drewN | apply below_drew1) | exact HB.out)) hb); have n1_ := Aside0.mk (hbox); have n2_ := Aside0.mk ((by rw [hg]; exact (below_size (by repeat (first | (with_reducible first | exact HB.out | apply below_alloc | apply pw_below_drewN | apply below_drew1) | exact HB.out))) : w.heap.size ≤ gb662)); have n3_ := Aside0.mk ((by rw [hg]; exact (below_size (by repeat (first | (with_reducible first | exact HB.out | apply below_alloc | apply pw_below_drewN | apply below_drew1) | exact HB.out))) : w.heap.size ≤ gb662)); clear HB; have HB := n0_; have BK662 := n1_; have GW662 := n2_; have GE662 := n3_; clear n0_ n1_ n2_ n3_; clear hb hbox hg) | ((with_reducible refine gate_callee (f := 8) rfl ?_); refine goesL_ (some 11) rfl rfl Try.func8 (by kernel_rfl) rfl #[] rfl (by (try simp only [List.map_toArray, List.map_cons, List.map_nil]); first | done | rfl | (simp only [List.length_drop, List.length_take]; rfl)) ?_; (with_reducible refine (ductuslaw27_alive.calls k  true _ A2.out).mono ?_); rintro e w7 ⟨rfl, hb⟩; refine ⟨_, rfl, ?_⟩; have n0_ := Aside0.mk (blk_below (g := gb662) (o := .cells #[.slice A0_0 l0_0.length c0_0, .slice A0_1 l0_1.length c0_1, .slice A0_2 l0_2.length c0_2] 25 (0, 0)) (by (with_reducible repeat (first | refine blk_drewN ?_ _ | refine blk_drew ?_ | refine blk_alloc ?_ _)); exact BK662.out) hb); have n1_ := Aside0.mk (below_step (by repeat (first | (with_reducible first | exact HB.out | apply below_alloc | apply pw_below_drewN | apply below_drew1 | refine below_set ?_ GE662.out) | exact HB.out)) hb); clear BK662; clear HB; have BK662 := n0_; have HB := n1_; clear n0_ n1_; (try clear hb); (try clear hb2); (try clear hk); (try clear hi); have hcz8_0 : w7.cell? ⟨gb662, 0, none⟩ = some (.slice A0_0 l0_0.length c0_0) := (blk_cell BK662.out 0).trans rfl; have hcz8_1 : w7.cell? ⟨gb662, 1, none⟩ = some (.slice A0_1 l0_1.length c0_1) := (blk_cell BK662.out 1).trans rfl; have hcz8_2 : w7.cell? ⟨gb662, 2, none⟩ = some (.slice A0_2 l0_2.length c0_2) := (blk_cell BK662.out 2).trans rfl; have hfz8_0 := blk_frozen BK662.out 0; have hfz8_1 := blk_frozen BK662.out 1; have hfz8_2 := blk_frozen BK662.out 2) | ((with_reducible refine gate_callee (f := 9) rfl ?_); refine goesL_ (some 14) rfl rfl Try.func9 (by kernel_rfl) rfl #[.agg #[.slice A0_0 l0_0.length c0_0, .slice A0_1 l0_1.length c0_1, .slice A0_2 l0_2.length c0_2]] rfl (by (try simp only [List.map_toArray, List.map_cons, List.map_nil]); first | done | rfl | (simp only [List.length_drop, List.length_take]; rfl)) ?_; (with_reducible refine (ductuslaw27_great.calls _ _ l0_0 _ _ l0_1 _ _ l0_2 true _ ?side1 ?side2 ?side3 ?side4 ?side5 ?side6 A4.out).mono ?_); (case side1 => repeat (first | exact (Kd.C_below HR0_0.out HB.out) | (with_reducible refine Kd.C_alloc ?_ _) | (with_reducible refine Kd.C_drewN ?_ _) | (with_reducible refine Kd.C_drew ?_))); (case side2 => exact HC0_0.out); (case side3 => repeat (first | exact (Kd.C_below HR0_1.out HB.out) | (with_reducible refine Kd.C_alloc ?_ _) | (with_reducible refine Kd.C_drewN ?_ _) | (with_reducible refine Kd.C_drew ?_))); (case side4 => exact HC0_1.out); (case side5 => repeat (first | exact (Kd.C_below HR0_2.out HB.out) | (with_reducible refine Kd.C_alloc ?_ _) | (with_reducible refine Kd.C_drewN ?_ _) | (with_reducible refine Kd.C_drew ?_))); (case side6 => exact HC0_2.out); rintro e w9 ⟨rfl, hb⟩; refine ⟨_, rfl, ?_⟩; have n0_ := Aside0.mk (blk_below (g := gb662) (o := .cells #[.slice A0_0 l0_0.length c0_0, .slice A0_1 l0_1.length c0_1, .slice A0_2 l0_2.length c0_2] 25 (0, 0)) (by (with_reducible repeat (first | refine blk_drewN ?_ _ | refine blk_drew ?_ | refine blk_alloc ?_ _)); exact BK662.out) hb); have n1_ := Aside0.mk (below_step (by repeat (first | (with_reducible first | exact HB.out | apply below_alloc | apply pw_below_drewN | apply below_drew1 | refine below_set ?_ GE662.out) | exact HB.out)) hb); clear BK662; clear HB; have BK662 := n0_; have HB := n1_; clear n0_ n1_; (try clear hb); (try clear hb2); (try clear hk); (try clear hi)))
    go_ret
    exact ⟨by first | rfl | (simp [errW_none, errW_some] <;> rfl) | (simp [*, errW_none, errW_some] <;> rfl), by repeat (first | (with_reducible first | exact HB.out | apply below_alloc | apply pw_below_drewN | apply below_drew1 | refine below_set ?_ GE662.out) | exact HB.out)⟩
  replace c5 := Bool.eq_false_iff.mpr c5
  subst c5
  have H1 : ((swap_All.f k l0_0 ([] : List (S39)) l0_2).bind fun bt665 => ((swap_Some.f k l0_0 l0_1 ([] : List Int) l0_2).bind fun bt669 => ((swap_All.f k l0_0 l0_1 ([] : List Int)).bind fun bt673 => (if bt665.2 = 0 then (ductuslaw27_SwapNone.j0 k bt665.1 bt665.2 bt669.1 bt669.2 bt673.1 bt673.2 (bt673.2 != 0) l0_0 l0_1 l0_2) else (ductuslaw27_SwapNone.j0 k bt665.1 bt665.2 bt669.1 bt669.2 bt673.1 bt673.2 true l0_0 l0_1 l0_2))))) = some r := by rw [if_neg (show ¬ (false = true) by decide)] at H; exact H
  clear H
  have H := H1
  clear H1
  replace H := Option.bind_eq_some_iff.mp H
  obtain ⟨⟨t665, t666⟩, A100, H⟩ := H
  replace H : ((swap_Some.f k l0_0 l0_1 ([] : List Int) l0_2).bind fun bt669 => ((swap_All.f k l0_0 l0_1 ([] : List Int)).bind fun bt673 => (if t666 = 0 then (ductuslaw27_SwapNone.j0 k t665 t666 bt669.1 bt669.2 bt673.1 bt673.2 (bt673.2 != 0) l0_0 l0_1 l0_2) else (ductuslaw27_SwapNone.j0 k t665 t666 bt669.1 bt669.2 bt673.1 bt673.2 true l0_0 l0_1 l0_2)))) = some r := H
  have A10 := Aside0.mk A100
  clear A100
  replace H := Option.bind_eq_some_iff.mp H
  obtain ⟨⟨t669, t670⟩, A110, H⟩ := H
  replace H : ((swap_All.f k l0_0 l0_1 ([] : List Int)).bind fun bt673 => (if t666 = 0 then (ductuslaw27_SwapNone.j0 k t665 t666 t669 t670 bt673.1 bt673.2 (bt673.2 != 0) l0_0 l0_1 l0_2) else (ductuslaw27_SwapNone.j0 k t665 t666 t669 t670 bt673.1 bt673.2 true l0_0 l0_1 l0_2))) = some r := H
  have A11 := Aside0.mk A110
  clear A110
  replace H := Option.bind_eq_some_iff.mp H
  obtain ⟨⟨t673, t674⟩, A120, H⟩ := H
  replace H : (if t666 = 0 then (ductuslaw27_SwapNone.j0 k t665 t666 t669 t670 t673 t674 (t674 != 0) l0_0 l0_1 l0_2) else (ductuslaw27_SwapNone.j0 k t665 t666 t669 t670 t673 t674 true l0_0 l0_1 l0_2)) = some r := H
  have A12 := Aside0.mk A120
  clear A120
  have HC13 := Aside0.mk H
  clear H
  go_enter Try.func6, Try.ntmps6
  go_upto_region 8 with (first | ((with_reducible refine gate_dst (N := 1) rfl ?_); (try (refine gate_guard (by rfl) ?_; dsimp only)); refine box_event ?hg (N := 1) ?hd (cs := #[.slice A0_0 l0_0.length c0_0, .slice A0_1 l0_1.length c0_1, .slice A0_2 l0_2.length c0_2]) (t := 25) ?hr ?_; (case hd => rfl); (case hg => rfl); (case hr => first | (go_simp; done) | (go_simp; rfl)); intro gb662 hg w14 hbox hb; have n0_ := Aside0.mk (below_step (by repeat (first | (with_reducible first | exact HB.out | apply below_alloc | apply pw_below_drewN | apply below_drew1) | exact HB.out)) hb); have n1_ := Aside0.mk (hbox); have n2_ := Aside0.mk ((by rw [hg]; exact (below_size (by repeat (first | (with_reducible first | exact HB.out | apply below_alloc | apply pw_below_drewN | apply below_drew1) | exact HB.out))) : w.heap.size ≤ gb662)); have n3_ := Aside0.mk ((by rw [hg]; exact (below_size (by repeat (first | (with_reducible first | exact HB.out | apply below_alloc | apply pw_below_drewN | apply below_drew1) | exact HB.out))) : w.heap.size ≤ gb662)); clear HB; have HB := n0_; have BK662 := n1_; have GW662 := n2_; have GE662 := n3_; clear n0_ n1_ n2_ n3_; clear hb hbox hg) | ((with_reducible refine gate_callee (f := 8) rfl ?_); refine goesL_ (some 11) rfl rfl Try.func8 (by kernel_rfl) rfl #[] rfl (by (try simp only [List.map_toArray, List.map_cons, List.map_nil]); first | done | rfl | (simp only [List.length_drop, List.length_take]; rfl)) ?_; (with_reducible refine (ductuslaw27_alive.calls k  true _ A2.out).mono ?_); rintro e w15 ⟨rfl, hb⟩; refine ⟨_, rfl, ?_⟩; have n0_ := Aside0.mk (blk_below (g := gb662) (o := .cells #[.slice A0_0 l0_0.length c0_0, .slice A0_1 l0_1.length c0_1, .slice A0_2 l0_2.length c0_2] 25 (0, 0)) (by (with_reducible repeat (first | refine blk_drewN ?_ _ | refine blk_drew ?_ | refine blk_alloc ?_ _)); exact BK662.out) hb); have n1_ := Aside0.mk (below_step (by repeat (first | (with_reducible first | exact HB.out | apply below_alloc | apply pw_below_drewN | apply below_drew1 | refine below_set ?_ GE662.out) | exact HB.out)) hb); clear BK662; clear HB; have BK662 := n0_; have HB := n1_; clear n0_ n1_; (try clear hb); (try clear hb2); (try clear hk); (try clear hi); have hcz16_0 : w15.cell? ⟨gb662, 0, none⟩ = some (.slice A0_0 l0_0.length c0_0) := (blk_cell BK662.out 0).trans rfl; have hcz16_1 : w15.cell? ⟨gb662, 1, none⟩ = some (.slice A0_1 l0_1.length c0_1) := (blk_cell BK662.out 1).trans rfl; have hcz16_2 : w15.cell? ⟨gb662, 2, none⟩ = some (.slice A0_2 l0_2.length c0_2) := (blk_cell BK662.out 2).trans rfl; have hfz16_0 := blk_frozen BK662.out 0; have hfz16_1 := blk_frozen BK662.out 1; have hfz16_2 := blk_frozen BK662.out 2) | ((with_reducible refine gate_callee (f := 9) rfl ?_); refine goesL_ (some 14) rfl rfl Try.func9 (by kernel_rfl) rfl #[.agg #[.slice A0_0 l0_0.length c0_0, .slice A0_1 l0_1.length c0_1, .slice A0_2 l0_2.length c0_2]] rfl (by (try simp only [List.map_toArray, List.map_cons, List.map_nil]); first | done | rfl | (simp only [List.length_drop, List.length_take]; rfl)) ?_; (with_reducible refine (ductuslaw27_great.calls _ _ l0_0 _ _ l0_1 _ _ l0_2 false _ ?side1 ?side2 ?side3 ?side4 ?side5 ?side6 A4.out).mono ?_); (case side1 => repeat (first | exact (Kd.C_below HR0_0.out HB.out) | (with_reducible refine Kd.C_alloc ?_ _) | (with_reducible refine Kd.C_drewN ?_ _) | (with_reducible refine Kd.C_drew ?_))); (case side2 => exact HC0_0.out); (case side3 => repeat (first | exact (Kd.C_below HR0_1.out HB.out) | (with_reducible refine Kd.C_alloc ?_ _) | (with_reducible refine Kd.C_drewN ?_ _) | (with_reducible refine Kd.C_drew ?_))); (case side4 => exact HC0_1.out); (case side5 => repeat (first | exact (Kd.C_below HR0_2.out HB.out) | (with_reducible refine Kd.C_alloc ?_ _) | (with_reducible refine Kd.C_drewN ?_ _) | (with_reducible refine Kd.C_drew ?_))); (case side6 => exact HC0_2.out); rintro e w17 ⟨rfl, hb⟩; refine ⟨_, rfl, ?_⟩; have n0_ := Aside0.mk (blk_below (g := gb662) (o := .cells #[.slice A0_0 l0_0.length c0_0, .slice A0_1 l0_1.length c0_1, .slice A0_2 l0_2.length c0_2] 25 (0, 0)) (by (with_reducible repeat (first | refine blk_drewN ?_ _ | refine blk_drew ?_ | refine blk_alloc ?_ _)); exact BK662.out) hb); have n1_ := Aside0.mk (below_step (by repeat (first | (with_reducible first | exact HB.out | apply below_alloc | apply pw_below_drewN | apply below_drew1 | refine below_set ?_ GE662.out) | exact HB.out)) hb); clear BK662; clear HB; have BK662 := n0_; have HB := n1_; clear n0_ n1_; (try clear hb); (try clear hb2); (try clear hk); (try clear hi); have hcz18_0 : w17.cell? ⟨gb662, 0, none⟩ = some (.slice A0_0 l0_0.length c0_0) := (blk_cell BK662.out 0).trans rfl; have hcz18_1 : w17.cell? ⟨gb662, 1, none⟩ = some (.slice A0_1 l0_1.length c0_1) := (blk_cell BK662.out 1).trans rfl; have hcz18_2 : w17.cell? ⟨gb662, 2, none⟩ = some (.slice A0_2 l0_2.length c0_2) := (blk_cell BK662.out 2).trans rfl; have hfz18_0 := blk_frozen BK662.out 0; have hfz18_1 := blk_frozen BK662.out 1; have hfz18_2 := blk_frozen BK662.out 2) | ((with_reducible refine gate_callee (f := 10) rfl ?_); refine goesL_ (some 20) rfl rfl Try.func10 (by kernel_rfl) rfl #[.slice A0_0 l0_0.length c0_0, .slice none 0 0, .slice A0_2 l0_2.length c0_2] rfl (by (try simp only [List.map_toArray, List.map_cons, List.map_nil]); first | done | rfl | (simp only [List.length_drop, List.length_take]; rfl)) ?_; (refine (swap_All.calls k _ _ l0_0 _ _ ([] : List (S39)) _ _ l0_2 t665 t666 _ ?side1 ?side2 ?side3 ?side4 ?side5 ?side6 A10.out).mono ?_); (case side1 => repeat (first | exact (Kd.C_below HR0_0.out HB.out) | (with_reducible refine Kd.C_alloc ?_ _) | (with_reducible refine Kd.C_drewN ?_ _) | (with_reducible refine Kd.C_drew ?_))); (case side2 => exact HC0_0.out); (case side3 => exact Kd.C_nil _ _); (case side4 => exact Nat.le_refl _); (case side5 => repeat (first | exact (Kd.C_below HR0_2.out HB.out) | (with_reducible refine Kd.C_alloc ?_ _) | (with_reducible refine Kd.C_drewN ?_ _) | (with_reducible refine Kd.C_drew ?_))); (case side6 => exact HC0_2.out); rintro e w19 ⟨v667, rfl, ho0, hb⟩; refine ⟨_, rfl, ?_⟩; have n0_ := Aside0.mk (Kd.R_lower ho0 (below_size (by repeat (first | (with_reducible first | exact HB.out | apply below_alloc | apply pw_below_drewN | apply below_drew1 | refine below_set ?_ GE662.out) | exact HB.out)))); have n1_ := Aside0.mk (blk_below (g := gb662) (o := .cells #[.slice A0_0 l0_0.length c0_0, .slice A0_1 l0_1.length c0_1, .slice A0_2 l0_2.length c0_2] 25 (0, 0)) (by (with_reducible repeat (first | refine blk_drewN ?_ _ | refine blk_drew ?_ | refine blk_alloc ?_ _)); exact BK662.out) hb); have n2_ := Aside0.mk (below_step (by repeat (first | (with_reducible first | exact HB.out | apply below_alloc | apply pw_below_drewN | apply below_drew1 | refine below_set ?_ GE662.out) | exact HB.out)) hb); clear BK662; clear HB; have HO668 := n0_; have BK662 := n1_; have HB := n2_; clear n0_ n1_ n2_; (try clear hb); (try clear hb2); (try clear hk); (try clear hi); (try clear ho0); have hcz20_0 : w19.cell? ⟨gb662, 0, none⟩ = some (.slice A0_0 l0_0.length c0_0) := (blk_cell BK662.out 0).trans rfl; have hcz20_1 : w19.cell? ⟨gb662, 1, none⟩ = some (.slice A0_1 l0_1.length c0_1) := (blk_cell BK662.out 1).trans rfl; have hcz20_2 : w19.cell? ⟨gb662, 2, none⟩ = some (.slice A0_2 l0_2.length c0_2) := (blk_cell BK662.out 2).trans rfl; have hfz20_0 := blk_frozen BK662.out 0; have hfz20_1 := blk_frozen BK662.out 1; have hfz20_2 := blk_frozen BK662.out 2) | ((with_reducible refine gate_callee (f := 12) rfl ?_); refine goesL_ (some 30) rfl rfl Try.func12 (by kernel_rfl) rfl #[.slice A0_0 l0_0.length c0_0, .slice A0_1 l0_1.length c0_1, .slice none 0 0, .slice A0_2 l0_2.length c0_2] rfl (by (try simp only [List.map_toArray, List.map_cons, List.map_nil]); first | done | rfl | (simp only [List.length_drop, List.length_take]; rfl)) ?_; (refine (swap_Some.calls k _ _ l0_0 _ _ l0_1 _ _ ([] : List Int) _ _ l0_2 t669 t670 _ ?side1 ?side2 ?side3 ?side4 ?side5 ?side6 ?side7 ?side8 A11.out).mono ?_); (case side1 => repeat (first | exact (Kd.C_below HR0_0.out HB.out) | (with_reducible refine Kd.C_alloc ?_ _) | (with_reducible refine Kd.C_drewN ?_ _) | (with_reducible refine Kd.C_drew ?_))); (case side2 => exact HC0_0.out); (case side3 => repeat (first | exact (Kd.C_below HR0_1.out HB.out) | (with_reducible refine Kd.C_alloc ?_ _) | (with_reducible refine Kd.C_drewN ?_ _) | (with_reducible refine Kd.C_drew ?_))); (case side4 => exact HC0_1.out); (case side5 => exact Kd.C_nil _ _); (case side6 => exact Nat.le_refl _); (case side7 => repeat (first | exact (Kd.C_below HR0_2.out HB.out) | (with_reducible refine Kd.C_alloc ?_ _) | (with_reducible refine Kd.C_drewN ?_ _) | (with_reducible refine Kd.C_drew ?_))); (case side8 => exact HC0_2.out); rintro e w21 ⟨v671, rfl, ho0, hb⟩; refine ⟨_, rfl, ?_⟩; have n0_ := Aside0.mk (Kd.R_elder' (by (with_reducible repeat (first | apply Kd.R_alloc | apply Kd.R_drewN | apply Kd.R_drew)); exact HO668.out) (Kd.R_base ho0) hb); have n1_ := Aside0.mk (Kd.R_lower (Kd.R_new' ho0 (Kd.R_lt (by (with_reducible repeat (first | apply Kd.R_alloc | apply Kd.R_drewN | apply Kd.R_drew)); exact HO668.out))) (below_size (by repeat (first | (with_reducible first | exact HB.out | apply below_alloc | apply pw_below_drewN | apply below_drew1 | refine below_set ?_ GE662.out) | exact HB.out)))); have n2_ := Aside0.mk (blk_below (g := gb662) (o := .cells #[.slice A0_0 l0_0.length c0_0, .slice A0_1 l0_1.length c0_1, .slice A0_2 l0_2.length c0_2] 25 (0, 0)) (by (with_reducible repeat (first | refine blk_drewN ?_ _ | refine blk_drew ?_ | refine blk_alloc ?_ _)); exact BK662.out) hb); have n3_ := Aside0.mk (below_step (by repeat (first | (with_reducible first | exact HB.out | apply below_alloc | apply pw_below_drewN | apply below_drew1 | refine below_set ?_ GE662.out) | exact HB.out)) hb); clear HO668; clear BK662; clear HB; have HO668 := n0_; have HO672 := n1_; have BK662 := n2_; have HB := n3_; clear n0_ n1_ n2_ n3_; (try clear hb); (try clear hb2); (try clear hk); (try clear hi); (try clear ho0); have hcz22_0 : w21.cell? ⟨gb662, 0, none⟩ = some (.slice A0_0 l0_0.length c0_0) := (blk_cell BK662.out 0).trans rfl; have hcz22_1 : w21.cell? ⟨gb662, 1, none⟩ = some (.slice A0_1 l0_1.length c0_1) := (blk_cell BK662.out 1).trans rfl; have hcz22_2 : w21.cell? ⟨gb662, 2, none⟩ = some (.slice A0_2 l0_2.length c0_2) := (blk_cell BK662.out 2).trans rfl; have hfz22_0 := blk_frozen BK662.out 0; have hfz22_1 := blk_frozen BK662.out 1; have hfz22_2 := blk_frozen BK662.out 2) | ((with_reducible refine gate_callee (f := 10) rfl ?_); refine goesL_ (some 38) rfl rfl Try.func10 (by kernel_rfl) rfl #[.slice A0_0 l0_0.length c0_0, .slice A0_1 l0_1.length c0_1, .slice none 0 0] rfl (by (try simp only [List.map_toArray, List.map_cons, List.map_nil]); first | done | rfl | (simp only [List.length_drop, List.length_take]; rfl)) ?_; (refine (swap_All.calls k _ _ l0_0 _ _ l0_1 _ _ ([] : List Int) t673 t674 _ ?side1 ?side2 ?side3 ?side4 ?side5 ?side6 A12.out).mono ?_); (case side1 => repeat (first | exact (Kd.C_below HR0_0.out HB.out) | (with_reducible refine Kd.C_alloc ?_ _) | (with_reducible refine Kd.C_drewN ?_ _) | (with_reducible refine Kd.C_drew ?_))); (case side2 => exact HC0_0.out); (case side3 => repeat (first | exact (Kd.C_below HR0_1.out HB.out) | (with_reducible refine Kd.C_alloc ?_ _) | (with_reducible refine Kd.C_drewN ?_ _) | (with_reducible refine Kd.C_drew ?_))); (case side4 => exact HC0_1.out); (case side5 => exact Kd.C_nil _ _); (case side6 => exact Nat.le_refl _); rintro e w23 ⟨v675, rfl, ho0, hb⟩; refine ⟨_, rfl, ?_⟩; have n0_ := Aside0.mk (Kd.R_elder' (by (with_reducible repeat (first | apply Kd.R_alloc | apply Kd.R_drewN | apply Kd.R_drew)); exact HO668.out) (Kd.R_base ho0) hb); have n1_ := Aside0.mk (Kd.R_elder' (by (with_reducible repeat (first | apply Kd.R_alloc | apply Kd.R_drewN | apply Kd.R_drew)); exact HO672.out) (Kd.R_base ho0) hb); have n2_ := Aside0.mk (Kd.R_lower (Kd.R_new' (Kd.R_new' ho0 (Kd.R_lt (by (with_reducible repeat (first | apply Kd.R_alloc | apply Kd.R_drewN | apply Kd.R_drew)); exact HO668.out))) (Kd.R_lt (by (with_reducible repeat (first | apply Kd.R_alloc | apply Kd.R_drewN | apply Kd.R_drew)); exact HO672.out))) (below_size (by repeat (first | (with_reducible first | exact HB.out | apply below_alloc | apply pw_below_drewN | apply below_drew1 | refine below_set ?_ GE662.out) | exact HB.out)))); have n3_ := Aside0.mk (blk_below (g := gb662) (o := .cells #[.slice A0_0 l0_0.length c0_0, .slice A0_1 l0_1.length c0_1, .slice A0_2 l0_2.length c0_2] 25 (0, 0)) (by (with_reducible repeat (first | refine blk_drewN ?_ _ | refine blk_drew ?_ | refine blk_alloc ?_ _)); exact BK662.out) hb); have n4_ := Aside0.mk (below_step (by repeat (first | (with_reducible first | exact HB.out | apply below_alloc | apply pw_below_drewN | apply below_drew1 | refine below_set ?_ GE662.out) | exact HB.out)) hb); clear HO668; clear HO672; clear BK662; clear HB; have HO668 := n0_; have HO672 := n1_; have HO676 := n2_; have BK662 := n3_; have HB := n4_; clear n0_ n1_ n2_ n3_ n4_; (try clear hb); (try clear hb2); (try clear hk); (try clear hi); (try clear ho0)))
  (try simp only [Act.put, List.setIfInBounds_toArray, List.set_cons_zero, List.set_cons_succ])
  go_cut [46] (fun v46 wc => ∃ (kq : Nat) (x46_12 : Bool), v46 = .bool x46_12 ∧ Aside0 (ductuslaw27_SwapNone.j0 kq t665 t666 t669 t670 t673 t674 x46_12 l0_0 l0_1 l0_2 = some r) ∧ Aside0 (kq ≤ k) ∧ Aside0 (Kd.R (Kd.int .i64) 3 wc w.heap.size (fun k_ => some k_ ≠ (v671 : Value).ownBlock ∧ some k_ ≠ (v675 : Value).ownBlock) v667 t665) ∧ Aside0 (Kd.R (Kd.int .i64) 3 wc w.heap.size (fun k_ => some k_ ≠ (v667 : Value).ownBlock ∧ some k_ ≠ (v675 : Value).ownBlock) v671 t669) ∧ Aside0 (Kd.R (Kd.int .i64) 3 wc w.heap.size (fun k_ => some k_ ≠ (v667 : Value).ownBlock ∧ some k_ ≠ (v671 : Value).ownBlock) v675 t673) ∧ Aside0 (wc.heap[gb662]? = some (.cells #[(.slice A0_0 l0_0.length c0_0), (.slice A0_1 l0_1.length c0_1), (.slice A0_2 l0_2.length c0_2)] 25 (0, 0))) ∧ Aside0 (Below w.heap.size w wc))
  case first =>
    have H := HC13.out
    clear HC13
    by_cases c24 : t666 = 0
    rotate_left
    · rw [if_neg c24] at H
      have c24b0 : (t666 == 0) = false := beq_eq_false_iff_ne.mpr c24
      have c24b1 : (t666 != 0) = true := bne_iff_ne.mpr c24
      (first | rw [c24b0] | (simp only [i64_w, i32_w]; rw [c24b0]) | skip)
      have H' := Aside0.mk H
      clear H
      go_wp2
      go_meet
      case rel => exact ⟨_, (true), (by first | rfl | (simp; done) | (simp [*]; done)), H', ⟨by first | omega | exact Nat.le_refl _⟩, ⟨by (with_reducible repeat (first | apply Kd.R_alloc | apply Kd.R_drewN | apply Kd.R_drew)); exact Kd.R_mono HO668.out (fun _ hk => ⟨hk.1.2, hk.2⟩)⟩, ⟨by (with_reducible repeat (first | apply Kd.R_alloc | apply Kd.R_drewN | apply Kd.R_drew)); exact Kd.R_mono HO672.out (fun _ hk => ⟨hk.1.2, hk.2⟩)⟩, ⟨by (with_reducible repeat (first | apply Kd.R_alloc | apply Kd.R_drewN | apply Kd.R_drew)); exact Kd.R_mono HO676.out (fun _ hk => ⟨hk.1.2, hk.2⟩)⟩, ⟨by (with_reducible repeat (first | refine blk_drewN ?_ _ | refine blk_drew ?_ | refine blk_alloc ?_ _)); exact BK662.out⟩, ⟨by repeat (first | (with_reducible first | exact HB.out | apply below_alloc | apply pw_below_drewN | apply below_drew1 | refine below_set ?_ GE662.out) | exact HB.out)⟩⟩
    rw [if_pos c24] at H
    have c24b0 : (t666 == 0) = true := beq_iff_eq.mpr c24
    have c24b1 : (t666 != 0) = false := bne_eq_false_iff_eq.mpr c24
    clear c24
    (first | rw [c24b0] | (simp only [i64_w, i32_w]; rw [c24b0]) | skip)
    have H' := Aside0.mk H
    clear H
    go_wp2
    go_meet
    case rel => exact ⟨_, ((t674 != 0)), (by first | rfl | (simp; done) | (simp [*]; done)), H', ⟨by first | omega | exact Nat.le_refl _⟩, ⟨by (with_reducible repeat (first | apply Kd.R_alloc | apply Kd.R_drewN | apply Kd.R_drew)); exact Kd.R_mono HO668.out (fun _ hk => ⟨hk.1.2, hk.2⟩)⟩, ⟨by (with_reducible repeat (first | apply Kd.R_alloc | apply Kd.R_drewN | apply Kd.R_drew)); exact Kd.R_mono HO672.out (fun _ hk => ⟨hk.1.2, hk.2⟩)⟩, ⟨by (with_reducible repeat (first | apply Kd.R_alloc | apply Kd.R_drewN | apply Kd.R_drew)); exact Kd.R_mono HO676.out (fun _ hk => ⟨hk.1.2, hk.2⟩)⟩, ⟨by (with_reducible repeat (first | refine blk_drewN ?_ _ | refine blk_drew ?_ | refine blk_alloc ?_ _)); exact BK662.out⟩, ⟨by repeat (first | (with_reducible first | exact HB.out | apply below_alloc | apply pw_below_drewN | apply below_drew1 | refine below_set ?_ GE662.out) | exact HB.out)⟩⟩
  case rest =>
    clear HC13
    try clear c1
    try clear c2
    try clear p2
    try clear c3
    try clear c5
    try clear c6
    try clear c8
    try clear c9
    try clear c10
    try clear c12
    try clear c24
    try clear c24b0
    try clear c24b1
    try clear hcz16_0
    try clear hcz16_1
    try clear hcz16_2
    try clear hcz18_0
    try clear hcz18_1
    try clear hcz18_2
    try clear hcz20_0
    try clear hcz20_1
    try clear hcz20_2
    try clear hcz22_0
    try clear hcz22_1
    try clear hcz22_2
    try clear hcz8_0
    try clear hcz8_1
    try clear hcz8_2
    try clear hfz16_0
    try clear hfz16_1
    try clear hfz16_2
    try clear hfz18_0
    try clear hfz18_1
    try clear hfz18_2
    try clear hfz20_0
    try clear hfz20_1
    try clear hfz20_2
    try clear hfz22_0
    try clear hfz22_1
    try clear hfz22_2
    try clear hfz8_0
    try clear hfz8_1
    try clear hfz8_2
    obtain ⟨kq, x46_12, rfl, HA, HJ12, HO_3, HO_5, HO_7, BK662, HB⟩ := hcut
    cases kq with
    | zero => exact absurd HA.out (by simp [ductuslaw27_SwapNone.j0])
    | succ kj12 =>
      have H := HA.out
      clear HA
      simp only [ductuslaw27_SwapNone.j0] at H
      by_cases c25 : x46_12 = true
      · subst c25
        have H1 : (if t666 = 1 then (if (t665.length : Int) = 0 then (some true) else (if t674 = 1 then (some ((t673.length : Int) == 0)) else (none))) else (if t674 = 1 then (some ((t673.length : Int) == 0)) else (none))) = some r := by rw [if_pos rfl] at H; exact H
        clear H
        have H := H1
        clear H1
        by_cases c26 : t666 = 1
        rotate_left
        · rw [if_neg c26] at H
          have c26b0 : (t666 == 1) = false := beq_eq_false_iff_ne.mpr c26
          have c26b1 : (t666 != 1) = true := bne_iff_ne.mpr c26
          by_cases c32 : t674 = 1
          rotate_left
          · rw [if_neg c32] at H
            exact absurd H (by simp)
          rw [if_pos c32] at H
          have c32b0 : (t674 == 1) = true := beq_iff_eq.mpr c32
          have c32b1 : (t674 != 1) = false := bne_eq_false_iff_eq.mpr c32
          clear c32
          obtain rfl := Option.some.inj H
          obtain ⟨Ao33, co33, eo33⟩ := Kd.R_slice HO_7.out
          subst eo33
          go_wp2
          go_ret
          exact ⟨by first | rfl | (simp [errW_none, errW_some] <;> rfl) | (simp [*, errW_none, errW_some] <;> rfl), by repeat (first | (with_reducible first | exact HB.out | apply below_alloc | apply pw_below_drewN | apply below_drew1 | refine below_set ?_ GE662.out) | exact HB.out)⟩
        rw [if_pos c26] at H
        have c26b0 : (t666 == 1) = true := beq_iff_eq.mpr c26
        have c26b1 : (t666 != 1) = false := bne_eq_false_iff_eq.mpr c26
        clear c26
        by_cases c27 : (t665.length : Int) = 0
        · rw [if_pos c27] at H
          have c27b0 : ((t665.length : Int) == 0) = true := beq_iff_eq.mpr c27
          have c27b1 : ((t665.length : Int) != 0) = false := bne_eq_false_iff_eq.mpr c27
          clear c27
          obtain rfl := Option.some.inj H
          obtain ⟨Ao28, co28, eo28⟩ := Kd.R_slice HO_3.out
          subst eo28
          go_wp2
          go_ret
          exact ⟨by first | rfl | (simp [errW_none, errW_some] <;> rfl) | (simp [*, errW_none, errW_some] <;> rfl), by repeat (first | (with_reducible first | exact HB.out | apply below_alloc | apply pw_below_drewN | apply below_drew1 | refine below_set ?_ GE662.out) | exact HB.out)⟩
        rw [if_neg c27] at H
        have c27b0 : ((t665.length : Int) == 0) = false := beq_eq_false_iff_ne.mpr c27
        have c27b1 : ((t665.length : Int) != 0) = true := bne_iff_ne.mpr c27
        have c27b2 : ¬ (t665 = []) := fun h_ => c27 (by rw [h_]; rfl)
        by_cases c29 : t674 = 1
        rotate_left
        · rw [if_neg c29] at H
          exact absurd H (by simp)
        rw [if_pos c29] at H
        have c29b0 : (t674 == 1) = true := beq_iff_eq.mpr c29
        have c29b1 : (t674 != 1) = false := bne_eq_false_iff_eq.mpr c29
        clear c29
        obtain rfl := Option.some.inj H
        obtain ⟨Ao30, co30, eo30⟩ := Kd.R_slice HO_3.out
        subst eo30
        obtain ⟨Ao31, co31, eo31⟩ := Kd.R_slice HO_7.out
        subst eo31
        go_wp2
        go_ret
        exact ⟨by first | rfl | (simp [errW_none, errW_some] <;> rfl) | (simp [*, errW_none, errW_some] <;> rfl), by repeat (first | (with_reducible first | exact HB.out | apply below_alloc | apply pw_below_drewN | apply below_drew1 | refine below_set ?_ GE662.out) | exact HB.out)⟩
      replace c25 := Bool.eq_false_iff.mpr c25
      subst c25
      have H1 : (ductuslaw27_SwapNone.l0 kj12 t665 t669 t670 t673 0 0 l0_0 l0_1 l0_2) = some r := by rw [if_neg (show ¬ (false = true) by decide)] at H; exact H
      clear H
      have H := H1
      clear H1
      have H' := Aside0.mk H
      clear H
      go_wp2
      go_loopg [9, 10] kj12 (fun kq v9 v10 w' => ∃ (x9_2 : Int) (x10_2 : Int), v9 = .int .i64 x9_2 ∧ v10 = .int .i64 x10_2 ∧ Aside0 (ductuslaw27_SwapNone.l0 kq t665 t669 t670 t673 x9_2 x10_2 l0_0 l0_1 l0_2 = some r) ∧ Aside0 (kq ≤ kj12) ∧ Aside0 (Kd.R (Kd.int .i64) 3 w' w.heap.size (fun k_ => some k_ ≠ (v671 : Value).ownBlock ∧ some k_ ≠ (v675 : Value).ownBlock) v667 t665) ∧ Aside0 (Kd.R (Kd.int .i64) 3 w' w.heap.size (fun k_ => some k_ ≠ (v667 : Value).ownBlock ∧ some k_ ≠ (v675 : Value).ownBlock) v671 t669) ∧ Aside0 (Kd.R (Kd.int .i64) 3 w' w.heap.size (fun k_ => some k_ ≠ (v667 : Value).ownBlock ∧ some k_ ≠ (v671 : Value).ownBlock) v675 t673) ∧ Aside0 (w'.heap[gb662]? = some (.cells #[(.slice A0_0 l0_0.length c0_0), (.slice A0_1 l0_1.length c0_1), (.slice A0_2 l0_2.length c0_2)] 25 (0, 0))) ∧ Aside0 (Below w.heap.size w w'))
      case atStart => exact ⟨(0), (0), (by first | rfl | (simp; done) | (simp [*]; done)), (by first | rfl | (simp; done) | (simp [*]; done)), H', ⟨Nat.le_refl _⟩, ⟨by (with_reducible repeat (first | apply Kd.R_alloc | apply Kd.R_drewN | apply Kd.R_drew)); exact HO_3.out⟩, ⟨by (with_reducible repeat (first | apply Kd.R_alloc | apply Kd.R_drewN | apply Kd.R_drew)); exact HO_5.out⟩, ⟨by (with_reducible repeat (first | apply Kd.R_alloc | apply Kd.R_drewN | apply Kd.R_drew)); exact HO_7.out⟩, ⟨by (with_reducible repeat (first | refine blk_drewN ?_ _ | refine blk_drew ?_ | refine blk_alloc ?_ _)); exact BK662.out⟩, ⟨by repeat (first | (with_reducible first | exact HB.out | apply below_alloc | apply pw_below_drewN | apply below_drew1 | refine below_set ?_ GE662.out) | exact HB.out)⟩⟩
      case round =>
        clear H'
        try clear c1
        try clear c2
        try clear p2
        try clear c3
        try clear c5
        try clear c6
        try clear c8
        try clear c9
        try clear c10
        try clear c12
        try clear c24
        try clear c24b0
        try clear c24b1
        try clear c25
        try clear c26
        try clear c26b0
        try clear c26b1
        try clear c27
        try clear c27b0
        try clear c27b1
        try clear c27b2
        try clear c29
        try clear c29b0
        try clear c29b1
        try clear c32
        try clear c32b0
        try clear c32b1
        try clear hcz16_0
        try clear hcz16_1
        try clear hcz16_2
        try clear hcz18_0
        try clear hcz18_1
        try clear hcz18_2
        try clear hcz20_0
        try clear hcz20_1
        try clear hcz20_2
        try clear hcz22_0
        try clear hcz22_1
        try clear hcz22_2
        try clear hcz8_0
        try clear hcz8_1
        try clear hcz8_2
        try clear hfz16_0
        try clear hfz16_1
        try clear hfz16_2
        try clear hfz18_0
        try clear hfz18_1
        try clear hfz18_2
        try clear hfz20_0
        try clear hfz20_1
        try clear hfz20_2
        try clear hfz22_0
        try clear hfz22_1
        try clear hfz22_2
        try clear hfz8_0
        try clear hfz8_1
        try clear hfz8_2
        try clear p2
        obtain ⟨x9_2, x10_2, rfl, rfl, HA, HK2, HO_3, HO_5, HO_7, BK662, HB⟩ := hrel
        cases gk with
        | zero => exact absurd HA.out (by simp [ductuslaw27_SwapNone.l0])
        | succ k2 =>
          have H := HA.out
          clear HA
          simp only [ductuslaw27_SwapNone.l0] at H
          by_cases c34 : x10_2 < (l0_1.length : Int)
          · rw [if_pos c34] at H
            have c34b0 : decide (x10_2 < (l0_1.length : Int)) = true := decide_eq_true c34
            clear c34
            by_cases c35 : 0 ≤ x10_2
            rotate_left
            · rw [if_neg c35] at H
              exact absurd H (by simp)
            rw [if_pos c35] at H
            have c35b0 : decide (0 ≤ x10_2) = true := decide_eq_true c35
            clear c35
            have H' := Aside0.mk H
            clear H
            have hcz36_0 : wr.cell? ⟨gb662, 0, none⟩ = some (.slice A0_0 l0_0.length c0_0) := (blk_cell BK662.out 0).trans rfl
            have hcz36_1 : wr.cell? ⟨gb662, 1, none⟩ = some (.slice A0_1 l0_1.length c0_1) := (blk_cell BK662.out 1).trans rfl
            have hcz36_2 : wr.cell? ⟨gb662, 2, none⟩ = some (.slice A0_2 l0_2.length c0_2) := (blk_cell BK662.out 2).trans rfl
            have hfz36_0 := blk_frozen BK662.out 0
            have hfz36_1 := blk_frozen BK662.out 1
            have hfz36_2 := blk_frozen BK662.out 2
            try go_wp2
            have n0_ := Aside0.mk (Kd.R_drew HO_3.out)
            have n1_ := Aside0.mk (Kd.R_drew HO_5.out)
            have n2_ := Aside0.mk (Kd.R_drew HO_7.out)
            have n3_ := Aside0.mk (blk_drew BK662.out)
            have n4_ := Aside0.mk (below_drew1 HB.out)
            clear HO_3
            clear HO_5
            clear HO_7
            clear BK662
            clear HB
            have HO_3 := n0_
            have HO_5 := n1_
            have HO_7 := n2_
            have BK662 := n3_
            have HB := n4_
            clear n0_ n1_ n2_ n3_ n4_
            have p677 : 0 ≤ (x10_2 : Int) := of_decide_eq_true (by first | (with_reducible assumption) | assumption)
            have q677 : x10_2 < (l0_1.length : Int) := of_decide_eq_true (by first | (with_reducible assumption) | assumption)
            obtain ⟨ad677, e677, hx677_0, hx677_1⟩ := at_T39 HR0_1.out x10_2 p677 q677
            have hw677_1 := hx677_1
            have hw677_0 := hx677_0
            cases e677
            replace hx677_0 := (HB.out.cell (World.block_lt_of_cell? w _ hx677_0)).trans hx677_0
            replace hx677_1 := (HB.out.cell (World.block_lt_of_cell? w _ hx677_1)).trans hx677_1
            replace p677 := eq_true p677
            replace q677 := eq_true q677
            have p678 : 0 ≤ (x10_2 : Int) := of_decide_eq_true (by first | (with_reducible assumption) | assumption)
            have q678 : x10_2 < (l0_1.length : Int) := of_decide_eq_true (by first | (with_reducible assumption) | assumption)
            obtain ⟨ad678, e678, hx678_0, hx678_1⟩ := at_T39 HR0_1.out x10_2 p678 q678
            have hw678_1 := hx678_1
            have hw678_0 := hx678_0
            obtain rfl : ad677 = ad678 := (by injection e678)
            replace hx678_0 := (HB.out.cell (World.block_lt_of_cell? w _ hx678_0)).trans hx678_0
            replace hx678_1 := (HB.out.cell (World.block_lt_of_cell? w _ hx678_1)).trans hx678_1
            replace p678 := eq_true p678
            replace q678 := eq_true q678
            refine start_ (n := 16) (S := fun w' => w'.cell? ⟨gb662, 0, none⟩ = some (.slice A0_0 l0_0.length c0_0) ∧ w'.cell? ⟨gb662, 1, none⟩ = some (.slice (some ad677) l0_1.length c0_1) ∧ w'.cell? ⟨gb662, 2, none⟩ = some (.slice A0_2 l0_2.length c0_2) ∧ w'.cell? (ad677.add ((x10_2).toNat * 2)) = some (.int .i64 ((rd_T39 l0_1 x10_2).f0)) ∧ w'.cell? ⟨(ad677.add ((x10_2).toNat * 2)).block, (ad677.add ((x10_2).toNat * 2)).off + 1, none⟩ = some (.int .i64 ((rd_T39 l0_1 x10_2).f1)) ∧ w'.cell? (ad677.add ((x10_2).toNat * 2)) = some (.int .i64 ((rd_T39 l0_1 x10_2).f0)) ∧ w'.cell? ⟨(ad677.add ((x10_2).toNat * 2)).block, (ad677.add ((x10_2).toNat * 2)).off + 1, none⟩ = some (.int .i64 ((rd_T39 l0_1 x10_2).f1))) (ds := []) #[false, false, false, false, false, false, false, false, false, false, false, false, false, false, false, false] (by kernel_rfl) rfl rfl ⟨(blk_cell BK662.out 0).trans rfl, (blk_cell BK662.out 1).trans rfl, (blk_cell BK662.out 2).trans rfl, ((HB.out.cell (World.block_lt_of_cell? w _ hw677_0)).trans hw677_0), ((HB.out.cell (World.block_lt_of_cell? w _ hw677_1)).trans hw677_1), ((HB.out.cell (World.block_lt_of_cell? w _ hw678_0)).trans hw678_0), ((HB.out.cell (World.block_lt_of_cell? w _ hw678_1)).trans hw678_1)⟩ (fun hHeld => ?_); refine with_tabW ductuslaw27_SwapNone.tab14 ductuslaw27_SwapNone.bits14 (fun HT_ HW_ => ?_)
            generalize wr.drew = w37 at HO_3 HO_5 HO_7 BK662 HB hx677_0 hx677_1 hx678_0 hx678_1 hHeld ⊢
            refine pure_ (i := 0) (N := some 70) (v := ?_) (a' := ?_) #[true, false, false, false, false, false, false, false, false, false, false, false, false, false, false, false] rfl rfl (any_of HT_.out (by kernel_rfl)) (fun _ _ _ h => h) (Or.inl ⟨by rfl, ?_⟩) ?_ ?_
            rotate_left
            · intro w'
              go_simp
              with_reducible rfl
            rotate_left
            · simp only [Act.put, List.setIfInBounds_toArray, List.set_cons_zero, List.set_cons_succ, i64_w, i32_w]
              rfl
            refine pure_ (i := 1) (N := some 71) (v := ?_) (a' := ?_) #[true, true, false, false, false, false, false, false, false, false, false, false, false, false, false, false] rfl rfl (any_of HT_.out (by kernel_rfl)) (fun _ _ _ h => h) (Or.inl ⟨by rfl, ?_⟩) ?_ ?_
            rotate_left
            · intro w'
              go_simp
              with_reducible rfl
            rotate_left
            · simp only [Act.put, List.setIfInBounds_toArray, List.set_cons_zero, List.set_cons_succ, i64_w, i32_w]
              rfl
            refine pure_ (i := 3) (N := some 73) (v := ?_) (a' := ?_) #[true, true, false, true, false, false, false, false, false, false, false, false, false, false, false, false] rfl rfl (any_of HT_.out (by kernel_rfl)) (fun _ _ _ h => h) (Or.inl ⟨by rfl, ?_⟩) ?_ ?_
            rotate_left
            · intro w'
              go_simp
              with_reducible rfl
            rotate_left
            · simp only [Act.put, List.setIfInBounds_toArray, List.set_cons_zero, List.set_cons_succ, i64_w, i32_w]
              rfl
            refine pure_ (i := 8) (N := some 78) (v := ?_) (a' := ?_) #[true, true, false, true, false, false, false, false, true, false, false, false, false, false, false, false] rfl rfl (any_of HT_.out (by kernel_rfl)) (fun _ _ _ h => h) (Or.inl ⟨by rfl, ?_⟩) ?_ ?_
            rotate_left
            · intro w'
              go_simp
              with_reducible rfl
            rotate_left
            · simp only [Act.put, List.setIfInBounds_toArray, List.set_cons_zero, List.set_cons_succ, i64_w, i32_w]
              rfl
            refine pure_ (i := 10) (N := some 80) (v := ?_) (a' := ?_) #[true, true, false, true, false, false, false, false, true, false, true, false, false, false, false, false] rfl rfl (any_of HT_.out (by kernel_rfl)) (fun _ _ _ h => h) (Or.inl ⟨by rfl, ?_⟩) ?_ ?_
            rotate_left
            · intro w'
              go_simp
              with_reducible rfl
            rotate_left
            · simp only [Act.put, List.setIfInBounds_toArray, List.set_cons_zero, List.set_cons_succ, i64_w, i32_w]
              rfl
            refine take_ (i := 2) (N := some 72) (v := ?_) (a' := ?_) #[true, true, true, true, false, false, false, false, true, false, true, false, false, false, false, false] rfl rfl (take_ofW HT_.out HW_.out (by kernel_rfl)) (fun _ _ _ h => h) (Or.inl ⟨by rfl, ?_⟩) hHeld ?_ ?_
            rotate_left
            · rintro w' ⟨s0, s1, s2, s3, s4, s5, s6⟩
              go_simp
              with_reducible rfl
            rotate_left
            · simp only [Act.put, List.setIfInBounds_toArray, List.set_cons_zero, List.set_cons_succ, i64_w, i32_w]
              rfl
            refine pure_ (i := 4) (N := some 74) (v := ?_) (a' := ?_) #[true, true, true, true, true, false, false, false, true, false, true, false, false, false, false, false] rfl rfl (any_of HT_.out (by kernel_rfl)) (fun _ _ _ h => h) (Or.inl ⟨by rfl, ?_⟩) ?_ ?_
            rotate_left
            · intro w'
              go_simp
              with_reducible rfl
            rotate_left
            · simp only [Act.put, List.setIfInBounds_toArray, List.set_cons_zero, List.set_cons_succ, i64_w, i32_w]
              rfl
            refine pure_ (i := 5) (N := some 75) (v := ?_) (a' := ?_) #[true, true, true, true, true, true, false, false, true, false, true, false, false, false, false, false] rfl rfl (any_of HT_.out (by kernel_rfl)) (fun _ _ _ h => h) (Or.inl ⟨by rfl, ?_⟩) ?_ ?_
            rotate_left
            · intro w'
              go_simp
              with_reducible rfl
            rotate_left
            · simp only [Act.put, List.setIfInBounds_toArray, List.set_cons_zero, List.set_cons_succ, i64_w, i32_w]
              rfl
            refine take_ (i := 6) (N := some 76) (v := ?_) (a' := ?_) #[true, true, true, true, true, true, true, false, true, false, true, false, false, false, false, false] rfl rfl (take_ofW HT_.out HW_.out (by kernel_rfl)) (fun _ _ _ h => h) (Or.inl ⟨by rfl, ?_⟩) hHeld ?_ ?_
            rotate_left
            · rintro w' ⟨s0, s1, s2, s3, s4, s5, s6⟩
              go_simp
              with_reducible rfl
            rotate_left
            · simp only [Act.put, List.setIfInBounds_toArray, List.set_cons_zero, List.set_cons_succ, i64_w, i32_w]
              rfl
            refine pure_ (i := 7) (N := some 77) (v := ?_) (a' := ?_) #[true, true, true, true, true, true, true, true, true, false, true, false, false, false, false, false] rfl rfl (any_of HT_.out (by kernel_rfl)) (fun _ _ _ h => h) (Or.inl ⟨by rfl, ?_⟩) ?_ ?_
            rotate_left
            · intro w'
              go_simp
              with_reducible rfl
            rotate_left
            · simp only [Act.put, List.setIfInBounds_toArray, List.set_cons_zero, List.set_cons_succ, i64_w, i32_w]
              rfl
            refine take_ (i := 9) (N := some 79) (v := ?_) (a' := ?_) #[true, true, true, true, true, true, true, true, true, true, true, false, false, false, false, false] rfl rfl (take_ofW HT_.out HW_.out (by kernel_rfl)) (fun _ _ _ h => h) (Or.inl ⟨by rfl, ?_⟩) hHeld ?_ ?_
            rotate_left
            · rintro w' ⟨s0, s1, s2, s3, s4, s5, s6⟩
              go_simp
              with_reducible rfl
            rotate_left
            · simp only [Act.put, List.setIfInBounds_toArray, List.set_cons_zero, List.set_cons_succ, i64_w, i32_w]
              rfl
            refine pure_ (i := 11) (N := some 81) (v := ?_) (a' := ?_) #[true, true, true, true, true, true, true, true, true, true, true, true, false, false, false, false] rfl rfl (any_of HT_.out (by kernel_rfl)) (fun _ _ _ h => h) (Or.inl ⟨by rfl, ?_⟩) ?_ ?_
            rotate_left
            · intro w'
              go_simp
              with_reducible rfl
            rotate_left
            · simp only [Act.put, List.setIfInBounds_toArray, List.set_cons_zero, List.set_cons_succ, i64_w, i32_w]
              rfl
            refine pure_ (i := 12) (N := some 82) (v := ?_) (a' := ?_) #[true, true, true, true, true, true, true, true, true, true, true, true, true, false, false, false] rfl rfl (any_of HT_.out (by kernel_rfl)) (fun _ _ _ h => h) (Or.inl ⟨by rfl, ?_⟩) ?_ ?_
            rotate_left
            · intro w'
              go_simp
              with_reducible rfl
            rotate_left
            · simp only [Act.put, List.setIfInBounds_toArray, List.set_cons_zero, List.set_cons_succ, i64_w, i32_w]
              rfl
            refine take_ (i := 13) (N := some 83) (v := ?_) (a' := ?_) #[true, true, true, true, true, true, true, true, true, true, true, true, true, true, false, false] rfl rfl (take_ofW HT_.out HW_.out (by kernel_rfl)) (fun _ _ _ h => h) (Or.inl ⟨by rfl, ?_⟩) hHeld ?_ ?_
            rotate_left
            · rintro w' ⟨s0, s1, s2, s3, s4, s5, s6⟩
              go_simp
              with_reducible rfl
            rotate_left
            · simp only [Act.put, List.setIfInBounds_toArray, List.set_cons_zero, List.set_cons_succ, i64_w, i32_w]
              rfl
            refine pure_ (i := 14) (N := some 84) (v := ?_) (a' := ?_) #[true, true, true, true, true, true, true, true, true, true, true, true, true, true, true, false] rfl rfl (any_of HT_.out (by kernel_rfl)) (fun _ _ _ h => h) (Or.inl ⟨by rfl, ?_⟩) ?_ ?_
            rotate_left
            · intro w'
              go_simp
              with_reducible rfl
            rotate_left
            · simp only [Act.put, List.setIfInBounds_toArray, List.set_cons_zero, List.set_cons_succ, i64_w, i32_w]
              rfl
            refine pure_ (i := 15) (N := some 9) (v := ?_) (a' := ?_) #[true, true, true, true, true, true, true, true, true, true, true, true, true, true, true, true] rfl rfl (any_of HT_.out (by kernel_rfl)) (fun _ _ _ h => h) (Or.inl ⟨by rfl, ?_⟩) ?_ ?_
            rotate_left
            · intro w'
              go_simp
              with_reducible rfl
            rotate_left
            · simp only [Act.put, List.setIfInBounds_toArray, List.set_cons_zero, List.set_cons_succ, i64_w, i32_w]
              rfl
            refine done_ (done_of HT_.out (by kernel_rfl)) ?_
            try go_wp2
            go_roundg k2
            case measure => have := HJ12.out; have := HK2.out; omega
            case rel => exact ⟨(wrap64 ((wrap64 (x9_2 + ((rd_T39 l0_1 x10_2).f1))) - ((rd_T39 l0_1 x10_2).f0))), (wrap64 (x10_2 + 1)), (by first | rfl | (simp; done) | (simp [*]; done)), (by first | rfl | (simp; done) | (simp [*]; done)), H', ⟨by have := HJ12.out; have := HK2.out; omega⟩, ⟨by (with_reducible repeat (first | apply Kd.R_alloc | apply Kd.R_drewN | apply Kd.R_drew)); exact HO_3.out⟩, ⟨by (with_reducible repeat (first | apply Kd.R_alloc | apply Kd.R_drewN | apply Kd.R_drew)); exact HO_5.out⟩, ⟨by (with_reducible repeat (first | apply Kd.R_alloc | apply Kd.R_drewN | apply Kd.R_drew)); exact HO_7.out⟩, ⟨by (with_reducible repeat (first | refine blk_drewN ?_ _ | refine blk_drew ?_ | refine blk_alloc ?_ _)); exact BK662.out⟩, ⟨by repeat (first | (with_reducible first | exact HB.out | apply below_alloc | apply pw_below_drewN | apply below_drew1 | refine below_set ?_ GE662.out) | exact HB.out)⟩⟩
          rw [if_neg c34] at H
          have c34b0 : decide (x10_2 < (l0_1.length : Int)) = false := decide_eq_false c34
          clear c34
          by_cases c38 : t670 = 0
          rotate_left
          · rw [if_neg c38] at H
            have c38b0 : (t670 == 0) = false := beq_eq_false_iff_ne.mpr c38
            have c38b1 : (t670 != 0) = true := bne_iff_ne.mpr c38
            exact absurd H (by simp)
          rw [if_pos c38] at H
          have c38b0 : (t670 == 0) = true := beq_iff_eq.mpr c38
          have c38b1 : (t670 != 0) = false := bne_eq_false_iff_eq.mpr c38
          clear c38
          replace H := Option.bind_eq_some_iff.mp H
          obtain ⟨t679, A390, H⟩ := H
          replace H : (if t679 = true then ((ductusref01_Ints.f k2 t669 l0_0).bind fun t680 => (if t680 = true then ((ductusref27_Plain.f k2 t673).bind fun t681 => ((ductusref27_Plain.f k2 l0_0).bind fun t684 => (some ((wrap64 ((t681.length : Int) + x9_2)) == (t684.length : Int))))) else (none))) else (none)) = some r := H
          have A39 := Aside0.mk A390
          clear A390
          by_cases c40 : t679 = true
          rotate_left
          · replace c40 := Bool.eq_false_iff.mpr c40
            subst c40
            have H1 : (none) = some r := by rw [if_neg (show ¬ (false = true) by decide)] at H; exact H
            clear H
            have H := H1
            clear H1
            exact absurd H (by simp)
          subst c40
          have H1 : ((ductusref01_Ints.f k2 t669 l0_0).bind fun t680 => (if t680 = true then ((ductusref27_Plain.f k2 t673).bind fun t681 => ((ductusref27_Plain.f k2 l0_0).bind fun t684 => (some ((wrap64 ((t681.length : Int) + x9_2)) == (t684.length : Int))))) else (none))) = some r := by rw [if_pos rfl] at H; exact H
          clear H
          have H := H1
          clear H1
          replace H := Option.bind_eq_some_iff.mp H
          obtain ⟨t680, A410, H⟩ := H
          replace H : (if t680 = true then ((ductusref27_Plain.f k2 t673).bind fun t681 => ((ductusref27_Plain.f k2 l0_0).bind fun t684 => (some ((wrap64 ((t681.length : Int) + x9_2)) == (t684.length : Int))))) else (none)) = some r := H
          have A41 := Aside0.mk A410
          clear A410
          by_cases c42 : t680 = true
          rotate_left
          · replace c42 := Bool.eq_false_iff.mpr c42
            subst c42
            have H1 : (none) = some r := by rw [if_neg (show ¬ (false = true) by decide)] at H; exact H
            clear H
            have H := H1
            clear H1
            exact absurd H (by simp)
          subst c42
          have H1 : ((ductusref27_Plain.f k2 t673).bind fun t681 => ((ductusref27_Plain.f k2 l0_0).bind fun t684 => (some ((wrap64 ((t681.length : Int) + x9_2)) == (t684.length : Int))))) = some r := by rw [if_pos rfl] at H; exact H
          clear H
          have H := H1
          clear H1
          replace H := Option.bind_eq_some_iff.mp H
          obtain ⟨t681, A430, H⟩ := H
          replace H : ((ductusref27_Plain.f k2 l0_0).bind fun t684 => (some ((wrap64 ((t681.length : Int) + x9_2)) == (t684.length : Int)))) = some r := H
          have A43 := Aside0.mk A430
          clear A430
          replace H := Option.bind_eq_some_iff.mp H
          obtain ⟨t684, A440, H⟩ := H
          replace H : (some ((wrap64 ((t681.length : Int) + x9_2)) == (t684.length : Int))) = some r := H
          have A44 := Aside0.mk A440
          clear A440
          obtain rfl := Option.some.inj H
          have hcz45_0 : wr.cell? ⟨gb662, 0, none⟩ = some (.slice A0_0 l0_0.length c0_0) := (blk_cell BK662.out 0).trans rfl
          have hcz45_1 : wr.cell? ⟨gb662, 1, none⟩ = some (.slice A0_1 l0_1.length c0_1) := (blk_cell BK662.out 1).trans rfl
          have hcz45_2 : wr.cell? ⟨gb662, 2, none⟩ = some (.slice A0_2 l0_2.length c0_2) := (blk_cell BK662.out 2).trans rfl
          have hfz45_0 := blk_frozen BK662.out 0
          have hfz45_1 := blk_frozen BK662.out 1
          have hfz45_2 := blk_frozen BK662.out 2
          try go_wp2
          have n0_ := Aside0.mk (Kd.R_drew HO_3.out)
          have n1_ := Aside0.mk (Kd.R_drew HO_5.out)
          have n2_ := Aside0.mk (Kd.R_drew HO_7.out)
          have n3_ := Aside0.mk (blk_drew BK662.out)
          have n4_ := Aside0.mk (below_drew1 HB.out)
          clear HO_3
          clear HO_5
          clear HO_7
          clear BK662
          clear HB
          have HO_3 := n0_
          have HO_5 := n1_
          have HO_7 := n2_
          have BK662 := n3_
          have HB := n4_
          clear n0_ n1_ n2_ n3_ n4_
          obtain ⟨Ao47, co47, eo47⟩ := Kd.R_slice HO_3.out
          (first | subst eo47 | (injection eo47 with f1_ f2_ f3_; have f4_ := f1_.symm; have f5_ := f3_.symm; clear f1_ f2_ f3_; subst f4_; subst f5_))
          refine start_ (n := 27) (S := fun w' => w'.cell? ⟨gb662, 0, none⟩ = some (.slice A0_0 l0_0.length c0_0) ∧ w'.cell? ⟨gb662, 1, none⟩ = some (.slice A0_1 l0_1.length c0_1) ∧ w'.cell? ⟨gb662, 2, none⟩ = some (.slice A0_2 l0_2.length c0_2)) (ds := []) #[false, false, false, false, false, false, false, false, false, false, false, false, false, false, false, false, false, false, false, false, false, false, false, false, false, false, false] (by kernel_rfl) rfl rfl ⟨(blk_cell BK662.out 0).trans rfl, (blk_cell BK662.out 1).trans rfl, (blk_cell BK662.out 2).trans rfl⟩ (fun hHeld => ?_); refine with_tabW ductuslaw27_SwapNone.tab15 ductuslaw27_SwapNone.bits15 (fun HT_ HW_ => ?_)
          generalize wr.drew = w46 at HO_3 HO_5 HO_7 BK662 HB hHeld ⊢
          refine pure_ (i := 0) (N := some 85) (v := ?_) (a' := ?_) #[true, false, false, false, false, false, false, false, false, false, false, false, false, false, false, false, false, false, false, false, false, false, false, false, false, false, false] rfl rfl (any_of HT_.out (by kernel_rfl)) (fun _ _ _ h => h) (Or.inl ⟨by rfl, ?_⟩) ?_ ?_
          rotate_left
          · intro w'
            go_simp
            with_reducible rfl
          rotate_left
          · simp only [Act.put, List.setIfInBounds_toArray, List.set_cons_zero, List.set_cons_succ, i64_w, i32_w]
            rfl
          refine pure_ (i := 1) (N := some 86) (v := ?_) (a' := ?_) #[true, true, false, false, false, false, false, false, false, false, false, false, false, false, false, false, false, false, false, false, false, false, false, false, false, false, false] rfl rfl (any_of HT_.out (by kernel_rfl)) (fun _ _ _ h => h) (Or.inl ⟨by rfl, ?_⟩) ?_ ?_
          rotate_left
          · intro w'
            go_simp
            with_reducible rfl
          rotate_left
          · simp only [Act.put, List.setIfInBounds_toArray, List.set_cons_zero, List.set_cons_succ, i64_w, i32_w]
            rfl
          refine pure_ (i := 2) (N := some 87) (v := ?_) (a' := ?_) #[true, true, true, false, false, false, false, false, false, false, false, false, false, false, false, false, false, false, false, false, false, false, false, false, false, false, false] rfl rfl (any_of HT_.out (by kernel_rfl)) (fun _ _ _ h => h) (Or.inl ⟨by rfl, ?_⟩) ?_ ?_
          rotate_left
          · intro w'
            go_simp
            with_reducible rfl
          rotate_left
          · simp only [Act.put, List.setIfInBounds_toArray, List.set_cons_zero, List.set_cons_succ, i64_w, i32_w]
            rfl
          refine pure_ (i := 3) (N := some 88) (v := ?_) (a' := ?_) #[true, true, true, true, false, false, false, false, false, false, false, false, false, false, false, false, false, false, false, false, false, false, false, false, false, false, false] rfl rfl (any_of HT_.out (by kernel_rfl)) (fun _ _ _ h => h) (Or.inl ⟨by rfl, ?_⟩) ?_ ?_
          rotate_left
          · intro w'
            go_simp
            with_reducible rfl
          rotate_left
          · simp only [Act.put, List.setIfInBounds_toArray, List.set_cons_zero, List.set_cons_succ, i64_w, i32_w]
            rfl
          refine pure_ (i := 4) (N := some 89) (v := ?_) (a' := ?_) #[true, true, true, true, true, false, false, false, false, false, false, false, false, false, false, false, false, false, false, false, false, false, false, false, false, false, false] rfl rfl (any_of HT_.out (by kernel_rfl)) (fun _ _ _ h => h) (Or.inl ⟨by rfl, ?_⟩) ?_ ?_
          rotate_left
          · intro w'
            go_simp
            with_reducible rfl
          rotate_left
          · simp only [Act.put, List.setIfInBounds_toArray, List.set_cons_zero, List.set_cons_succ, i64_w, i32_w]
            rfl
          refine take_ (i := 5) (N := some 90) (v := ?_) (a' := ?_) #[true, true, true, true, true, true, false, false, false, false, false, false, false, false, false, false, false, false, false, false, false, false, false, false, false, false, false] rfl rfl (take_ofW HT_.out HW_.out (by kernel_rfl)) (fun _ _ _ h => h) (Or.inl ⟨by rfl, ?_⟩) hHeld ?_ ?_
          rotate_left
          · rintro w' ⟨s0, s1, s2⟩
            go_simp
            with_reducible rfl
          rotate_left
          · simp only [Act.put, List.setIfInBounds_toArray, List.set_cons_zero, List.set_cons_succ, i64_w, i32_w]
            rfl
          refine one_ (i := 6) (N := some 91) #[true, true, true, true, true, true, true, false, false, false, false, false, false, false, false, false, false, false, false, false, false, false, false, false, false, false, false] rfl rfl (one_of HT_.out (by kernel_rfl)) (by decide) (fun K hK => ?_)
          refine goes_ Try.func16 (by kernel_rfl) rfl #[.slice Ao47 t665.length co47, .slice A0_0 l0_0.length c0_0] (by rfl) rfl rfl (by (try simp only [List.map_toArray, List.map_cons, List.map_nil]); first | done | rfl | (simp only [List.length_drop, List.length_take]; rfl)) ?_
          with_reducible refine (ductusref01_Ints.calls k2 _ _ t665 _ _ l0_0 true _ ?side1 ?side2 ?side3 ?side4 A39.out).mono ?_
          (case side1 => repeat (first | exact (Kd.R_reads' HO_3.out).2.2 | (with_reducible refine Kd.C_alloc ?_ _) | (with_reducible refine Kd.C_drewN ?_ _) | (with_reducible refine Kd.C_drew ?_)))
          (case side2 => exact (Kd.R_reads' HO_3.out).2.1)
          (case side3 => repeat (first | exact (Kd.C_below HR0_0.out HB.out) | (with_reducible refine Kd.C_alloc ?_ _) | (with_reducible refine Kd.C_drewN ?_ _) | (with_reducible refine Kd.C_drew ?_)))
          (case side4 => exact HC0_0.out)
          rintro e w' ⟨rfl, ⟨nd, rfl⟩⟩
          refine ⟨_, rfl, ?_⟩
          obtain ⟨Ao48, co48, eo48⟩ := Kd.R_slice HO_5.out
          (first | subst eo48 | (injection eo48 with f1_ f2_ f3_; have f4_ := f1_.symm; have f5_ := f3_.symm; clear f1_ f2_ f3_; subst f4_; subst f5_))
          refine hK.out _ _ ⟨(blk_cell BK662.out 0).trans rfl, (blk_cell BK662.out 1).trans rfl, (blk_cell BK662.out 2).trans rfl⟩ (fun hHeld => ?_)
          clear hK K
          refine norm_ (a' := ?_) ?_ ?_
          rotate_left
          · show Act.put _ (some 91) _ = _
            simp only [Act.put, List.setIfInBounds_toArray, List.set_cons_zero, List.set_cons_succ, i64_w, i32_w]
            rfl
          refine pure_ (i := 7) (N := some 92) (v := ?_) (a' := ?_) #[true, true, true, true, true, true, true, true, false, false, false, false, false, false, false, false, false, false, false, false, false, false, false, false, false, false, false] rfl rfl (any_of HT_.out (by kernel_rfl)) (fun _ _ _ h => h) (Or.inl ⟨by rfl, ?_⟩) ?_ ?_
          rotate_left
          · intro w'
            go_simp
            with_reducible rfl
          rotate_left
          · simp only [Act.put, List.setIfInBounds_toArray, List.set_cons_zero, List.set_cons_succ, i64_w, i32_w]
            rfl
          refine pure_ (i := 8) (N := some 93) (v := ?_) (a' := ?_) #[true, true, true, true, true, true, true, true, true, false, false, false, false, false, false, false, false, false, false, false, false, false, false, false, false, false, false] rfl rfl (any_of HT_.out (by kernel_rfl)) (fun _ _ _ h => h) (Or.inl ⟨by rfl, ?_⟩) ?_ ?_
          rotate_left
          · intro w'
            go_simp
            with_reducible rfl
          rotate_left
          · simp only [Act.put, List.setIfInBounds_toArray, List.set_cons_zero, List.set_cons_succ, i64_w, i32_w]
            rfl
          refine pure_ (i := 9) (N := some 94) (v := ?_) (a' := ?_) #[true, true, true, true, true, true, true, true, true, true, false, false, false, false, false, false, false, false, false, false, false, false, false, false, false, false, false] rfl rfl (any_of HT_.out (by kernel_rfl)) (fun _ _ _ h => h) (Or.inl ⟨by rfl, ?_⟩) ?_ ?_
          rotate_left
          · intro w'
            go_simp
            with_reducible rfl
          rotate_left
          · simp only [Act.put, List.setIfInBounds_toArray, List.set_cons_zero, List.set_cons_succ, i64_w, i32_w]
            rfl
          refine pure_ (i := 10) (N := some 95) (v := ?_) (a' := ?_) #[true, true, true, true, true, true, true, true, true, true, true, false, false, false, false, false, false, false, false, false, false, false, false, false, false, false, false] rfl rfl (any_of HT_.out (by kernel_rfl)) (fun _ _ _ h => h) (Or.inl ⟨by rfl, ?_⟩) ?_ ?_
          rotate_left
          · intro w'
            go_simp
            with_reducible rfl
          rotate_left
          · simp only [Act.put, List.setIfInBounds_toArray, List.set_cons_zero, List.set_cons_succ, i64_w, i32_w]
            rfl
          refine take_ (i := 11) (N := some 96) (v := ?_) (a' := ?_) #[true, true, true, true, true, true, true, true, true, true, true, true, false, false, false, false, false, false, false, false, false, false, false, false, false, false, false] rfl rfl (take_ofW HT_.out HW_.out (by kernel_rfl)) (fun _ _ _ h => h) (Or.inl ⟨by rfl, ?_⟩) hHeld ?_ ?_
          rotate_left
          · rintro w' ⟨s0, s1, s2⟩
            go_simp
            with_reducible rfl
          rotate_left
          · simp only [Act.put, List.setIfInBounds_toArray, List.set_cons_zero, List.set_cons_succ, i64_w, i32_w]
            rfl
          refine one_ (i := 12) (N := some 97) #[true, true, true, true, true, true, true, true, true, true, true, true, true, false, false, false, false, false, false, false, false, false, false, false, false, false, false] rfl rfl (one_of HT_.out (by kernel_rfl)) (by decide) (fun K hK => ?_)
          refine goes_ Try.func16 (by kernel_rfl) rfl #[.slice Ao48 t669.length co48, .slice A0_0 l0_0.length c0_0] (by rfl) rfl rfl (by (try simp only [List.map_toArray, List.map_cons, List.map_nil]); first | done | rfl | (simp only [List.length_drop, List.length_take]; rfl)) ?_
          with_reducible refine (ductusref01_Ints.calls k2 _ _ t669 _ _ l0_0 true _ ?side1 ?side2 ?side3 ?side4 A41.out).mono ?_
          (case side1 => repeat (first | exact (Kd.R_reads' HO_5.out).2.2 | (with_reducible refine Kd.C_alloc ?_ _) | (with_reducible refine Kd.C_drewN ?_ _) | (with_reducible refine Kd.C_drew ?_)))
          (case side2 => exact (Kd.R_reads' HO_5.out).2.1)
          (case side3 => repeat (first | exact (Kd.C_below HR0_0.out (by repeat (first | (with_reducible first | exact HB.out | apply below_alloc | apply pw_below_drewN | apply below_drew1 | refine below_set ?_ GE662.out) | exact HB.out))) | (with_reducible refine Kd.C_alloc ?_ _) | (with_reducible refine Kd.C_drewN ?_ _) | (with_reducible refine Kd.C_drew ?_)))
          (case side4 => exact HC0_0.out)
          rintro e w' ⟨rfl, ⟨nd, rfl⟩⟩
          refine ⟨_, rfl, ?_⟩
          obtain ⟨Ao49, co49, eo49⟩ := Kd.R_slice HO_7.out
          (first | subst eo49 | (injection eo49 with f1_ f2_ f3_; have f4_ := f1_.symm; have f5_ := f3_.symm; clear f1_ f2_ f3_; subst f4_; subst f5_))
          refine hK.out _ _ ⟨(blk_cell BK662.out 0).trans rfl, (blk_cell BK662.out 1).trans rfl, (blk_cell BK662.out 2).trans rfl⟩ (fun hHeld => ?_)
          clear hK K
          refine norm_ (a' := ?_) ?_ ?_
          rotate_left
          · show Act.put _ (some 97) _ = _
            simp only [Act.put, List.setIfInBounds_toArray, List.set_cons_zero, List.set_cons_succ, i64_w, i32_w]
            rfl
          refine pure_ (i := 13) (N := some 98) (v := ?_) (a' := ?_) #[true, true, true, true, true, true, true, true, true, true, true, true, true, true, false, false, false, false, false, false, false, false, false, false, false, false, false] rfl rfl (any_of HT_.out (by kernel_rfl)) (fun _ _ _ h => h) (Or.inl ⟨by rfl, ?_⟩) ?_ ?_
          rotate_left
          · intro w'
            go_simp
            with_reducible rfl
          rotate_left
          · simp only [Act.put, List.setIfInBounds_toArray, List.set_cons_zero, List.set_cons_succ, i64_w, i32_w]
            rfl
          refine pure_ (i := 14) (N := some 99) (v := ?_) (a' := ?_) #[true, true, true, true, true, true, true, true, true, true, true, true, true, true, true, false, false, false, false, false, false, false, false, false, false, false, false] rfl rfl (any_of HT_.out (by kernel_rfl)) (fun _ _ _ h => h) (Or.inl ⟨by rfl, ?_⟩) ?_ ?_
          rotate_left
          · intro w'
            go_simp
            with_reducible rfl
          rotate_left
          · simp only [Act.put, List.setIfInBounds_toArray, List.set_cons_zero, List.set_cons_succ, i64_w, i32_w]
            rfl
          refine pure_ (i := 15) (N := some 100) (v := ?_) (a' := ?_) #[true, true, true, true, true, true, true, true, true, true, true, true, true, true, true, true, false, false, false, false, false, false, false, false, false, false, false] rfl rfl (any_of HT_.out (by kernel_rfl)) (fun _ _ _ h => h) (Or.inl ⟨by rfl, ?_⟩) ?_ ?_
          rotate_left
          · intro w'
            go_simp
            with_reducible rfl
          rotate_left
          · simp only [Act.put, List.setIfInBounds_toArray, List.set_cons_zero, List.set_cons_succ, i64_w, i32_w]
            rfl
          refine pure_ (i := 18) (N := some 103) (v := ?_) (a' := ?_) #[true, true, true, true, true, true, true, true, true, true, true, true, true, true, true, true, false, false, true, false, false, false, false, false, false, false, false] rfl rfl (any_of HT_.out (by kernel_rfl)) (fun _ _ _ h => h) (Or.inl ⟨by rfl, ?_⟩) ?_ ?_
          rotate_left
          · intro w'
            go_simp
            with_reducible rfl
          rotate_left
          · simp only [Act.put, List.setIfInBounds_toArray, List.set_cons_zero, List.set_cons_succ, i64_w, i32_w]
            rfl
          refine pure_ (i := 20) (N := some 105) (v := ?_) (a' := ?_) #[true, true, true, true, true, true, true, true, true, true, true, true, true, true, true, true, false, false, true, false, true, false, false, false, false, false, false] rfl rfl (any_of HT_.out (by kernel_rfl)) (fun _ _ _ h => h) (Or.inl ⟨by rfl, ?_⟩) ?_ ?_
          rotate_left
          · intro w'
            go_simp
            with_reducible rfl
          rotate_left
          · simp only [Act.put, List.setIfInBounds_toArray, List.set_cons_zero, List.set_cons_succ, i64_w, i32_w]
            rfl
          refine take_ (i := 21) (N := some 106) (v := ?_) (a' := ?_) #[true, true, true, true, true, true, true, true, true, true, true, true, true, true, true, true, false, false, true, false, true, true, false, false, false, false, false] rfl rfl (take_ofW HT_.out HW_.out (by kernel_rfl)) (fun _ _ _ h => h) (Or.inl ⟨by rfl, ?_⟩) hHeld ?_ ?_
          rotate_left
          · rintro w' ⟨s0, s1, s2⟩
            go_simp
            with_reducible rfl
          rotate_left
          · simp only [Act.put, List.setIfInBounds_toArray, List.set_cons_zero, List.set_cons_succ, i64_w, i32_w]
            rfl
          refine one_ (i := 16) (N := some 101) #[true, true, true, true, true, true, true, true, true, true, true, true, true, true, true, true, true, false, true, false, true, true, false, false, false, false, false] rfl rfl (one_of HT_.out (by kernel_rfl)) (by decide) (fun K hK => ?_)
          refine goes_ Try.func18 (by kernel_rfl) rfl #[.slice Ao49 t673.length co49] (by rfl) rfl rfl (by (try simp only [List.map_toArray, List.map_cons, List.map_nil]); first | done | rfl | (simp only [List.length_drop, List.length_take]; rfl)) ?_
          with_reducible refine (ductusref27_Plain.calls k2 _ _ t673 t681 _ ?side1 ?side2 A43.out).mono ?_
          (case side1 => repeat (first | exact (Kd.R_reads' HO_7.out).2.2 | (with_reducible refine Kd.C_alloc ?_ _) | (with_reducible refine Kd.C_drewN ?_ _) | (with_reducible refine Kd.C_drew ?_)))
          (case side2 => exact (Kd.R_reads' HO_7.out).2.1)
          rintro e w50 ⟨v682, rfl, ho0, hb⟩
          refine ⟨_, rfl, ?_⟩
          have n0_ := Aside0.mk (Kd.R_elder' (by (with_reducible repeat (first | apply Kd.R_alloc | apply Kd.R_drewN | apply Kd.R_drew)); exact HO_3.out) (Kd.R_base ho0) hb)
          have n1_ := Aside0.mk (Kd.R_elder' (by (with_reducible repeat (first | apply Kd.R_alloc | apply Kd.R_drewN | apply Kd.R_drew)); exact HO_5.out) (Kd.R_base ho0) hb)
          have n2_ := Aside0.mk (Kd.R_elder' (by (with_reducible repeat (first | apply Kd.R_alloc | apply Kd.R_drewN | apply Kd.R_drew)); exact HO_7.out) (Kd.R_base ho0) hb)
          have n3_ := Aside0.mk (Kd.R_lower (Kd.R_new' (Kd.R_new' (Kd.R_new' ho0 (Kd.R_lt (by (with_reducible repeat (first | apply Kd.R_alloc | apply Kd.R_drewN | apply Kd.R_drew)); exact HO_3.out))) (Kd.R_lt (by (with_reducible repeat (first | apply Kd.R_alloc | apply Kd.R_drewN | apply Kd.R_drew)); exact HO_5.out))) (Kd.R_lt (by (with_reducible repeat (first | apply Kd.R_alloc | apply Kd.R_drewN | apply Kd.R_drew)); exact HO_7.out))) (below_size (by repeat (first | (with_reducible first | exact HB.out | apply below_alloc | apply pw_below_drewN | apply below_drew1 | refine below_set ?_ GE662.out) | exact HB.out))))
          have n4_ := Aside0.mk (blk_below (g := gb662) (o := .cells #[.slice A0_0 l0_0.length c0_0, .slice A0_1 l0_1.length c0_1, .slice A0_2 l0_2.length c0_2] 25 (0, 0)) (by (with_reducible repeat (first | refine blk_drewN ?_ _ | refine blk_drew ?_ | refine blk_alloc ?_ _)); exact BK662.out) hb)
          have n5_ := Aside0.mk (below_step (by repeat (first | (with_reducible first | exact HB.out | apply below_alloc | apply pw_below_drewN | apply below_drew1 | refine below_set ?_ GE662.out) | exact HB.out)) hb)
          clear HO_3
          clear HO_5
          clear HO_7
          clear BK662
          clear HB
          have HO_3 := n0_
          have HO_5 := n1_
          have HO_7 := n2_
          have HO683 := n3_
          have BK662 := n4_
          have HB := n5_
          clear n0_ n1_ n2_ n3_ n4_ n5_
          (try clear hb)
          (try clear hb2)
          (try clear hk)
          (try clear hi)
          (try clear ho0)
          obtain ⟨Ao51, co51, eo51⟩ := Kd.R_slice HO683.out
          (first | subst eo51 | (injection eo51 with f1_ f2_ f3_; have f4_ := f1_.symm; have f5_ := f3_.symm; clear f1_ f2_ f3_; subst f4_; subst f5_))
          refine hK.out _ _ ⟨(blk_cell BK662.out 0).trans rfl, (blk_cell BK662.out 1).trans rfl, (blk_cell BK662.out 2).trans rfl⟩ (fun hHeld => ?_)
          clear hK K
          refine norm_ (a' := ?_) ?_ ?_
          rotate_left
          · show Act.put _ (some 101) _ = _
            simp only [Act.put, List.setIfInBounds_toArray, List.set_cons_zero, List.set_cons_succ, i64_w, i32_w]
            rfl
          refine pure_ (i := 17) (N := some 102) (v := ?_) (a' := ?_) #[true, true, true, true, true, true, true, true, true, true, true, true, true, true, true, true, true, true, true, false, true, true, false, false, false, false, false] rfl rfl (any_of HT_.out (by kernel_rfl)) (fun _ _ _ h => h) (Or.inl ⟨by rfl, ?_⟩) ?_ ?_
          rotate_left
          · intro w'
            go_simp
            with_reducible rfl
          rotate_left
          · simp only [Act.put, List.setIfInBounds_toArray, List.set_cons_zero, List.set_cons_succ, i64_w, i32_w]
            rfl
          refine pure_ (i := 19) (N := some 104) (v := ?_) (a' := ?_) #[true, true, true, true, true, true, true, true, true, true, true, true, true, true, true, true, true, true, true, true, true, true, false, false, false, false, false] rfl rfl (any_of HT_.out (by kernel_rfl)) (fun _ _ _ h => h) (Or.inl ⟨by rfl, ?_⟩) ?_ ?_
          rotate_left
          · intro w'
            go_simp
            with_reducible rfl
          rotate_left
          · simp only [Act.put, List.setIfInBounds_toArray, List.set_cons_zero, List.set_cons_succ, i64_w, i32_w]
            rfl
          refine one_ (i := 22) (N := some 107) #[true, true, true, true, true, true, true, true, true, true, true, true, true, true, true, true, true, true, true, true, true, true, true, false, false, false, false] rfl rfl (one_of HT_.out (by kernel_rfl)) (by decide) (fun K hK => ?_)
          refine goes_ Try.func18 (by kernel_rfl) rfl #[.slice A0_0 l0_0.length c0_0] (by rfl) rfl rfl (by (try simp only [List.map_toArray, List.map_cons, List.map_nil]); first | done | rfl | (simp only [List.length_drop, List.length_take]; rfl)) ?_
          with_reducible refine (ductusref27_Plain.calls k2 _ _ l0_0 t684 _ ?side1 ?side2 A44.out).mono ?_
          (case side1 => repeat (first | exact (Kd.C_below HR0_0.out HB.out) | (with_reducible refine Kd.C_alloc ?_ _) | (with_reducible refine Kd.C_drewN ?_ _) | (with_reducible refine Kd.C_drew ?_)))
          (case side2 => exact HC0_0.out)
          rintro e w52 ⟨v685, rfl, ho0, hb⟩
          refine ⟨_, rfl, ?_⟩
          have n0_ := Aside0.mk (Kd.R_elder' (by (with_reducible repeat (first | apply Kd.R_alloc | apply Kd.R_drewN | apply Kd.R_drew)); exact HO_3.out) (Kd.R_base ho0) hb)
          have n1_ := Aside0.mk (Kd.R_elder' (by (with_reducible repeat (first | apply Kd.R_alloc | apply Kd.R_drewN | apply Kd.R_drew)); exact HO_5.out) (Kd.R_base ho0) hb)
          have n2_ := Aside0.mk (Kd.R_elder' (by (with_reducible repeat (first | apply Kd.R_alloc | apply Kd.R_drewN | apply Kd.R_drew)); exact HO_7.out) (Kd.R_base ho0) hb)
          have n3_ := Aside0.mk (Kd.R_elder' (by (with_reducible repeat (first | apply Kd.R_alloc | apply Kd.R_drewN | apply Kd.R_drew)); exact HO683.out) (Kd.R_base ho0) hb)
          have n4_ := Aside0.mk (Kd.R_lower (Kd.R_new' (Kd.R_new' (Kd.R_new' (Kd.R_new' ho0 (Kd.R_lt (by (with_reducible repeat (first | apply Kd.R_alloc | apply Kd.R_drewN | apply Kd.R_drew)); exact HO_3.out))) (Kd.R_lt (by (with_reducible repeat (first | apply Kd.R_alloc | apply Kd.R_drewN | apply Kd.R_drew)); exact HO_5.out))) (Kd.R_lt (by (with_reducible repeat (first | apply Kd.R_alloc | apply Kd.R_drewN | apply Kd.R_drew)); exact HO_7.out))) (Kd.R_lt (by (with_reducible repeat (first | apply Kd.R_alloc | apply Kd.R_drewN | apply Kd.R_drew)); exact HO683.out))) (below_size (by repeat (first | (with_reducible first | exact HB.out | apply below_alloc | apply pw_below_drewN | apply below_drew1 | refine below_set ?_ GE662.out) | exact HB.out))))
          have n5_ := Aside0.mk (blk_below (g := gb662) (o := .cells #[.slice A0_0 l0_0.length c0_0, .slice A0_1 l0_1.length c0_1, .slice A0_2 l0_2.length c0_2] 25 (0, 0)) (by (with_reducible repeat (first | refine blk_drewN ?_ _ | refine blk_drew ?_ | refine blk_alloc ?_ _)); exact BK662.out) hb)
          have n6_ := Aside0.mk (below_step (by repeat (first | (with_reducible first | exact HB.out | apply below_alloc | apply pw_below_drewN | apply below_drew1 | refine below_set ?_ GE662.out) | exact HB.out)) hb)
          clear HO_3
          clear HO_5
          clear HO_7
          clear HO683
          clear BK662
          clear HB
          have HO_3 := n0_
          have HO_5 := n1_
          have HO_7 := n2_
          have HO683 := n3_
          have HO686 := n4_
          have BK662 := n5_
          have HB := n6_
          clear n0_ n1_ n2_ n3_ n4_ n5_ n6_
          (try clear hb)
          (try clear hb2)
          (try clear hk)
          (try clear hi)
          (try clear ho0)
          obtain ⟨Ao53, co53, eo53⟩ := Kd.R_slice HO686.out
          (first | subst eo53 | (injection eo53 with f1_ f2_ f3_; have f4_ := f1_.symm; have f5_ := f3_.symm; clear f1_ f2_ f3_; subst f4_; subst f5_))
          refine hK.out _ _ ⟨(blk_cell BK662.out 0).trans rfl, (blk_cell BK662.out 1).trans rfl, (blk_cell BK662.out 2).trans rfl⟩ (fun hHeld => ?_)
          clear hK K
          refine norm_ (a' := ?_) ?_ ?_
          rotate_left
          · show Act.put _ (some 107) _ = _
            simp only [Act.put, List.setIfInBounds_toArray, List.set_cons_zero, List.set_cons_succ, i64_w, i32_w]
            rfl
          refine pure_ (i := 23) (N := some 108) (v := ?_) (a' := ?_) #[true, true, true, true, true, true, true, true, true, true, true, true, true, true, true, true, true, true, true, true, true, true, true, true, false, false, false] rfl rfl (any_of HT_.out (by kernel_rfl)) (fun _ _ _ h => h) (Or.inl ⟨by rfl, ?_⟩) ?_ ?_
          rotate_left
          · intro w'
            go_simp
            with_reducible rfl
          rotate_left
          · simp only [Act.put, List.setIfInBounds_toArray, List.set_cons_zero, List.set_cons_succ, i64_w, i32_w]
            rfl
          refine pure_ (i := 24) (N := some 109) (v := ?_) (a' := ?_) #[true, true, true, true, true, true, true, true, true, true, true, true, true, true, true, true, true, true, true, true, true, true, true, true, true, false, false] rfl rfl (any_of HT_.out (by kernel_rfl)) (fun _ _ _ h => h) (Or.inl ⟨by rfl, ?_⟩) ?_ ?_
          rotate_left
          · intro w'
            go_simp
            with_reducible rfl
          rotate_left
          · simp only [Act.put, List.setIfInBounds_toArray, List.set_cons_zero, List.set_cons_succ, i64_w, i32_w]
            rfl
          refine pure_ (i := 25) (N := some 110) (v := ?_) (a' := ?_) #[true, true, true, true, true, true, true, true, true, true, true, true, true, true, true, true, true, true, true, true, true, true, true, true, true, true, false] rfl rfl (any_of HT_.out (by kernel_rfl)) (fun _ _ _ h => h) (Or.inl ⟨by rfl, ?_⟩) ?_ ?_
          rotate_left
          · intro w'
            go_simp
            with_reducible rfl
          rotate_left
          · simp only [Act.put, List.setIfInBounds_toArray, List.set_cons_zero, List.set_cons_succ, i64_w, i32_w]
            rfl
          refine pure_ (i := 26) (N := some 2) (v := ?_) (a' := ?_) #[true, true, true, true, true, true, true, true, true, true, true, true, true, true, true, true, true, true, true, true, true, true, true, true, true, true, true] rfl rfl (any_of HT_.out (by kernel_rfl)) (fun _ _ _ h => h) (Or.inl ⟨by rfl, ?_⟩) ?_ ?_
          rotate_left
          · intro w'
            go_simp
            with_reducible rfl
          rotate_left
          · simp only [Act.put, List.setIfInBounds_toArray, List.set_cons_zero, List.set_cons_succ, i64_w, i32_w]
            rfl
          refine done_ (done_of HT_.out (by kernel_rfl)) ?_
          try go_wp2
          go_ret
          exact ⟨by first | rfl | (simp [errW_none, errW_some] <;> rfl) | (simp [*, errW_none, errW_some] <;> rfl), by repeat (first | (with_reducible first | exact HB.out | apply below_alloc | apply pw_below_drewN | apply below_drew1 | refine below_set ?_ GE662.out) | exact HB.out)⟩

end Go.Proofs.Ythgmkbghdobmlaa.P
namespace Go.Proofs.Ythgmkbghdobmlaa.P
open Go.RowKit Go.Proofs.YthgmkbghdobmlaaW.PrintWords Go.Proofs.YthgmkbghdobmlaaW.PrintLast
set_option linter.unusedVariables false

theorem ints_loop (a b : List Int) (hl : a.length = b.length) (hn : a.length < 9223372036854775807) (d : Nat) : ∀ (k i : Nat), i ≤ a.length → a.length - i = d → d < k →
    ductusref01_Ints.l0 k a b (i : Int) = some (decide (a.drop i = b.drop i)) := by
  induction d with
  | zero =>
    intro k i hi hd hk
    obtain ⟨k, rfl⟩ : ∃ m, k = m + 1 := ⟨k - 1, by omega⟩
    simp only [ductusref01_Ints.l0]
    rw [if_neg (by omega), List.drop_eq_nil_of_le (by omega), List.drop_eq_nil_of_le (by omega)]
    simp
  | succ d ih =>
    intro k i hi hd hk
    obtain ⟨k, rfl⟩ : ∃ m, k = m + 1 := ⟨k - 1, by omega⟩
    simp only [ductusref01_Ints.l0]
    rw [if_pos (by omega), if_pos (by omega), if_pos (by omega), wrap_succ i (by omega), drop_cons a i (by omega), drop_cons b i (by omega)]
    by_cases h : rd a i = rd b i
    · rw [if_pos h, ih k (i + 1) (by omega) (by omega) (by omega), h]
      simp
    · rw [if_neg h]
      simp [h]
theorem ints_eq (k : Nat) (a b : List Int) (hn : a.length < 9223372036854775807) (hk : a.length < k) : ductusref01_Ints.f k a b = some (decide (a = b)) := by
  unfold ductusref01_Ints.f
  by_cases h : a.length = b.length
  · rw [if_pos (by omega)]
    have := ints_loop a b h hn a.length k 0 (by omega) (by omega) hk
    simpa using this
  · rw [if_neg (by omega)]
    have : ¬ a = b := fun e => h (by rw [e])
    simp [this]
theorem ints_same (k : Nat) (a : List Int) (hn : a.length < 9223372036854775807) (hk : a.length < k) : ductusref01_Ints.f k a a = some true := by
  rw [ints_eq k a a hn hk]
  simp

end Go.Proofs.Ythgmkbghdobmlaa.P
namespace Go.Proofs.Ythgmkbghdobmlaa.P
open Go.RowKit Go.Proofs.YthgmkbghdobmlaaW.PrintWords Go.Proofs.YthgmkbghdobmlaaW.PrintLast
set_option linter.unusedVariables false

/-- The places of those that a test lets. -/
def placesOf (p : Int → Bool) : Nat → List Int → List Int
  | _, [] => []
  | i, c :: l => if p c then (i : Int) :: placesOf p (i + 1) l else placesOf p (i + 1) l
theorem places_len (p : Int → Bool) : ∀ (i : Nat) (l : List Int), (placesOf p i l).length = (l.filter p).length
  | _, [] => rfl
  | i, c :: l => by
    simp only [placesOf, List.filter_cons]
    split <;> simp [places_len p (i + 1) l]
theorem places_mem (p : Int → Bool) : ∀ (i : Nat) (l : List Int) (x : Int), x ∈ placesOf p i l → (i : Int) ≤ x ∧ x < ((i + l.length : Nat) : Int)
  | _, [], _, h => by simp [placesOf] at h
  | i, c :: l, x, h => by
    simp only [placesOf] at h
    have h2 : ∀ x ∈ placesOf p (i + 1) l, (i : Int) ≤ x ∧ x < ((i + (l.length + 1) : Nat) : Int) := fun x hx => by
      have := places_mem p (i + 1) l x hx
      omega
    simp only [List.length_cons]
    split at h
    · rcases List.mem_cons.1 h with rfl | h
      · omega
      · exact h2 x h
    · exact h2 x h
theorem places_up (p : Int → Bool) : ∀ (i : Nat) (l : List Int), List.Pairwise (· < ·) (placesOf p i l)
  | _, [] => List.Pairwise.nil
  | i, c :: l => by
    simp only [placesOf]
    split
    · refine List.pairwise_cons.2 ⟨fun x hx => ?_, places_up p (i + 1) l⟩
      have := places_mem p (i + 1) l x hx
      omega
    · exact places_up p (i + 1) l
end Go.Proofs.Ythgmkbghdobmlaa.P
namespace Go.Proofs.Ythgmkbghdobmlaa.P
open Go.RowKit Go.Proofs.YthgmkbghdobmlaaW.PrintWords Go.Proofs.YthgmkbghdobmlaaW.PrintLast Go.Proofs.YthgmkbghdobmlaaW.PrintMore
set_option linter.unusedVariables false
set_option linter.unusedSimpArgs false

def mkeys : List Int := [40, 41, 91, 93, 123, 125, 9001, 9002, 12296, 12297, 12298, 12299, 12300, 12301, 12302, 12303, 12304, 12305, 60, 62, 171, 187, 8804, 8805, 8810, 8811]
def mtbl : List (Int × Int) := [(40, 41), (41, 40), (91, 93), (93, 91), (123, 125), (125, 123), (9001, 9002), (9002, 9001), (12296, 12297), (12297, 12296), (12298, 12299), (12299, 12298), (12300, 12301), (12301, 12300), (12302, 12303), (12303, 12302), (12304, 12305), (12305, 12304), (60, 62), (62, 60), (171, 187), (187, 171), (8804, 8805), (8805, 8804), (8810, 8811), (8811, 8810)]
/-- What a character is mirrored into. -/
def mir (c : Int) : Int := match mtbl.find? (fun p => p.1 == c) with
  | some p => p.2
  | none => c
theorem mir_out {c : Int} (h : c ∉ mkeys) : mir c = c := by
  have hn : mtbl.find? (fun p => p.1 == c) = none := by
    rw [List.find?_eq_none]
    intro p hp he
    simp only [beq_iff_eq] at he
    have hk : ∀ p ∈ mtbl, p.1 ∈ mkeys := by decide
    exact h (he ▸ hk p hp)
  unfold mir
  rw [hn]
theorem ans_out {c : Int} (h : c ∉ mkeys) : pair_Other.ans c = (0, false, false) := by
  have h1 : pair_Other.up c = none := by
    unfold pair_Other.up
    rw [List.find?_eq_none]
    intro p hp he
    simp only [beq_iff_eq] at he
    have hk : ∀ p ∈ pair_Other.tbl, p.1 ∈ mkeys := by decide
    exact h (he ▸ hk p hp)
  have h2 : pair_Other.down c = none := by
    unfold pair_Other.down
    rw [List.find?_eq_none]
    intro p hp he
    simp only [beq_iff_eq] at he
    have hk : ∀ p ∈ pair_Other.tbl, p.2 ∈ mkeys := by decide
    exact h (he ▸ hk p hp)
  unfold pair_Other.ans
  rw [h1, h2]
/-- What holds of every one in the table, and of all that are none, holds. -/
theorem by_keys (P : Int → Prop) (hin : ∀ c ∈ mkeys, P c) (hout : ∀ c, c ∉ mkeys → P c) (c : Int) : P c := by
  by_cases h : c ∈ mkeys
  · exact hin c h
  · exact hout c h
theorem mirror_eq0 (c : Int) : pair_Mirror.f 4 c = some (mir c) := by
  revert c
  refine by_keys _ (by decide +kernel) fun c h => ?_
  have ho := ans_out h
  rw [mir_out h]
  simp only [mkeys, List.mem_cons, List.not_mem_nil, or_false, not_or] at h
  simp [pair_Mirror.f, pair_Mirror.j0, pair_Mirror.j1, pair_Mirror.j2, pair_Other.f, ho, h]
theorem mirror_eq (k : Nat) (hk : 4 ≤ k) (c : Int) : pair_Mirror.f k c = some (mir c) := more (pair_Mirror.mono c) 4 k hk _ (mirror_eq0 c)
set_option maxRecDepth 10000 in
theorem rmirror_eq0 (c : Int) : ductusref03_Mirror.f 14 c = some (mir c) := by
  revert c
  refine by_keys _ (by decide +kernel) fun c h => ?_
  rw [mir_out h]
  simp only [mkeys, List.mem_cons, List.not_mem_nil, or_false, not_or] at h
  simp [ductusref03_Mirror.f, ductusref03_Mirror.l0, ductusref03_brackets.f, rd, wrap64, eq_comm (b := c), h]
theorem rmirror_eq (k : Nat) (hk : 14 ≤ k) (c : Int) : ductusref03_Mirror.f k c = some (mir c) := more (ductusref03_Mirror.mono c) 14 k hk _ (rmirror_eq0 c)
end Go.Proofs.Ythgmkbghdobmlaa.P
namespace Go.Proofs.Ythgmkbghdobmlaa.P
open Go.RowKit Go.Proofs.YthgmkbghdobmlaaW.PrintWords Go.Proofs.YthgmkbghdobmlaaW.PrintLast Go.Proofs.YthgmkbghdobmlaaW.PrintMore
set_option linter.unusedVariables false
set_option linter.unusedSimpArgs false

theorem plain_loop (l : List Int) (hn : l.length * 8 ≤ 140737488351232) (d : Nat) : ∀ (k i : Nat) (acc : List Int), i ≤ l.length → l.length - i = d → d + 4 < k → acc.length = i →
    pair_Plain.l0 k acc l (l.length : Int) (i : Int) = some (acc ++ (l.drop i).map fun c => mn c (mir c)) := by
  induction d with
  | zero =>
    intro k i acc hi hd hk ha
    obtain ⟨k, rfl⟩ : ∃ m, k = m + 1 := ⟨k - 1, by omega⟩
    simp only [pair_Plain.l0]
    rw [if_neg (by omega), List.drop_eq_nil_of_le (by omega)]
    simp
  | succ d ih =>
    intro k i acc hi hd hk ha
    obtain ⟨k, rfl⟩ : ∃ m, k = m + 1 := ⟨k - 1, by omega⟩
    simp only [pair_Plain.l0]
    rw [if_pos (by omega), if_pos (by omega), if_pos (by omega), mirror_eq k (by omega)]
    simp only [Option.bind_some]
    rw [if_pos (by omega), wrap_succ i (by omega), ih k (i + 1) _ (by omega) (by omega) (by omega) (by simp [ha]), drop_cons l i (by omega)]
    simp
/-- The lesser one of two that are mirrored, of each. -/
def plainL (l : List Int) : List Int := l.map fun c => mn c (mir c)
theorem plain_eq (k : Nat) (l : List Int) (hn : l.length * 8 ≤ 140737488351232) (hk : l.length + 4 < k) : pair_Plain.f k l = some (plainL l) := by
  unfold pair_Plain.f
  have := plain_loop l hn l.length k 0 [] (by omega) (by omega) hk rfl
  unfold plainL
  simpa using this

end Go.Proofs.Ythgmkbghdobmlaa.P
namespace Go.Proofs.Ythgmkbghdobmlaa.P
open Go.RowKit Go.Proofs.YthgmkbghdobmlaaW.PrintWords Go.Proofs.YthgmkbghdobmlaaW.PrintLast Go.Proofs.YthgmkbghdobmlaaW.PrintMore
set_option linter.unusedVariables false
set_option linter.unusedSimpArgs false

def fspans : List (Int × Nat × Int) := [(65, 26, 32), (181, 1, 775), (192, 23, 32), (216, 7, 32), (913, 17, 32), (931, 7, 32), (962, 1, 1), (1024, 16, 80), (1040, 32, 32), (7838, 1, -7615)]
def fkeys : List Int := fspans.flatMap fun s => (List.range s.2.1).map fun (i : Nat) => s.1 + (i : Int)
def foldFrom (c : Int) : List (Int × Nat × Int) → Int
  | [] => c
  | s :: t => if s.1 ≤ c ∧ c < s.1 + (s.2.1 : Int) then c + s.2.2 else foldFrom c t
/-- What a character is folded into. -/
def foldc (c : Int) : Int := foldFrom c fspans
theorem fkeys_no {c : Int} (h : c ∉ fkeys) : ∀ s ∈ fspans, ¬ (s.1 ≤ c ∧ c < s.1 + (s.2.1 : Int)) := by
  intro s hs hc
  refine h ?_
  unfold fkeys
  rw [List.mem_flatMap]
  refine ⟨s, hs, ?_⟩
  rw [List.mem_map]
  refine ⟨(c - s.1).toNat, ?_, ?_⟩
  · rw [List.mem_range]
    omega
  · omega
theorem foldFrom_out (c : Int) : ∀ l : List (Int × Nat × Int), (∀ s ∈ l, ¬ (s.1 ≤ c ∧ c < s.1 + (s.2.1 : Int))) → foldFrom c l = c
  | [], _ => rfl
  | s :: t, h => by
    simp only [foldFrom]
    rw [if_neg (h s List.mem_cons_self)]
    exact foldFrom_out c t fun x hx => h x (List.mem_cons_of_mem _ hx)
theorem fold_out {c : Int} (h : c ∉ fkeys) : foldc c = c := foldFrom_out c fspans (fkeys_no h)
theorem by_fkeys (P : Int → Prop) (hin : ∀ c ∈ fkeys, P c) (hout : ∀ c, c ∉ fkeys → P c) (c : Int) : P c := by
  by_cases h : c ∈ fkeys
  · exact hin c h
  · exact hout c h
theorem fold_eq0 (c : Int) : fold_Of.f 12 c = some (foldc c) := by
  revert c
  refine by_fkeys _ (by decide +kernel) fun c h => ?_
  rw [fold_out h]
  have hn := fkeys_no h
  simp only [fspans, List.mem_cons, List.not_mem_nil, or_false, forall_eq_or_imp, forall_eq] at hn
  obtain ⟨h0, h1, h2, h3, h4, h5, h6, h7, h8, h9⟩ := hn
  have q0 : ¬ (c ≥ 65 ∧ c ≤ 90) := by omega
  have q1 : ¬ (c ≥ 181 ∧ c ≤ 181) := by omega
  have q2 : ¬ (c ≥ 192 ∧ c ≤ 214) := by omega
  have q3 : ¬ (c ≥ 216 ∧ c ≤ 222) := by omega
  have q4 : ¬ (c ≥ 913 ∧ c ≤ 929) := by omega
  have q5 : ¬ (c ≥ 931 ∧ c ≤ 937) := by omega
  have q6 : ¬ (c ≥ 962 ∧ c ≤ 962) := by omega
  have q7 : ¬ (c ≥ 1024 ∧ c ≤ 1039) := by omega
  have q8 : ¬ (c ≥ 1040 ∧ c ≤ 1071) := by omega
  have q9 : ¬ (c ≥ 7838 ∧ c ≤ 7838) := by omega
  have two : ∀ (a b : Int) (x y : Option Int), ¬ (c ≥ a ∧ c ≤ b) → (if c ≥ a then (if c ≤ b then x else y) else y) = y := by
    intro a b x y hq
    by_cases e1 : c ≥ a
    · rw [if_pos e1, if_neg (fun e2 => hq ⟨e1, e2⟩)]
    · rw [if_neg e1]
  have s0 : wrap64 (0 + 1) = 1 := by decide +kernel
  have s1 : wrap64 (1 + 1) = 2 := by decide +kernel
  have s2 : wrap64 (2 + 1) = 3 := by decide +kernel
  have s3 : wrap64 (3 + 1) = 4 := by decide +kernel
  have s4 : wrap64 (4 + 1) = 5 := by decide +kernel
  have s5 : wrap64 (5 + 1) = 6 := by decide +kernel
  have s6 : wrap64 (6 + 1) = 7 := by decide +kernel
  have s7 : wrap64 (7 + 1) = 8 := by decide +kernel
  have s8 : wrap64 (8 + 1) = 9 := by decide +kernel
  have s9 : wrap64 (9 + 1) = 10 := by decide +kernel
  unfold fold_Of.f fold_stretches.f
  simp only [Option.bind_some, List.length_cons, List.length_nil]
  simp only [fold_Of.l0, rd_T87, two _ _ _ _ q0, two _ _ _ _ q1, two _ _ _ _ q2, two _ _ _ _ q3, two _ _ _ _ q4, two _ _ _ _ q5, two _ _ _ _ q6, two _ _ _ _ q7, two _ _ _ _ q8, two _ _ _ _ q9, s0, s1, s2, s3, s4, s5, s6, s7, s8, s9,
    List.length_cons, List.length_nil, List.getD_cons_zero, List.getD_cons_succ, Int.toNat_natCast, Int.toNat_zero, Int.toNat_one, Int.reduceToNat, if_true, if_false, Int.reduceLT, Int.reduceLE]
  simp
theorem fold_eq (k : Nat) (hk : 12 ≤ k) (c : Int) : fold_Of.f k c = some (foldc c) := more (fold_Of.mono c) 12 k hk _ (fold_eq0 c)
theorem rfold_eq0 (c : Int) : ductusref04_Of.f 8 c = some (foldc c) := by
  revert c
  refine by_fkeys _ (by decide +kernel) fun c h => ?_
  rw [fold_out h]
  have hn := fkeys_no h
  simp only [fspans, List.mem_cons, List.not_mem_nil, or_false, forall_eq_or_imp, forall_eq] at hn
  obtain ⟨h0, h1, h2, h3, h4, h5, h6, h7, h8, h9⟩ := hn
  have two : ∀ (a b : Int) (x : Bool → Option Int) (y : Option Int), ¬ (c ≥ a ∧ c ≤ b) → x false = y → (if c ≥ a then x (decide (c ≤ b)) else y) = y := by
    intro a b x y hq hx
    by_cases e1 : c ≥ a
    · rw [if_pos e1, decide_eq_false (fun e2 => hq ⟨e1, e2⟩), hx]
    · rw [if_neg e1]
  have j5 : ∀ k, ductusref04_Of.j5 (k + 1) c false = some c := by
    intro k
    simp only [ductusref04_Of.j5]
    rw [if_neg (by decide), if_neg (by omega), if_neg (by omega), if_neg (by omega)]
  have j4 : ∀ k, ductusref04_Of.j4 (k + 2) c false = some c := by
    intro k
    simp only [ductusref04_Of.j4]
    rw [if_neg (by decide), two 1024 1039 (fun b => ductusref04_Of.j5 (k + 1) c b) _ (by omega) rfl]
    exact j5 k
  have j3 : ∀ k, ductusref04_Of.j3 (k + 3) c false = some c := by
    intro k
    have e2 : (if c ≥ 1040 then ductusref04_Of.j4 (k + 2) c (decide (c ≤ 1071)) else ductusref04_Of.j4 (k + 2) c false) = some c := by
      rw [two 1040 1071 (fun b => ductusref04_Of.j4 (k + 2) c b) _ (by omega) rfl]
      exact j4 k
    simp only [ductusref04_Of.j3]
    rw [if_neg (by decide), e2]
    by_cases e1 : c ≥ 931
    · rw [if_pos e1, if_neg (by omega)]
    · rw [if_neg e1]
  have j2 : ∀ k, ductusref04_Of.j2 (k + 4) c false = some c := by
    intro k
    simp only [ductusref04_Of.j2]
    rw [if_neg (by decide), two 913 929 (fun b => ductusref04_Of.j3 (k + 3) c b) _ (by omega) rfl]
    exact j3 k
  have j1 : ∀ k, ductusref04_Of.j1 (k + 5) c false = some c := by
    intro k
    simp only [ductusref04_Of.j1]
    rw [if_neg (by decide), two 216 222 (fun b => ductusref04_Of.j2 (k + 4) c b) _ (by omega) rfl]
    exact j2 k
  have j0 : ∀ k, ductusref04_Of.j0 (k + 6) c false = some c := by
    intro k
    simp only [ductusref04_Of.j0]
    rw [if_neg (by decide), two 192 214 (fun b => ductusref04_Of.j1 (k + 5) c b) _ (by omega) rfl]
    exact j1 k
  unfold ductusref04_Of.f
  rw [two 65 90 (fun b => ductusref04_Of.j0 8 c b) _ (by omega) rfl]
  exact j0 2
theorem rfold_eq (k : Nat) (hk : 8 ≤ k) (c : Int) : ductusref04_Of.f k c = some (foldc c) := more (ductusref04_Of.mono c) 8 k hk _ (rfold_eq0 c)
end Go.Proofs.Ythgmkbghdobmlaa.P
namespace Go.Proofs.Ythgmkbghdobmlaa.P
open Go.RowKit Go.Proofs.YthgmkbghdobmlaaW.PrintWords Go.Proofs.YthgmkbghdobmlaaW.PrintLast Go.Proofs.YthgmkbghdobmlaaW.PrintMore
set_option linter.unusedVariables false
set_option linter.unusedSimpArgs false

theorem ropens_eq (k : Int) : ductusref02_Opens.f k = some (opnK k) := by
  unfold ductusref02_Opens.f opnK
  repeat' split
  all_goals simp_all
  rfl
theorem rout0_eq (k : Int) : ductusref02_Out.f k = some (outK k) := by
  unfold ductusref02_Out.f outK
  repeat' split
  all_goals simp_all
  rfl
theorem rcls_eq (c : Int) : ductusref02_Of.f c = some (cls c) := rfl
theorem rcontrol_eq (c : Int) : ductusref23_Control.f c = some (ctl c) := by
  unfold ductusref23_Control.f ctl ctlK
  rw [rcls_eq]
  simp only [Option.bind_some, rout0_eq, ropens_eq]
  cases outK (cls c) <;> cases opnK (cls c) <;> simp

theorem and_one (n : Int) : Go.bits .and .i64 n 1 = 0 ∨ Go.bits .and .i64 n 1 = 1 := by
  have h1 : (BitVec.ofInt 64 1).toNat = 2 ^ 1 - 1 := by decide
  have key : (BitVec.ofInt 64 n &&& BitVec.ofInt 64 1).toNat = (n % ((2 ^ 64 : Nat) : Int)).toNat % 2 ^ 1 := by
    rw [BitVec.toNat_and, BitVec.toNat_ofInt, h1, Nat.and_two_pow_sub_one_eq_mod]
  have e : Go.bits .and .i64 n 1 = IntKind.i64.wrap ((BitVec.ofInt 64 n &&& BitVec.ofInt 64 1).toNat : Nat) := rfl
  rw [e, key, IntKind.wrap_i64]
  omega
theorem and_two (n : Int) : Go.bits .and .i64 n 2 = 0 ∨ Go.bits .and .i64 n 2 = 2 := by
  obtain ⟨r, hr⟩ : ∃ r, r = (BitVec.ofInt 64 n &&& BitVec.ofInt 64 2).toNat := ⟨_, rfl⟩
  have h1 : (BitVec.ofInt 64 2).toNat = 2 := by decide
  have e : Go.bits .and .i64 n 2 = IntKind.i64.wrap (r : Nat) := by rw [hr]; rfl
  rw [BitVec.toNat_and, h1] at hr
  have h2 : r ≤ 2 := by rw [hr]; exact Nat.and_le_right
  have h3 : r.testBit 0 = false := by rw [hr, Nat.testBit_and]; simp
  rw [Nat.testBit_zero, decide_eq_false_iff_not] at h3
  rw [e, IntKind.wrap_i64]
  omega
def trF (flags c : Int) : Int := if Go.bits .and .i64 flags 1 = 0 then c else foldc c
def trM (flags c : Int) : Int := if Go.bits .and .i64 flags 2 = 0 then c else mn c (mir c)
/-- What is searched in a character's place. -/
def tr (flags c : Int) : Int := trM flags (trF flags c)
def chrs (flags : Int) (l : List Int) : List Int := (l.filter nctl).map (tr flags)
def plcs (l : List Int) : List Int := placesOf nctl 0 l ++ [(l.length : Int)]

theorem all_loop (l : List Int) (hn : l.length ≤ 9000) (d : Nat) : ∀ (k i : Nat) (acc : List Int), i ≤ l.length → l.length - i = d → d + 12 < k → acc.length = i →
    fold_All.l0 k acc l (l.length : Int) (i : Int) = some (acc ++ (l.drop i).map foldc) := by
  induction d with
  | zero =>
    intro k i acc hi hd hk ha
    obtain ⟨k, rfl⟩ : ∃ m, k = m + 1 := ⟨k - 1, by omega⟩
    simp only [fold_All.l0]
    rw [if_neg (by omega), List.drop_eq_nil_of_le (by omega)]
    simp
  | succ d ih =>
    intro k i acc hi hd hk ha
    obtain ⟨k, rfl⟩ : ∃ m, k = m + 1 := ⟨k - 1, by omega⟩
    simp only [fold_All.l0]
    rw [if_pos (by omega), if_pos (by omega), if_pos (by omega), fold_eq k (by omega)]
    simp only [Option.bind_some]
    rw [if_pos (by omega), wrap_succ i (by omega), ih k (i + 1) _ (by omega) (by omega) (by omega) (by simp [ha]), drop_cons l i (by omega)]
    simp
theorem all_eq (k : Nat) (l : List Int) (hn : l.length ≤ 9000) (hk : l.length + 12 < k) : fold_All.f k l = some (l.map foldc) := by
  unfold fold_All.f
  have := all_loop l hn l.length k 0 [] (by omega) (by omega) hk rfl
  simpa using this
theorem of_loop (l0 : List Int) (flags : Int) (hn : l0.length ≤ 9000) (d : Nat) : ∀ (k i : Nat) (acc at_ : List Int), i ≤ l0.length → l0.length - i = d → d + l0.length + 100 < k → acc.length ≤ i → at_.length ≤ i →
    norm_Of.l0 k l0 flags acc at_ l0 (l0.length : Int) (i : Int) = some ((acc ++ (l0.drop i).filter nctl).map (tr flags), at_ ++ placesOf nctl i (l0.drop i) ++ [(l0.length : Int)]) := by
  induction d with
  | zero =>
    intro k i acc at_ hi hd hk ha hb
    obtain ⟨k, rfl⟩ : ∃ m, k = m + 1 := ⟨k - 1, by omega⟩
    simp only [norm_Of.l0]
    rw [if_neg (by omega), List.drop_eq_nil_of_le (by omega)]
    simp only [placesOf, List.filter_nil, List.append_nil]
    by_cases h1 : Go.bits .and .i64 flags 1 = 0
    · rw [if_pos h1]
      by_cases h2 : Go.bits .and .i64 flags 2 = 0
      · rw [if_pos h2, if_pos (by omega)]
        have e : acc.map (tr flags) = acc := by
          have : ∀ c, tr flags c = c := fun c => by unfold tr trM trF; rw [if_pos h2, if_pos h1]
          rw [List.map_congr_left (fun c _ => this c), List.map_id']
        rw [e]
      · rw [if_neg h2, plain_eq k acc (by omega) (by omega)]
        simp only [Option.bind_some]
        rw [if_pos (by omega)]
        have e : acc.map (tr flags) = plainL acc := by
          unfold plainL
          exact List.map_congr_left fun c _ => by unfold tr trM trF; rw [if_neg h2, if_pos h1]
        rw [e]
    · rw [if_neg h1, all_eq k acc (by omega) (by omega)]
      simp only [Option.bind_some]
      by_cases h2 : Go.bits .and .i64 flags 2 = 0
      · rw [if_pos h2, if_pos (by omega)]
        have e : acc.map (tr flags) = acc.map foldc := List.map_congr_left fun c _ => by unfold tr trM trF; rw [if_pos h2, if_neg h1]
        rw [e]
      · rw [if_neg h2, plain_eq k (acc.map foldc) (by simp; omega) (by simp; omega)]
        simp only [Option.bind_some]
        rw [if_pos (by omega)]
        have e : acc.map (tr flags) = plainL (acc.map foldc) := by
          unfold plainL
          rw [List.map_map]
          exact List.map_congr_left fun c _ => by unfold tr trM trF; rw [if_neg h2, if_neg h1]; rfl
        rw [e]
  | succ d ih =>
    intro k i acc at_ hi hd hk ha hb
    obtain ⟨k, rfl⟩ : ∃ m, k = m + 1 := ⟨k - 1, by omega⟩
    simp only [norm_Of.l0]
    rw [if_pos (by omega), if_pos (by omega), if_pos (by omega), control_eq k (by omega)]
    simp only [Option.bind_some]
    rw [wrap_succ i (by omega), drop_cons l0 i (by omega)]
    by_cases h : ctl (rd l0 (i : Int)) = true
    · have h2 : nctl (rd l0 (i : Int)) = false := by unfold nctl; rw [h]; rfl
      rw [if_pos h, ih k (i + 1) acc at_ (by omega) (by omega) (by omega) (by omega) (by omega)]
      simp [placesOf, h2]
    · have h2 : nctl (rd l0 (i : Int)) = true := by unfold nctl; simpa using h
      rw [if_neg h, if_pos (by omega), if_pos (by omega), ih k (i + 1) _ _ (by omega) (by omega) (by omega) (by simp; omega) (by simp; omega)]
      simp [placesOf, h2]
theorem norm_of_eq (k : Nat) (l : List Int) (flags : Int) (hn : l.length ≤ 9000) (hk : 2 * l.length + 100 < k) : norm_Of.f k l flags = some (chrs flags l, plcs l) := by
  unfold norm_Of.f chrs plcs
  have := of_loop l flags hn l.length k 0 [] [] (by omega) (by omega) (by omega) (by simp) (by simp)
  simpa using this
theorem rnorm_loop (l0 : List Int) (flags : Int) (hn : l0.length ≤ 9000) (d : Nat) : ∀ (k i : Nat) (acc at_ : List Int), i ≤ l0.length → l0.length - i = d → d + 100 < k → acc.length ≤ i → at_.length ≤ i →
    ductusref23_Of.l0 k l0 flags acc at_ (i : Int) = some (acc ++ ((l0.drop i).filter nctl).map (tr flags), at_ ++ placesOf nctl i (l0.drop i) ++ [(l0.length : Int)]) := by
  induction d with
  | zero =>
    intro k i acc at_ hi hd hk ha hb
    obtain ⟨k, rfl⟩ : ∃ m, k = m + 1 := ⟨k - 1, by omega⟩
    simp only [ductusref23_Of.l0]
    rw [if_neg (by omega), if_pos (by omega), List.drop_eq_nil_of_le (by omega)]
    simp [placesOf]
  | succ d ih =>
    intro k i acc at_ hi hd hk ha hb
    obtain ⟨k, rfl⟩ : ∃ m, k = m + 1 := ⟨k - 1, by omega⟩
    simp only [ductusref23_Of.l0]
    rw [if_pos (by omega), if_pos (by omega), rcontrol_eq]
    simp only [Option.bind_some]
    rw [wrap_succ i (by omega), drop_cons l0 i (by omega)]
    by_cases h : ctl (rd l0 (i : Int)) = true
    · have h2 : nctl (rd l0 (i : Int)) = false := by unfold nctl; rw [h]; rfl
      rw [if_pos h, ih k (i + 1) acc at_ (by omega) (by omega) (by omega) (by omega) (by omega)]
      simp [placesOf, h2]
    · have h2 : nctl (rd l0 (i : Int)) = true := by unfold nctl; simpa using h
      have next : ∀ c, c = tr flags (rd l0 (i : Int)) → (if acc.length < 17592186044416 then (if at_.length < 17592186044416 then (ductusref23_Of.l0 k l0 flags (acc ++ [c]) (at_ ++ [(i : Int)]) ((i + 1 : Nat) : Int)) else none) else none) = some (acc ++ ((rd l0 (i : Int) :: l0.drop (i + 1)).filter nctl).map (tr flags), at_ ++ placesOf nctl i (rd l0 (i : Int) :: l0.drop (i + 1)) ++ [(l0.length : Int)]) := by
        intro c hc
        rw [if_pos (by omega), if_pos (by omega), ih k (i + 1) _ _ (by omega) (by omega) (by omega) (by simp; omega) (by simp; omega)]
        simp [placesOf, h2, hc]
      rw [if_neg h, rfold_eq k (by omega)]
      simp only [Option.bind_some, rmirror_eq k (show 14 ≤ k by omega)]
      rcases and_one flags with a1 | a1 <;> rcases and_two flags with a2 | a2
      · rw [a1, a2, if_neg (by decide), if_neg (by decide)]
        exact next _ (by unfold tr trM trF; rw [if_pos a2, if_pos a1])
      · rw [a1, a2, if_neg (by decide), if_pos rfl]
        exact next _ (by unfold tr trM trF; rw [if_neg (by rw [a2]; decide), if_pos a1])
      · rw [a1, a2, if_pos rfl, if_neg (by decide)]
        exact next _ (by unfold tr trM trF; rw [if_pos a2, if_neg (by rw [a1]; decide)])
      · rw [a1, a2, if_pos rfl, if_pos rfl]
        exact next _ (by unfold tr trM trF; rw [if_neg (by rw [a2]; decide), if_neg (by rw [a1]; decide)])
theorem rnorm_of_eq (k : Nat) (l : List Int) (flags : Int) (hn : l.length ≤ 9000) (hk : l.length + 100 < k) : ductusref23_Of.f k l flags = some (chrs flags l, plcs l) := by
  unfold ductusref23_Of.f chrs plcs
  have := rnorm_loop l flags hn l.length k 0 [] [] (by omega) (by omega) (by omega) (by simp) (by simp)
  simpa using this

def backOf (l : List Int) (a b : Int) : Int × Int × Bool := if 0 ≤ a ∧ a ≤ b ∧ b < (l.length : Int) then (if b > a then (rd l a, wrap64 (rd l (b - 1) + 1), true) else (rd l a, rd l a, true)) else (0, 0, false)
theorem lies_eq (a b n : Int) : norm_lies.f a b n = some (decide (0 ≤ a ∧ a ≤ b ∧ b < n)) := by
  unfold norm_lies.f
  by_cases h : a ≥ 0
  · by_cases h2 : a ≤ b
    · rw [if_pos h, if_pos h2]
      simp [show 0 ≤ a from h, h2]
    · rw [if_pos h, if_neg h2]
      simp [h2]
  · rw [if_neg h]
    have : ¬ 0 ≤ a := h
    simp [this]
theorem back_eq (l : List Int) (hn : l.length ≤ 9001) (a b : Int) : norm_Back.f l a b = some (backOf l a b) := by
  unfold norm_Back.f backOf
  rw [lies_eq]
  simp only [Option.bind_some, decide_eq_true_eq]
  by_cases h : 0 ≤ a ∧ a ≤ b ∧ b < (l.length : Int)
  · rw [if_pos h, if_pos h, if_pos h.1, if_pos (by omega)]
    by_cases h2 : b > a
    · rw [if_pos h2, if_pos h2, wrap_id (x := b - 1) (by omega) (by omega), if_pos (by omega), if_pos (by omega)]
    · rw [if_neg h2, if_neg h2]
  · rw [if_neg h, if_neg h]
theorem plcs_len (l : List Int) : (plcs l).length = (l.filter nctl).length + 1 := by
  unfold plcs
  rw [List.length_append, places_len]
  rfl
theorem plcs_up (l : List Int) : List.Pairwise (· < ·) (plcs l) := by
  unfold plcs
  refine List.pairwise_append.2 ⟨places_up nctl 0 l, List.pairwise_singleton _ _, fun x hx y hy => ?_⟩
  have := places_mem nctl 0 l x hx
  simp only [List.mem_singleton] at hy
  omega
theorem plcs_in (l : List Int) : ∀ x ∈ plcs l, 0 ≤ x ∧ x ≤ (l.length : Int) := by
  intro x hx
  unfold plcs at hx
  rcases List.mem_append.1 hx with h | h
  · have := places_mem nctl 0 l x h
    omega
  · simp only [List.mem_singleton] at h
    omega
/-- The place of the i-th that is searched. -/
theorem plcs_at (l : List Int) (i : Nat) (h : i < (l.filter nctl).length) : rd (plcs l) (i : Int) = (placesOf nctl 0 l)[i]'(by rw [places_len]; exact h) := by
  rw [rd_get _ i (by rw [plcs_len]; omega)]
  unfold plcs
  rw [List.getElem_append_left]
theorem plcs_end (l : List Int) : rd (plcs l) ((l.filter nctl).length : Int) = (l.length : Int) := by
  rw [rd_get _ _ (by rw [plcs_len]; omega)]
  unfold plcs
  rw [List.getElem_append_right (by rw [places_len]; omega)]
  simp
theorem plcs_lt (l : List Int) (i : Nat) (h : i < (l.filter nctl).length) : 0 ≤ rd (plcs l) (i : Int) ∧ rd (plcs l) (i : Int) < (l.length : Int) := by
  rw [plcs_at l i h]
  have := places_mem nctl 0 l _ (List.getElem_mem (show i < (placesOf nctl 0 l).length by rw [places_len]; exact h))
  omega
theorem plcs_mono (l : List Int) (i j : Nat) (h : i < j) (hj : j ≤ (l.filter nctl).length) : rd (plcs l) (i : Int) < rd (plcs l) (j : Int) := by
  rw [rd_get _ i (by rw [plcs_len]; omega), rd_get _ j (by rw [plcs_len]; omega)]
  exact List.pairwise_iff_getElem.1 (plcs_up l) i j _ _ h
theorem take_place (p : Int → Bool) : ∀ (l : List Int) (s i : Nat) (x : Int), (placesOf p s l)[i]? = some x →
    (l.take (x.toNat - s)).filter p = (l.filter p).take i ∧ (l.take (x.toNat - s + 1)).filter p = (l.filter p).take (i + 1) ∧ s ≤ x.toNat
  | [], s, i, x, h => by simp [placesOf] at h
  | c :: l, s, i, x, h => by
    by_cases hc : p c = true
    · simp only [placesOf, if_pos hc] at h
      cases i with
      | zero =>
        simp only [List.getElem?_cons_zero, Option.some.injEq] at h
        subst h
        simp [hc]
      | succ i =>
        rw [List.getElem?_cons_succ] at h
        obtain ⟨h1, h2, h3⟩ := take_place p l (s + 1) i x h
        have e : x.toNat - s = (x.toNat - (s + 1)) + 1 := by omega
        rw [e]
        simp only [List.take_succ_cons, List.filter_cons, if_pos hc, h1]
        refine ⟨trivial, ?_, by omega⟩
        rw [h2]
    · simp only [placesOf, if_neg hc] at h
      obtain ⟨h1, h2, h3⟩ := take_place p l (s + 1) i x h
      have e : x.toNat - s = (x.toNat - (s + 1)) + 1 := by omega
      rw [e]
      simp only [List.take_succ_cons, List.filter_cons, if_neg hc, h1]
      exact ⟨trivial, h2, by omega⟩
theorem mid_filter (p : Int → Bool) (l : List Int) (a b m n : Nat) (hab : a ≤ b) (hmn : m ≤ n) (hn : n ≤ (l.filter p).length) (ha : (l.take a).filter p = (l.filter p).take m) (hb : (l.take b).filter p = (l.filter p).take n) :
    ((l.take b).drop a).filter p = ((l.filter p).take n).drop m := by
  have e : l.take b = l.take a ++ (l.take b).drop a := by
    have := (List.take_append_drop a (l.take b)).symm
    rwa [List.take_take, Nat.min_eq_left hab] at this
  have e2 : (l.filter p).take n = (l.filter p).take m ++ ((l.take b).drop a).filter p := by
    rw [← hb, ← ha, ← List.filter_append, ← e]
  rw [e2, List.drop_left' (by rw [List.length_take]; omega)]
end Go.Proofs.Ythgmkbghdobmlaa.P
namespace Go.Proofs.Ythgmkbghdobmlaa.P
open Go.RowKit Go.Proofs.YthgmkbghdobmlaaW.PrintWords Go.Proofs.YthgmkbghdobmlaaW.PrintLast
set_option linter.unusedVariables false

theorem ev_step {α β : Type} {f : Nat → Option α} {g : Nat → Option β} {a : α} {r : β} (H : Ev f a) (h : ∀ k, f k = some a → g (k + 1) = some r) : Ev g r := by
  obtain ⟨K, H⟩ := H
  refine ⟨K + 1, fun k hk => ?_⟩
  obtain ⟨k, rfl⟩ : ∃ m, k = m + 1 := ⟨k - 1, by omega⟩
  exact h k (H k (by omega))
theorem ev_step2 {α β γ : Type} {f : Nat → Option α} {f2 : Nat → Option γ} {g : Nat → Option β} {a : α} {b : γ} {r : β} (H : Ev f a) (H2 : Ev f2 b) (h : ∀ k, f k = some a → f2 k = some b → g (k + 1) = some r) : Ev g r := by
  obtain ⟨K, H⟩ := H
  obtain ⟨K2, H2⟩ := H2
  refine ⟨K + K2 + 1, fun k hk => ?_⟩
  obtain ⟨k, rfl⟩ : ∃ m, k = m + 1 := ⟨k - 1, by omega⟩
  exact h k (H k (by omega)) (H2 k (by omega))
theorem ev_step3 {α β γ δ : Type} {f : Nat → Option α} {f2 : Nat → Option γ} {f3 : Nat → Option δ} {g : Nat → Option β} {a : α} {b : γ} {c : δ} {r : β} (H : Ev f a) (H2 : Ev f2 b) (H3 : Ev f3 c) (h : ∀ k, f k = some a → f2 k = some b → f3 k = some c → g (k + 1) = some r) : Ev g r := by
  obtain ⟨K, H⟩ := H
  obtain ⟨K2, H2⟩ := H2
  obtain ⟨K3, H3⟩ := H3
  refine ⟨K + K2 + K3 + 1, fun k hk => ?_⟩
  obtain ⟨k, rfl⟩ : ∃ m, k = m + 1 := ⟨k - 1, by omega⟩
  exact h k (H k (by omega)) (H2 k (by omega)) (H3 k (by omega))
theorem ev_one {β : Type} {g : Nat → Option β} {r : β} (h : ∀ k, g (k + 1) = some r) : Ev g r := ⟨1, fun k hk => by
  obtain ⟨k, rfl⟩ : ∃ m, k = m + 1 := ⟨k - 1, by omega⟩
  exact h k⟩
theorem ev_now {β : Type} {g : Nat → Option β} {r : β} (h : ∀ k, g k = some r) : Ev g r := ⟨0, fun k _ => h k⟩
theorem ev_same {α β : Type} {f : Nat → Option α} {g : Nat → Option β} {a : α} {r : β} (H : Ev f a) (h : ∀ k, f k = some a → g k = some r) : Ev g r := by
  obtain ⟨K, H⟩ := H
  exact ⟨K, fun k hk => h k (H k hk)⟩
theorem ev_same2 {α β γ : Type} {f : Nat → Option α} {f2 : Nat → Option γ} {g : Nat → Option β} {a : α} {b : γ} {r : β} (H : Ev f a) (H2 : Ev f2 b) (h : ∀ k, f k = some a → f2 k = some b → g k = some r) : Ev g r := by
  obtain ⟨K, H⟩ := H
  obtain ⟨K2, H2⟩ := H2
  exact ⟨K + K2, fun k hk => h k (H k (by omega)) (H2 k (by omega))⟩
/-- Two answers at once. -/
theorem ev_and {α γ : Type} {f : Nat → Option α} {f2 : Nat → Option γ} {a : α} {b : γ} (H : Ev f a) (H2 : Ev f2 b) : Ev (fun k => (f k).bind fun x => (f2 k).map fun y => (x, y)) (a, b) :=
  ev_same2 H H2 fun k h h2 => by rw [h, h2]; rfl
theorem ev_fst {α γ : Type} {o : Option α} {o2 : Option γ} {a : α} {b : γ} (h : (o.bind fun x => o2.map fun y => (x, y)) = some (a, b)) : o = some a ∧ o2 = some b := by
  cases o with
  | none => cases h
  | some x =>
    cases o2 with
    | none => cases h
    | some y =>
      simp only [Option.bind_some, Option.map_some, Option.some.injEq, Prod.mk.injEq] at h
      rw [h.1, h.2]
      exact ⟨rfl, rfl⟩
end Go.Proofs.Ythgmkbghdobmlaa.P
