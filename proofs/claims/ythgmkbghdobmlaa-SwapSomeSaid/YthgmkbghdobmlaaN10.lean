/- Texts of this claim put together by a program of its own, what no law of the claim uses left out: each part's statements bear their own conditions. -/
import Derived.Test.YthgmkbghdobmlaaN0
import Derived.Test.YthgmkbghdobmlaaN5
import Derived.Test.YthgmkbghdobmlaaN6
import Derived.Test.YthgmkbghdobmlaaN8
import Derived.Test.YthgmkbghdobmlaaN4
namespace Go.Proofs.Ythgmkbghdobmlaa.P
open Go.RowKit Go.Proofs.YthgmkbghdobmlaaW.PrintWords Go.Proofs.YthgmkbghdobmlaaW.PrintLast Go.Proofs.YthgmkbghdobmlaaW.PrintMore
attribute [local go_sem] max2_int min2_int max_two min_two max_three min_three max_four min_four   -- for this text's walks alone
set_option linter.unusedVariables false
set_option linter.unusedSimpArgs false

mutual
def ductuslaw27_SwapSome.l0 : Nat → Int → List Int → Int → List Int → List (S39) → List Int → Option (Bool)
  | 0, _, _, _, _, _, _ => none
  | k + 1, x1, x5, x6, x688000, x688001, x688002 => if x6 < (x688001.length : Int) then (if x5.length < 17592186044416 then (ductuslaw27_SwapSome.l0 k x1 (x5 ++ [x6]) (wrap64 (x6 + 1)) x688000 x688001 x688002) else (none)) else ((swap_All.f k x688000 x688001 x688002).bind fun bt693 => ((swap_Some.f k x688000 x688001 x5 x688002).bind fun bt697 => (if bt693.2 = bt697.2 then ((ductusref01_Ints.f k bt693.1 bt697.1).bind fun t701 => (ductuslaw27_SwapSome.j1 k x1 bt693.2 (!t701) x688000 x688001 x688002)) else (none))))
def ductuslaw27_SwapSome.j1 : Nat → Int → Int → Bool → List Int → List (S39) → List Int → Option (Bool)
  | 0, _, _, _, _, _, _ => none
  | k + 1, x1, x8, x59, x688000, x688001, x688002 => if x59 = true then (none) else (if x8 = 1 then (ductuslaw27_SwapSome.j2 k x1 true x688000 x688001 x688002) else (ductuslaw27_SwapSome.j2 k x1 ((x688001.length : Int) == 0) x688000 x688001 x688002))
def ductuslaw27_SwapSome.j2 : Nat → Int → Bool → List Int → List (S39) → List Int → Option (Bool)
  | 0, _, _, _, _, _ => none
  | k + 1, x1, x67, x688000, x688001, x688002 => if x67 = true then (some true) else (if (x688001.length : Int) = 0 then (none) else (if 0 ≤ (Int.tmod (wrap64 (x1)) (x688001.length : Int)) then (if (Int.tmod (wrap64 (x1)) (x688001.length : Int)) < (x688001.length : Int) then ((ductusref27_Plain.f k x688000).bind fun t704 => (if 0 ≤ ((rd_T39 x688001 (Int.tmod (wrap64 (x1)) (x688001.length : Int))).f0) then (if ((rd_T39 x688001 (Int.tmod (wrap64 (x1)) (x688001.length : Int))).f0) ≤ ((rd_T39 x688001 (Int.tmod (wrap64 (x1)) (x688001.length : Int))).f1) then (if ((rd_T39 x688001 (Int.tmod (wrap64 (x1)) (x688001.length : Int))).f1) ≤ (t704.length : Int) then ((swap_All.f k x688000 (([(⟨(rd_T39 x688001 (Int.tmod (wrap64 (x1)) (x688001.length : Int))).f0, (rd_T39 x688001 (Int.tmod (wrap64 (x1)) (x688001.length : Int))).f1⟩ : S39)] : List (S39))) ((t704.take (((rd_T39 x688001 (Int.tmod (wrap64 (x1)) (x688001.length : Int))).f1) : Int).toNat).drop (((rd_T39 x688001 (Int.tmod (wrap64 (x1)) (x688001.length : Int))).f0) : Int).toNat)).bind fun bt714 => (if bt714.2 = 0 then ((ductusref27_Plain.f k bt714.1).bind fun t718 => ((ductusref01_Ints.f k t718 t704).bind fun t721 => (some t721))) else (none))) else (none)) else (none)) else (none))) else (none)) else (none)))
end
def ductuslaw27_SwapSome.f (k : Nat) (l0_0 : List Int) (l0_1 : List (S39)) (l0_2 : List Int) (a1 : Int) : Option (Bool) := (ductuslaw27_alive.f k).bind fun t688 => (if t688 = true then ((ductuslaw27_great.f l0_0 l0_1 l0_2).bind fun t689 => (if t689 = true then (some true) else (ductuslaw27_SwapSome.l0 k a1 ([] : List Int) 0 l0_0 l0_1 l0_2))) else (none))
def ductuslaw27_SwapSome.T16 : Bool × List (List Nat × List Nat) := (true, [([], []), ([0], [0]), ([], []), ([2], [2]), ([], []), ([4], [4]), ([5], [5]), ([3, 6], [3, 6]), ([1, 7], [1, 7]), ([8], [8]), ([], []), ([10, 9, 0, 1, 2, 3, 4, 5, 6, 7, 8, 9, 10], [9, 10])])
def ductuslaw27_SwapSome.B16 : List Nat := [0, 1, 0, 4, 0, 16, 48, 124, 255, 511, 0, 2047]
theorem ductuslaw27_SwapSome.tab16 : rtab .any (opsOf Try.f7 16) = ductuslaw27_SwapSome.T16 := by kernel_rfl
theorem ductuslaw27_SwapSome.bits16 : waitsOk ductuslaw27_SwapSome.T16.2 ductuslaw27_SwapSome.B16 = true := by kernel_rfl
def ductuslaw27_SwapSome.T18 : Bool × List (List Nat × List Nat) := (true, [([], []), ([0], [0]), ([], []), ([2], [2]), ([], []), ([], []), ([5], [5]), ([], []), ([7], [7]), ([4, 6, 8], [4, 6, 8]), ([1, 3, 9], [1, 3, 9]), ([10], [10]), ([11], [11]), ([11], [11]), ([12, 10, 0, 1, 2, 3, 4, 5, 6, 7, 8, 9, 10, 11, 12], [12]), ([13, 14, 0, 1, 2, 3, 4, 5, 6, 7, 8, 9, 10, 11, 12, 13, 14], [13])])
def ductuslaw27_SwapSome.B18 : List Nat := [0, 1, 0, 4, 0, 0, 32, 0, 128, 496, 1023, 2047, 4095, 4095, 8191, 32767]
theorem ductuslaw27_SwapSome.tab18 : rtab .any (opsOf Try.f7 18) = ductuslaw27_SwapSome.T18 := by kernel_rfl
theorem ductuslaw27_SwapSome.bits18 : waitsOk ductuslaw27_SwapSome.T18.2 ductuslaw27_SwapSome.B18 = true := by kernel_rfl
set_option maxHeartbeats 8000000 in
set_option maxRecDepth 100000 in
theorem ductuslaw27_SwapSome.calls (k : Nat) (A0_0 : Option Addr) (c0_0 : Nat) (l0_0 : List Int) (A0_1 : Option Addr) (c0_1 : Nat) (l0_1 : List (S39)) (A0_2 : Option Addr) (c0_2 : Nat) (l0_2 : List Int) (a1 : Int) (r : Bool) (w : World) (hr0_0 : Kd.C (Kd.int .i64) w A0_0 l0_0.length l0_0) (hc0_0 : l0_0.length ≤ c0_0) (hr0_1 : Kd.C k39 w A0_1 l0_1.length l0_1) (hc0_1 : l0_1.length ≤ c0_1) (hr0_2 : Kd.C (Kd.int .i64) w A0_2 l0_2.length l0_2) (hc0_2 : l0_2.length ≤ c0_2) (h : ductuslaw27_SwapSome.f k l0_0 l0_1 l0_2 a1 = some r) :
    Calls Try.prog 7 #[.agg #[.slice A0_0 l0_0.length c0_0, .slice A0_1 l0_1.length c0_1, .slice A0_2 l0_2.length c0_2], .int .u8 a1] w fun e w' => e = .returned (.bool r) ∧ Below w.heap.size w w' := by
  have hu25 := Try.underlying25
  have hu39 := Try.underlying39
  have HR0_0 := Aside0.mk hr0_0
  have HC0_0 := Aside0.mk hc0_0
  clear hr0_0 hc0_0
  have HR0_1 := Aside0.mk hr0_1
  have HC0_1 := Aside0.mk hc0_1
  clear hr0_1 hc0_1
  have HR0_2 := Aside0.mk hr0_2
  have HC0_2 := Aside0.mk hc0_2
  clear hr0_2 hc0_2
  have HB := Aside0.mk (Below.refl w.heap.size w)
  have H : ((ductuslaw27_alive.f k).bind fun t688 => (if t688 = true then ((ductuslaw27_great.f l0_0 l0_1 l0_2).bind fun t689 => (if t689 = true then (some true) else (ductuslaw27_SwapSome.l0 k a1 ([] : List Int) 0 l0_0 l0_1 l0_2))) else (none))) = some r := h
  clear h
  replace H := Option.bind_eq_some_iff.mp H
  obtain ⟨t688, A30, H⟩ := H
  replace H : (if t688 = true then ((ductuslaw27_great.f l0_0 l0_1 l0_2).bind fun t689 => (if t689 = true then (some true) else (ductuslaw27_SwapSome.l0 k a1 ([] : List Int) 0 l0_0 l0_1 l0_2))) else (none)) = some r := H
  have A3 := Aside0.mk A30
  clear A30
  by_cases c4 : t688 = true
  rotate_left
  · replace c4 := Bool.eq_false_iff.mpr c4
    subst c4
    have H1 : (none) = some r := by rw [if_neg (show ¬ (false = true) by decide)] at H; exact H
    clear H
    have H := H1
    clear H1
    exact absurd H (by simp)
  subst c4
  have H1 : ((ductuslaw27_great.f l0_0 l0_1 l0_2).bind fun t689 => (if t689 = true then (some true) else (ductuslaw27_SwapSome.l0 k a1 ([] : List Int) 0 l0_0 l0_1 l0_2))) = some r := by rw [if_pos rfl] at H; exact H
  clear H
  have H := H1
  clear H1
  replace H := Option.bind_eq_some_iff.mp H
  obtain ⟨t689, A50, H⟩ := H
  replace H : (if t689 = true then (some true) else (ductuslaw27_SwapSome.l0 k a1 ([] : List Int) 0 l0_0 l0_1 l0_2)) = some r := H
  have A5 := Aside0.mk A50
  clear A50
  by_cases c6 : t689 = true
  · subst c6
    have H1 : (some true) = some r := by rw [if_pos rfl] at H; exact H
    clear H
    have H := H1
    clear H1
    obtain rfl := Option.some.inj H
    go_enter Try.func7, Try.ntmps7
    go_wp2_with (first | ((with_reducible refine gate_dst (N := 2) rfl ?_); (try (refine gate_guard (by rfl) ?_; dsimp only)); refine box_event ?hg (N := 2) ?hd (cs := #[.slice A0_0 l0_0.length c0_0, .slice A0_1 l0_1.length c0_1, .slice A0_2 l0_2.length c0_2]) (t := 25) ?hr ?_; (case hd => rfl); (case hg => rfl); (case hr => first | (go_simp; done) | (go_simp; rfl)); intro gb687 hg w7 hbox hb; have n0_ := Aside0.mk (below_step (by repeat (first | (with_reducible first | exact HB.out | apply below_alloc | apply pw_below_drewN | apply below_drew1) | exact HB.out)) hb); have n1_ := Aside0.mk (hbox); have n2_ := Aside0.mk ((by rw [hg]; exact (below_size (by repeat (first | (with_reducible first | exact HB.out | apply below_alloc | apply pw_below_drewN | apply below_drew1) | exact HB.out))) : w.heap.size ≤ gb687)); have n3_ := Aside0.mk ((by rw [hg]; exact (below_size (by repeat (first | (with_reducible first | exact HB.out | apply below_alloc | apply pw_below_drewN | apply below_drew1) | exact HB.out))) : w.heap.size ≤ gb687)); clear HB; have HB := n0_; have BK687 := n1_; have GW687 := n2_; have GE687 := n3_; clear n0_ n1_ n2_ n3_; clear hb hbox hg) | ((with_reducible refine gate_callee (f := 8) rfl ?_); refine goesL_ (some 15) rfl rfl Try.func8 (by kernel_rfl) rfl #[] rfl (by (try simp only [List.map_toArray, List.map_cons, List.map_nil]); first | done | rfl | (simp only [List.length_drop, List.length_take]; rfl)) ?_; (with_reducible refine (ductuslaw27_alive.calls k  true _ A3.out).mono ?_); rintro e w8 ⟨rfl, hb⟩; refine ⟨_, rfl, ?_⟩; have n0_ := Aside0.mk (blk_below (g := gb687) (o := .cells #[.slice A0_0 l0_0.length c0_0, .slice A0_1 l0_1.length c0_1, .slice A0_2 l0_2.length c0_2] 25 (0, 0)) (by (with_reducible repeat (first | refine blk_drewN ?_ _ | refine blk_drew ?_ | refine blk_alloc ?_ _)); exact BK687.out) hb); have n1_ := Aside0.mk (below_step (by repeat (first | (with_reducible first | exact HB.out | apply below_alloc | apply pw_below_drewN | apply below_drew1 | refine below_set ?_ GE687.out) | exact HB.out)) hb); clear BK687; clear HB; have BK687 := n0_; have HB := n1_; clear n0_ n1_; (try clear hb); (try clear hb2); (try clear hk); (try clear hi); have hcz9_0 : w8.cell? ⟨gb687, 0, none⟩ = some (.slice A0_0 l0_0.length c0_0) := (blk_cell BK687.out 0).trans rfl; have hcz9_1 : w8.cell? ⟨gb687, 1, none⟩ = some (.slice A0_1 l0_1.length c0_1) := (blk_cell BK687.out 1).trans rfl; have hcz9_2 : w8.cell? ⟨gb687, 2, none⟩ = some (.slice A0_2 l0_2.length c0_2) := (blk_cell BK687.out 2).trans rfl; have hfz9_0 := blk_frozen BK687.out 0; have hfz9_1 := blk_frozen BK687.out 1; have hfz9_2 := blk_frozen BK687.out 2) | ((with_reducible refine gate_callee (f := 9) rfl ?_); refine goesL_ (some 18) rfl rfl Try.func9 (by kernel_rfl) rfl #[.agg #[.slice A0_0 l0_0.length c0_0, .slice A0_1 l0_1.length c0_1, .slice A0_2 l0_2.length c0_2]] rfl (by (try simp only [List.map_toArray, List.map_cons, List.map_nil]); first | done | rfl | (simp only [List.length_drop, List.length_take]; rfl)) ?_; (with_reducible refine (ductuslaw27_great.calls _ _ l0_0 _ _ l0_1 _ _ l0_2 true _ ?side1 ?side2 ?side3 ?side4 ?side5 ?side6 A5.out).mono ?_); (case side1 => repeat (first | exact (Kd.C_below HR0_0.out HB.out) | (with_reducible refine Kd.C_alloc ?_ _) | (with_reducible refine Kd.C_drewN ?_ _) | (with_reducible refine Kd.C_drew ?_))); (case side2 => exact HC0_0.out); (case side3 => repeat (first | exact (Kd.C_below HR0_1.out HB.out) | (with_reducible refine Kd.C_alloc ?_ _) | (with_reducible refine Kd.C_drewN ?_ _) | (with_reducible refine Kd.C_drew ?_))); (case side4 => exact HC0_1.out); (case side5 => repeat (first | exact (Kd.C_below HR0_2.out HB.out) | (with_reducible refine Kd.C_alloc ?_ _) | (with_reducible refine Kd.C_drewN ?_ _) | (with_reducible refine Kd.C_drew ?_))); (case side6 => exact HC0_2.out); rintro e w10 ⟨rfl, hb⟩; refine ⟨_, rfl, ?_⟩; have n0_ := Aside0.mk (blk_below (g := gb687) (o := .cells #[.slice A0_0 l0_0.length c0_0, .slice A0_1 l0_1.length c0_1, .slice A0_2 l0_2.length c0_2] 25 (0, 0)) (by (with_reducible repeat (first | refine blk_drewN ?_ _ | refine blk_drew ?_ | refine blk_alloc ?_ _)); exact BK687.out) hb); have n1_ := Aside0.mk (below_step (by repeat (first | (with_reducible first | exact HB.out | apply below_alloc | apply pw_below_drewN | apply below_drew1 | refine below_set ?_ GE687.out) | exact HB.out)) hb); clear BK687; clear HB; have BK687 := n0_; have HB := n1_; clear n0_ n1_; (try clear hb); (try clear hb2); (try clear hk); (try clear hi)))
    go_ret
    exact ⟨by first | rfl | (simp [errW_none, errW_some] <;> rfl) | (simp [*, errW_none, errW_some] <;> rfl), by repeat (first | (with_reducible first | exact HB.out | apply below_alloc | apply pw_below_drewN | apply below_drew1 | refine below_set ?_ GE687.out) | exact HB.out)⟩
  replace c6 := Bool.eq_false_iff.mpr c6
  subst c6
  have H1 : (ductuslaw27_SwapSome.l0 k a1 ([] : List Int) 0 l0_0 l0_1 l0_2) = some r := by rw [if_neg (show ¬ (false = true) by decide)] at H; exact H
  clear H
  have H := H1
  clear H1
  have H' := Aside0.mk H
  clear H
  go_enter Try.func7, Try.ntmps7
  go_wp2_with (first | ((with_reducible refine gate_dst (N := 2) rfl ?_); (try (refine gate_guard (by rfl) ?_; dsimp only)); refine box_event ?hg (N := 2) ?hd (cs := #[.slice A0_0 l0_0.length c0_0, .slice A0_1 l0_1.length c0_1, .slice A0_2 l0_2.length c0_2]) (t := 25) ?hr ?_; (case hd => rfl); (case hg => rfl); (case hr => first | (go_simp; done) | (go_simp; rfl)); intro gb687 hg w11 hbox hb; have n0_ := Aside0.mk (below_step (by repeat (first | (with_reducible first | exact HB.out | apply below_alloc | apply pw_below_drewN | apply below_drew1) | exact HB.out)) hb); have n1_ := Aside0.mk (hbox); have n2_ := Aside0.mk ((by rw [hg]; exact (below_size (by repeat (first | (with_reducible first | exact HB.out | apply below_alloc | apply pw_below_drewN | apply below_drew1) | exact HB.out))) : w.heap.size ≤ gb687)); have n3_ := Aside0.mk ((by rw [hg]; exact (below_size (by repeat (first | (with_reducible first | exact HB.out | apply below_alloc | apply pw_below_drewN | apply below_drew1) | exact HB.out))) : w.heap.size ≤ gb687)); clear HB; have HB := n0_; have BK687 := n1_; have GW687 := n2_; have GE687 := n3_; clear n0_ n1_ n2_ n3_; clear hb hbox hg) | ((with_reducible refine gate_callee (f := 8) rfl ?_); refine goesL_ (some 15) rfl rfl Try.func8 (by kernel_rfl) rfl #[] rfl (by (try simp only [List.map_toArray, List.map_cons, List.map_nil]); first | done | rfl | (simp only [List.length_drop, List.length_take]; rfl)) ?_; (with_reducible refine (ductuslaw27_alive.calls k  true _ A3.out).mono ?_); rintro e w12 ⟨rfl, hb⟩; refine ⟨_, rfl, ?_⟩; have n0_ := Aside0.mk (blk_below (g := gb687) (o := .cells #[.slice A0_0 l0_0.length c0_0, .slice A0_1 l0_1.length c0_1, .slice A0_2 l0_2.length c0_2] 25 (0, 0)) (by (with_reducible repeat (first | refine blk_drewN ?_ _ | refine blk_drew ?_ | refine blk_alloc ?_ _)); exact BK687.out) hb); have n1_ := Aside0.mk (below_step (by repeat (first | (with_reducible first | exact HB.out | apply below_alloc | apply pw_below_drewN | apply below_drew1 | refine below_set ?_ GE687.out) | exact HB.out)) hb); clear BK687; clear HB; have BK687 := n0_; have HB := n1_; clear n0_ n1_; (try clear hb); (try clear hb2); (try clear hk); (try clear hi); have hcz13_0 : w12.cell? ⟨gb687, 0, none⟩ = some (.slice A0_0 l0_0.length c0_0) := (blk_cell BK687.out 0).trans rfl; have hcz13_1 : w12.cell? ⟨gb687, 1, none⟩ = some (.slice A0_1 l0_1.length c0_1) := (blk_cell BK687.out 1).trans rfl; have hcz13_2 : w12.cell? ⟨gb687, 2, none⟩ = some (.slice A0_2 l0_2.length c0_2) := (blk_cell BK687.out 2).trans rfl; have hfz13_0 := blk_frozen BK687.out 0; have hfz13_1 := blk_frozen BK687.out 1; have hfz13_2 := blk_frozen BK687.out 2) | ((with_reducible refine gate_callee (f := 9) rfl ?_); refine goesL_ (some 18) rfl rfl Try.func9 (by kernel_rfl) rfl #[.agg #[.slice A0_0 l0_0.length c0_0, .slice A0_1 l0_1.length c0_1, .slice A0_2 l0_2.length c0_2]] rfl (by (try simp only [List.map_toArray, List.map_cons, List.map_nil]); first | done | rfl | (simp only [List.length_drop, List.length_take]; rfl)) ?_; (with_reducible refine (ductuslaw27_great.calls _ _ l0_0 _ _ l0_1 _ _ l0_2 false _ ?side1 ?side2 ?side3 ?side4 ?side5 ?side6 A5.out).mono ?_); (case side1 => repeat (first | exact (Kd.C_below HR0_0.out HB.out) | (with_reducible refine Kd.C_alloc ?_ _) | (with_reducible refine Kd.C_drewN ?_ _) | (with_reducible refine Kd.C_drew ?_))); (case side2 => exact HC0_0.out); (case side3 => repeat (first | exact (Kd.C_below HR0_1.out HB.out) | (with_reducible refine Kd.C_alloc ?_ _) | (with_reducible refine Kd.C_drewN ?_ _) | (with_reducible refine Kd.C_drew ?_))); (case side4 => exact HC0_1.out); (case side5 => repeat (first | exact (Kd.C_below HR0_2.out HB.out) | (with_reducible refine Kd.C_alloc ?_ _) | (with_reducible refine Kd.C_drewN ?_ _) | (with_reducible refine Kd.C_drew ?_))); (case side6 => exact HC0_2.out); rintro e w14 ⟨rfl, hb⟩; refine ⟨_, rfl, ?_⟩; have n0_ := Aside0.mk (blk_below (g := gb687) (o := .cells #[.slice A0_0 l0_0.length c0_0, .slice A0_1 l0_1.length c0_1, .slice A0_2 l0_2.length c0_2] 25 (0, 0)) (by (with_reducible repeat (first | refine blk_drewN ?_ _ | refine blk_drew ?_ | refine blk_alloc ?_ _)); exact BK687.out) hb); have n1_ := Aside0.mk (below_step (by repeat (first | (with_reducible first | exact HB.out | apply below_alloc | apply pw_below_drewN | apply below_drew1 | refine below_set ?_ GE687.out) | exact HB.out)) hb); clear BK687; clear HB; have BK687 := n0_; have HB := n1_; clear n0_ n1_; (try clear hb); (try clear hb2); (try clear hk); (try clear hi)))
  go_loopg [5, 6] k (fun kq v5 v6 w' => ∃ (x5_1 : List Int) (x6_1 : Int), v6 = .int .i64 x6_1 ∧ Aside0 (ductuslaw27_SwapSome.l0 kq a1 x5_1 x6_1 l0_0 l0_1 l0_2 = some r) ∧ Aside0 (kq ≤ k) ∧ Aside0 (Kd.R (Kd.int .i64) 3 w' w.heap.size (fun _ => True) v5 x5_1) ∧ Aside0 (w'.heap[gb687]? = some (.cells #[(.slice A0_0 l0_0.length c0_0), (.slice A0_1 l0_1.length c0_1), (.slice A0_2 l0_2.length c0_2)] 25 (0, 0))) ∧ Aside0 (Below w.heap.size w w'))
  case atStart => exact ⟨(([] : List Int)), (0), (by first | rfl | (simp; done) | (simp [*]; done)), H', ⟨Nat.le_refl _⟩, ⟨by first | exact Kd.R_nil _ _ _ _ _ | exact Kd.N_nil _ _ _ _ _ | exact Kd.V_nil _ _ _ _ _ | exact Kd.Q_nil _ _ _ _ _ | exact Kd.S_nil _ _ _ _ _⟩, ⟨by (with_reducible repeat (first | refine blk_drewN ?_ _ | refine blk_drew ?_ | refine blk_alloc ?_ _)); exact BK687.out⟩, ⟨by repeat (first | (with_reducible first | exact HB.out | apply below_alloc | apply pw_below_drewN | apply below_drew1 | refine below_set ?_ GE687.out) | exact HB.out)⟩⟩
  case round =>
    clear H'
    try clear p2
    try clear c4
    try clear c6
    try clear c7
    try clear c8
    try clear c9
    try clear hcz13_0
    try clear hcz13_1
    try clear hcz13_2
    try clear hcz9_0
    try clear hcz9_1
    try clear hcz9_2
    try clear hfz13_0
    try clear hfz13_1
    try clear hfz13_2
    try clear hfz9_0
    try clear hfz9_1
    try clear hfz9_2
    obtain ⟨x5_1, x6_1, rfl, HA, HK1, HO_5, BK687, HB⟩ := hrel
    cases gk with
    | zero => exact absurd HA.out (by simp [ductuslaw27_SwapSome.l0])
    | succ k1 =>
      have H := HA.out
      clear HA
      simp only [ductuslaw27_SwapSome.l0] at H
      by_cases c15 : x6_1 < (l0_1.length : Int)
      · rw [if_pos c15] at H
        have c15b0 : decide (x6_1 < (l0_1.length : Int)) = true := decide_eq_true c15
        clear c15
        by_cases c16 : x5_1.length < 17592186044416
        rotate_left
        · rw [if_neg c16] at H
          exact absurd H (by simp)
        rw [if_pos c16] at H
        have LMc16 := Aside0.mk c16
        clear c16
        obtain ⟨y690, hy690⟩ : ∃ y_ : List Int, y_ = (x5_1 ++ [x6_1]) := ⟨_, rfl⟩
        replace H : (ductuslaw27_SwapSome.l0 k1 a1 y690 (wrap64 (x6_1 + 1)) l0_0 l0_1 l0_2) = some r := by first | (rw [hy690]; with_reducible exact H) | (have H2_ := (Option.bind_some _ _).symm.trans H; rw [hy690]; with_reducible exact H2_) | (have H2_ := (Option.bind_some _ _).symm.trans H; with_reducible exact H2_) | with_reducible exact H | (rw [hy690]; exact H) | exact H
        have Ny690 := Aside0.mk hy690
        clear hy690
        have H' := Aside0.mk H
        clear H
        have hcz17_0 : wr.cell? ⟨gb687, 0, none⟩ = some (.slice A0_0 l0_0.length c0_0) := (blk_cell BK687.out 0).trans rfl
        have hcz17_1 : wr.cell? ⟨gb687, 1, none⟩ = some (.slice A0_1 l0_1.length c0_1) := (blk_cell BK687.out 1).trans rfl
        have hcz17_2 : wr.cell? ⟨gb687, 2, none⟩ = some (.slice A0_2 l0_2.length c0_2) := (blk_cell BK687.out 2).trans rfl
        have hfz17_0 := blk_frozen BK687.out 0
        have hfz17_1 := blk_frozen BK687.out 1
        have hfz17_2 := blk_frozen BK687.out 2
        go_wp2_with (first | ((with_reducible refine gate_builtin (b := .append) (xs := #[.tmp 26, .tmp 28]) rfl ?_); (try (refine gate_guard (by rfl) ?_; dsimp only)); at_builtin; refine Kd.R_append (Kd.int .i64) (w0 := w) w.heap.size rfl (.tmp 26) (.tmp 28) 22 3 (.int .i64 0) 8 rfl Try.underlying22 info3 rfl (by decide) (by omega) u5 x5_1 x6_1 [.int .i64 x6_1] (fun _ => True) (fun _ => False) rfl rfl ?aP (fun _ hk => hk.elim) ?aF ?aO ?aB ?aS ?aL ?_; (case aP => exact rfl); (case aB => exact (by repeat (first | (with_reducible first | exact HB.out | apply below_alloc | apply pw_below_drewN | apply below_drew1 | refine below_set ?_ GE687.out) | exact HB.out))); (case aF => exact (fun _ _ => trivial)); (case aO => exact (by (with_reducible repeat (first | apply Kd.R_alloc | apply Kd.R_drewN | apply Kd.R_drew)); exact HO_5.out)); (case aS => exact (below_size (by repeat (first | (with_reducible first | exact HB.out | apply below_alloc | apply pw_below_drewN | apply below_drew1 | refine below_set ?_ GE687.out) | exact HB.out)))); (case aL => have := LMc16.out; omega); intro v691 w18 ho hb hg hat; rw [← Ny690.out] at ho; have n0_ := Aside0.mk (blk_grown (g := gb687) (o := .cells #[.slice A0_0 l0_0.length c0_0, .slice A0_1 l0_1.length c0_1, .slice A0_2 l0_2.length c0_2] 25 (0, 0)) (by (with_reducible repeat (first | refine blk_drewN ?_ _ | refine blk_drew ?_ | refine blk_alloc ?_ _)); exact BK687.out) hg (Kd.R_ne HO_5.out BK687.out (by decide))); have n1_ := Aside0.mk (hb); have n2_ := Aside0.mk (ho); clear BK687; clear HB; clear HO_5; have BK687 := n0_; have HB := n1_; have HO692 := n2_; clear n0_ n1_ n2_; clear ho hb hg hat))
        go_roundg k1
        case measure => have := HK1.out; omega
        case rel => exact ⟨(y690), (wrap64 (x6_1 + 1)), (by first | rfl | (simp; done) | (simp [*]; done)), H', ⟨by have := HK1.out; omega⟩, ⟨by (with_reducible repeat (first | apply Kd.R_alloc | apply Kd.R_drewN | apply Kd.R_drew)); exact HO692.out⟩, ⟨by (with_reducible repeat (first | refine blk_drewN ?_ _ | refine blk_drew ?_ | refine blk_alloc ?_ _)); exact BK687.out⟩, ⟨by repeat (first | (with_reducible first | exact HB.out | apply below_alloc | apply pw_below_drewN | apply below_drew1 | refine below_set ?_ GE687.out) | exact HB.out)⟩⟩
      rw [if_neg c15] at H
      have c15b0 : decide (x6_1 < (l0_1.length : Int)) = false := decide_eq_false c15
      clear c15
      replace H := Option.bind_eq_some_iff.mp H
      obtain ⟨⟨t693, t694⟩, A190, H⟩ := H
      replace H : ((swap_Some.f k1 l0_0 l0_1 x5_1 l0_2).bind fun bt697 => (if t694 = bt697.2 then ((ductusref01_Ints.f k1 t693 bt697.1).bind fun t701 => (ductuslaw27_SwapSome.j1 k1 a1 t694 (!t701) l0_0 l0_1 l0_2)) else (none))) = some r := H
      have A19 := Aside0.mk A190
      clear A190
      replace H := Option.bind_eq_some_iff.mp H
      obtain ⟨⟨t697, t698⟩, A200, H⟩ := H
      replace H : (if t694 = t698 then ((ductusref01_Ints.f k1 t693 t697).bind fun t701 => (ductuslaw27_SwapSome.j1 k1 a1 t694 (!t701) l0_0 l0_1 l0_2)) else (none)) = some r := H
      have A20 := Aside0.mk A200
      clear A200
      have HC21 := Aside0.mk H
      clear H
      have hcz22_0 : wr.cell? ⟨gb687, 0, none⟩ = some (.slice A0_0 l0_0.length c0_0) := (blk_cell BK687.out 0).trans rfl
      have hcz22_1 : wr.cell? ⟨gb687, 1, none⟩ = some (.slice A0_1 l0_1.length c0_1) := (blk_cell BK687.out 1).trans rfl
      have hcz22_2 : wr.cell? ⟨gb687, 2, none⟩ = some (.slice A0_2 l0_2.length c0_2) := (blk_cell BK687.out 2).trans rfl
      have hfz22_0 := blk_frozen BK687.out 0
      have hfz22_1 := blk_frozen BK687.out 1
      have hfz22_2 := blk_frozen BK687.out 2
      go_upto_region 12 with (first | ((with_reducible refine gate_callee (f := 10) rfl ?_); refine goesL_ (some 37) rfl rfl Try.func10 (by kernel_rfl) rfl #[.slice A0_0 l0_0.length c0_0, .slice A0_1 l0_1.length c0_1, .slice A0_2 l0_2.length c0_2] rfl (by (try simp only [List.map_toArray, List.map_cons, List.map_nil]); first | done | rfl | (simp only [List.length_drop, List.length_take]; rfl)) ?_; (with_reducible refine (swap_All.calls k1 _ _ l0_0 _ _ l0_1 _ _ l0_2 t693 t694 _ ?side1 ?side2 ?side3 ?side4 ?side5 ?side6 A19.out).mono ?_); (case side1 => repeat (first | exact (Kd.C_below HR0_0.out HB.out) | (with_reducible refine Kd.C_alloc ?_ _) | (with_reducible refine Kd.C_drewN ?_ _) | (with_reducible refine Kd.C_drew ?_))); (case side2 => exact HC0_0.out); (case side3 => repeat (first | exact (Kd.C_below HR0_1.out HB.out) | (with_reducible refine Kd.C_alloc ?_ _) | (with_reducible refine Kd.C_drewN ?_ _) | (with_reducible refine Kd.C_drew ?_))); (case side4 => exact HC0_1.out); (case side5 => repeat (first | exact (Kd.C_below HR0_2.out HB.out) | (with_reducible refine Kd.C_alloc ?_ _) | (with_reducible refine Kd.C_drewN ?_ _) | (with_reducible refine Kd.C_drew ?_))); (case side6 => exact HC0_2.out); rintro e w23 ⟨v695, rfl, ho0, hb⟩; refine ⟨_, rfl, ?_⟩; have n0_ := Aside0.mk (Kd.R_elder' (by (with_reducible repeat (first | apply Kd.R_alloc | apply Kd.R_drewN | apply Kd.R_drew)); exact HO_5.out) (Kd.R_base ho0) hb); have n1_ := Aside0.mk (Kd.R_lower (Kd.R_new' ho0 (Kd.R_lt (by (with_reducible repeat (first | apply Kd.R_alloc | apply Kd.R_drewN | apply Kd.R_drew)); exact HO_5.out))) (below_size (by repeat (first | (with_reducible first | exact HB.out | apply below_alloc | apply pw_below_drewN | apply below_drew1 | refine below_set ?_ GE687.out) | exact HB.out)))); have n2_ := Aside0.mk (blk_below (g := gb687) (o := .cells #[.slice A0_0 l0_0.length c0_0, .slice A0_1 l0_1.length c0_1, .slice A0_2 l0_2.length c0_2] 25 (0, 0)) (by (with_reducible repeat (first | refine blk_drewN ?_ _ | refine blk_drew ?_ | refine blk_alloc ?_ _)); exact BK687.out) hb); have n3_ := Aside0.mk (below_step (by repeat (first | (with_reducible first | exact HB.out | apply below_alloc | apply pw_below_drewN | apply below_drew1 | refine below_set ?_ GE687.out) | exact HB.out)) hb); clear HO_5; clear BK687; clear HB; have HO_5 := n0_; have HO696 := n1_; have BK687 := n2_; have HB := n3_; clear n0_ n1_ n2_ n3_; (try clear hb); (try clear hb2); (try clear hk); (try clear hi); (try clear ho0); have hcz24_0 : w23.cell? ⟨gb687, 0, none⟩ = some (.slice A0_0 l0_0.length c0_0) := (blk_cell BK687.out 0).trans rfl; have hcz24_1 : w23.cell? ⟨gb687, 1, none⟩ = some (.slice A0_1 l0_1.length c0_1) := (blk_cell BK687.out 1).trans rfl; have hcz24_2 : w23.cell? ⟨gb687, 2, none⟩ = some (.slice A0_2 l0_2.length c0_2) := (blk_cell BK687.out 2).trans rfl; have hfz24_0 := blk_frozen BK687.out 0; have hfz24_1 := blk_frozen BK687.out 1; have hfz24_2 := blk_frozen BK687.out 2; obtain ⟨Ao25, co25, eo25⟩ := Kd.R_slice HO_5.out; subst eo25) | ((with_reducible refine gate_callee (f := 12) rfl ?_); refine goesL_ (some 48) rfl rfl Try.func12 (by kernel_rfl) rfl #[.slice A0_0 l0_0.length c0_0, .slice A0_1 l0_1.length c0_1, .slice Ao25 x5_1.length co25, .slice A0_2 l0_2.length c0_2] rfl (by (try simp only [List.map_toArray, List.map_cons, List.map_nil]); first | done | rfl | (simp only [List.length_drop, List.length_take]; rfl)) ?_; (with_reducible refine (swap_Some.calls k1 _ _ l0_0 _ _ l0_1 _ _ x5_1 _ _ l0_2 t697 t698 _ ?side1 ?side2 ?side3 ?side4 ?side5 ?side6 ?side7 ?side8 A20.out).mono ?_); (case side1 => repeat (first | exact (Kd.C_below HR0_0.out HB.out) | (with_reducible refine Kd.C_alloc ?_ _) | (with_reducible refine Kd.C_drewN ?_ _) | (with_reducible refine Kd.C_drew ?_))); (case side2 => exact HC0_0.out); (case side3 => repeat (first | exact (Kd.C_below HR0_1.out HB.out) | (with_reducible refine Kd.C_alloc ?_ _) | (with_reducible refine Kd.C_drewN ?_ _) | (with_reducible refine Kd.C_drew ?_))); (case side4 => exact HC0_1.out); (case side5 => repeat (first | exact (Kd.R_reads' HO_5.out).2.2 | (with_reducible refine Kd.C_alloc ?_ _) | (with_reducible refine Kd.C_drewN ?_ _) | (with_reducible refine Kd.C_drew ?_))); (case side6 => exact (Kd.R_reads' HO_5.out).2.1); (case side7 => repeat (first | exact (Kd.C_below HR0_2.out HB.out) | (with_reducible refine Kd.C_alloc ?_ _) | (with_reducible refine Kd.C_drewN ?_ _) | (with_reducible refine Kd.C_drew ?_))); (case side8 => exact HC0_2.out); rintro e w26 ⟨v699, rfl, ho0, hb⟩; refine ⟨_, rfl, ?_⟩; have n0_ := Aside0.mk (Kd.R_elder' (by (with_reducible repeat (first | apply Kd.R_alloc | apply Kd.R_drewN | apply Kd.R_drew)); exact HO_5.out) (Kd.R_base ho0) hb); have n1_ := Aside0.mk (Kd.R_elder' (by (with_reducible repeat (first | apply Kd.R_alloc | apply Kd.R_drewN | apply Kd.R_drew)); exact HO696.out) (Kd.R_base ho0) hb); have n2_ := Aside0.mk (Kd.R_lower (Kd.R_new' (Kd.R_new' ho0 (Kd.R_lt (by (with_reducible repeat (first | apply Kd.R_alloc | apply Kd.R_drewN | apply Kd.R_drew)); exact HO_5.out))) (Kd.R_lt (by (with_reducible repeat (first | apply Kd.R_alloc | apply Kd.R_drewN | apply Kd.R_drew)); exact HO696.out))) (below_size (by repeat (first | (with_reducible first | exact HB.out | apply below_alloc | apply pw_below_drewN | apply below_drew1 | refine below_set ?_ GE687.out) | exact HB.out)))); have n3_ := Aside0.mk (blk_below (g := gb687) (o := .cells #[.slice A0_0 l0_0.length c0_0, .slice A0_1 l0_1.length c0_1, .slice A0_2 l0_2.length c0_2] 25 (0, 0)) (by (with_reducible repeat (first | refine blk_drewN ?_ _ | refine blk_drew ?_ | refine blk_alloc ?_ _)); exact BK687.out) hb); have n4_ := Aside0.mk (below_step (by repeat (first | (with_reducible first | exact HB.out | apply below_alloc | apply pw_below_drewN | apply below_drew1 | refine below_set ?_ GE687.out) | exact HB.out)) hb); clear HO_5; clear HO696; clear BK687; clear HB; have HO_5 := n0_; have HO696 := n1_; have HO700 := n2_; have BK687 := n3_; have HB := n4_; clear n0_ n1_ n2_ n3_ n4_; (try clear hb); (try clear hb2); (try clear hk); (try clear hi); (try clear ho0)))
      (try simp only [Act.put, List.setIfInBounds_toArray, List.set_cons_zero, List.set_cons_succ])
      go_cut [59] (fun v59 wc => ∃ (kq : Nat) (x59_20 : Bool), v59 = .bool x59_20 ∧ Aside0 (ductuslaw27_SwapSome.j1 kq a1 t694 x59_20 l0_0 l0_1 l0_2 = some r) ∧ Aside0 (kq ≤ k1) ∧ Aside0 (wc.heap[gb687]? = some (.cells #[(.slice A0_0 l0_0.length c0_0), (.slice A0_1 l0_1.length c0_1), (.slice A0_2 l0_2.length c0_2)] 25 (0, 0))) ∧ Aside0 (Below w.heap.size w wc))
      case first =>
        have H := HC21.out
        clear HC21
        by_cases c27 : t694 = t698
        rotate_left
        · rw [if_neg c27] at H
          exact absurd H (by simp)
        rw [if_pos c27] at H
        have c27b0 : (t694 == t698) = true := beq_iff_eq.mpr c27
        have c27b1 : (t694 != t698) = false := bne_eq_false_iff_eq.mpr c27
        clear c27
        (first | rw [c27b0] | (simp only [i64_w, i32_w]; rw [c27b0]) | skip)
        replace H := Option.bind_eq_some_iff.mp H
        obtain ⟨t701, A280, H⟩ := H
        replace H : (ductuslaw27_SwapSome.j1 k1 a1 t694 (!t701) l0_0 l0_1 l0_2) = some r := H
        have A28 := Aside0.mk A280
        clear A280
        have H' := Aside0.mk H
        clear H
        obtain ⟨Ao29, co29, eo29⟩ := Kd.R_slice HO696.out
        subst eo29
        obtain ⟨Ao30, co30, eo30⟩ := Kd.R_slice HO700.out
        subst eo30
        go_wp2_with (first | (go_at_call 16; (with_reducible refine (ductusref01_Ints.calls k1 _ _ t693 _ _ t697 t701 _ ?side1 ?side2 ?side3 ?side4 A28.out).mono ?_); (case side1 => repeat (first | exact (Kd.R_reads' HO696.out).2.2 | (with_reducible refine Kd.C_alloc ?_ _) | (with_reducible refine Kd.C_drewN ?_ _) | (with_reducible refine Kd.C_drew ?_))); (case side2 => exact (Kd.R_reads' HO696.out).2.1); (case side3 => repeat (first | exact (Kd.R_reads' HO700.out).2.2 | (with_reducible refine Kd.C_alloc ?_ _) | (with_reducible refine Kd.C_drewN ?_ _) | (with_reducible refine Kd.C_drew ?_))); (case side4 => exact (Kd.R_reads' HO700.out).2.1); rintro e w' ⟨rfl, ⟨nd, rfl⟩⟩))
        go_meet
        case rel => exact ⟨_, (!t701), (by first | rfl | (simp; done) | (simp [*]; done)), H', ⟨by have := HK1.out; first | omega | exact Nat.le_refl _⟩, ⟨by (with_reducible repeat (first | refine blk_drewN ?_ _ | refine blk_drew ?_ | refine blk_alloc ?_ _)); exact BK687.out⟩, ⟨by repeat (first | (with_reducible first | exact HB.out | apply below_alloc | apply pw_below_drewN | apply below_drew1 | refine below_set ?_ GE687.out) | exact HB.out)⟩⟩
      case rest =>
        clear HC21
        try clear c1
        try clear c2
        try clear p2
        try clear c4
        try clear c6
        try clear p6
        try clear c7
        try clear c8
        try clear c9
        try clear c10
        try clear c12
        try clear c15
        try clear c15b0
        try clear c16
        try clear c27
        try clear c27b0
        try clear c27b1
        try clear hcz13_0
        try clear hcz13_1
        try clear hcz13_2
        try clear hcz17_0
        try clear hcz17_1
        try clear hcz17_2
        try clear hcz22_0
        try clear hcz22_1
        try clear hcz22_2
        try clear hcz24_0
        try clear hcz24_1
        try clear hcz24_2
        try clear hcz9_0
        try clear hcz9_1
        try clear hcz9_2
        try clear hfz13_0
        try clear hfz13_1
        try clear hfz13_2
        try clear hfz17_0
        try clear hfz17_1
        try clear hfz17_2
        try clear hfz22_0
        try clear hfz22_1
        try clear hfz22_2
        try clear hfz24_0
        try clear hfz24_1
        try clear hfz24_2
        try clear hfz9_0
        try clear hfz9_1
        try clear hfz9_2
        try clear p2
        obtain ⟨kq, x59_20, rfl, HA, HJ20, BK687, HB⟩ := hcut
        cases kq with
        | zero => exact absurd HA.out (by simp [ductuslaw27_SwapSome.j1])
        | succ kj20 =>
          have H := HA.out
          clear HA
          simp only [ductuslaw27_SwapSome.j1] at H
          by_cases c31 : x59_20 = true
          · subst c31
            have H1 : (none) = some r := by rw [if_pos rfl] at H; exact H
            clear H
            have H := H1
            clear H1
            exact absurd H (by simp)
          replace c31 := Bool.eq_false_iff.mpr c31
          subst c31
          have H1 : (if t694 = 1 then (ductuslaw27_SwapSome.j2 kj20 a1 true l0_0 l0_1 l0_2) else (ductuslaw27_SwapSome.j2 kj20 a1 ((l0_1.length : Int) == 0) l0_0 l0_1 l0_2)) = some r := by rw [if_neg (show ¬ (false = true) by decide)] at H; exact H
          clear H
          have H := H1
          clear H1
          have HC32 := Aside0.mk H
          clear H
          go_upto_region 14 with (fail)
          go_cut [67] (fun v67 wc => ∃ (kq : Nat) (x67_31 : Bool), v67 = .bool x67_31 ∧ Aside0 (ductuslaw27_SwapSome.j2 kq a1 x67_31 l0_0 l0_1 l0_2 = some r) ∧ Aside0 (kq ≤ kj20) ∧ Aside0 (wc.heap[gb687]? = some (.cells #[(.slice A0_0 l0_0.length c0_0), (.slice A0_1 l0_1.length c0_1), (.slice A0_2 l0_2.length c0_2)] 25 (0, 0))) ∧ Aside0 (Below w.heap.size w wc))
          case first =>
            have H := HC32.out
            clear HC32
            by_cases c33 : t694 = 1
            · rw [if_pos c33] at H
              have c33b0 : (t694 == 1) = true := beq_iff_eq.mpr c33
              have c33b1 : (t694 != 1) = false := bne_eq_false_iff_eq.mpr c33
              clear c33
              (first | rw [c33b0] | (simp only [i64_w, i32_w]; rw [c33b0]) | skip)
              have H' := Aside0.mk H
              clear H
              go_wp2
              go_meet
              case rel => exact ⟨_, (true), (by first | rfl | (simp; done) | (simp [*]; done)), H', ⟨by have := HK1.out; have := HJ20.out; first | omega | exact Nat.le_refl _⟩, ⟨by (with_reducible repeat (first | refine blk_drewN ?_ _ | refine blk_drew ?_ | refine blk_alloc ?_ _)); exact BK687.out⟩, ⟨by repeat (first | (with_reducible first | exact HB.out | apply below_alloc | apply pw_below_drewN | apply below_drew1 | refine below_set ?_ GE687.out) | exact HB.out)⟩⟩
            rw [if_neg c33] at H
            have c33b0 : (t694 == 1) = false := beq_eq_false_iff_ne.mpr c33
            have c33b1 : (t694 != 1) = true := bne_iff_ne.mpr c33
            (first | rw [c33b0] | (simp only [i64_w, i32_w]; rw [c33b0]) | skip)
            have H' := Aside0.mk H
            clear H
            have hcz34_0 : wc.cell? ⟨gb687, 0, none⟩ = some (.slice A0_0 l0_0.length c0_0) := (blk_cell BK687.out 0).trans rfl
            have hcz34_1 : wc.cell? ⟨gb687, 1, none⟩ = some (.slice A0_1 l0_1.length c0_1) := (blk_cell BK687.out 1).trans rfl
            have hcz34_2 : wc.cell? ⟨gb687, 2, none⟩ = some (.slice A0_2 l0_2.length c0_2) := (blk_cell BK687.out 2).trans rfl
            have hfz34_0 := blk_frozen BK687.out 0
            have hfz34_1 := blk_frozen BK687.out 1
            have hfz34_2 := blk_frozen BK687.out 2
            go_wp2
            go_meet
            case rel => exact ⟨_, (((l0_1.length : Int) == 0)), (by first | rfl | (simp; done) | (simp [*]; done)), H', ⟨by have := HK1.out; have := HJ20.out; first | omega | exact Nat.le_refl _⟩, ⟨by (with_reducible repeat (first | refine blk_drewN ?_ _ | refine blk_drew ?_ | refine blk_alloc ?_ _)); exact BK687.out⟩, ⟨by repeat (first | (with_reducible first | exact HB.out | apply below_alloc | apply pw_below_drewN | apply below_drew1 | refine below_set ?_ GE687.out) | exact HB.out)⟩⟩
          case rest =>
            clear HC32
            try clear c1
            try clear c2
            try clear p2
            try clear c3
            try clear c4
            try clear c6
            try clear p6
            try clear c7
            try clear c8
            try clear c9
            try clear c10
            try clear c12
            try clear c15
            try clear c15b0
            try clear c16
            try clear c27
            try clear c27b0
            try clear c27b1
            try clear c31
            try clear c33
            try clear c33b0
            try clear c33b1
            try clear hcz13_0
            try clear hcz13_1
            try clear hcz13_2
            try clear hcz17_0
            try clear hcz17_1
            try clear hcz17_2
            try clear hcz22_0
            try clear hcz22_1
            try clear hcz22_2
            try clear hcz24_0
            try clear hcz24_1
            try clear hcz24_2
            try clear hcz34_0
            try clear hcz34_1
            try clear hcz34_2
            try clear hcz9_0
            try clear hcz9_1
            try clear hcz9_2
            try clear hfz13_0
            try clear hfz13_1
            try clear hfz13_2
            try clear hfz17_0
            try clear hfz17_1
            try clear hfz17_2
            try clear hfz22_0
            try clear hfz22_1
            try clear hfz22_2
            try clear hfz24_0
            try clear hfz24_1
            try clear hfz24_2
            try clear hfz34_0
            try clear hfz34_1
            try clear hfz34_2
            try clear hfz9_0
            try clear hfz9_1
            try clear hfz9_2
            try clear p2
            try clear p6
            obtain ⟨kq, x67_31, rfl, HA, HJ31, BK687, HB⟩ := hcut
            cases kq with
            | zero => exact absurd HA.out (by simp [ductuslaw27_SwapSome.j2])
            | succ kj31 =>
              have H := HA.out
              clear HA
              simp only [ductuslaw27_SwapSome.j2] at H
              by_cases c35 : x67_31 = true
              · subst c35
                have H1 : (some true) = some r := by rw [if_pos rfl] at H; exact H
                clear H
                have H := H1
                clear H1
                obtain rfl := Option.some.inj H
                go_wp2
                go_ret
                exact ⟨by first | rfl | (simp [errW_none, errW_some] <;> rfl) | (simp [*, errW_none, errW_some] <;> rfl), by repeat (first | (with_reducible first | exact HB.out | apply below_alloc | apply pw_below_drewN | apply below_drew1 | refine below_set ?_ GE687.out) | exact HB.out)⟩
              replace c35 := Bool.eq_false_iff.mpr c35
              subst c35
              have H1 : (if (l0_1.length : Int) = 0 then (none) else (if 0 ≤ (Int.tmod (wrap64 (a1)) (l0_1.length : Int)) then (if (Int.tmod (wrap64 (a1)) (l0_1.length : Int)) < (l0_1.length : Int) then ((ductusref27_Plain.f kj31 l0_0).bind fun t704 => (if 0 ≤ ((rd_T39 l0_1 (Int.tmod (wrap64 (a1)) (l0_1.length : Int))).f0) then (if ((rd_T39 l0_1 (Int.tmod (wrap64 (a1)) (l0_1.length : Int))).f0) ≤ ((rd_T39 l0_1 (Int.tmod (wrap64 (a1)) (l0_1.length : Int))).f1) then (if ((rd_T39 l0_1 (Int.tmod (wrap64 (a1)) (l0_1.length : Int))).f1) ≤ (t704.length : Int) then ((swap_All.f kj31 l0_0 (([(⟨(rd_T39 l0_1 (Int.tmod (wrap64 (a1)) (l0_1.length : Int))).f0, (rd_T39 l0_1 (Int.tmod (wrap64 (a1)) (l0_1.length : Int))).f1⟩ : S39)] : List (S39))) ((t704.take (((rd_T39 l0_1 (Int.tmod (wrap64 (a1)) (l0_1.length : Int))).f1) : Int).toNat).drop (((rd_T39 l0_1 (Int.tmod (wrap64 (a1)) (l0_1.length : Int))).f0) : Int).toNat)).bind fun bt714 => (if bt714.2 = 0 then ((ductusref27_Plain.f kj31 bt714.1).bind fun t718 => ((ductusref01_Ints.f kj31 t718 t704).bind fun t721 => (some t721))) else (none))) else (none)) else (none)) else (none))) else (none)) else (none))) = some r := by rw [if_neg (show ¬ (false = true) by decide)] at H; exact H
              clear H
              have H := H1
              clear H1
              by_cases c36 : (l0_1.length : Int) = 0
              · rw [if_pos c36] at H
                exact absurd H (by simp)
              rw [if_neg c36] at H
              have c36b0 : ((l0_1.length : Int) == 0) = false := beq_eq_false_iff_ne.mpr c36
              have c36b1 : ((l0_1.length : Int) != 0) = true := bne_iff_ne.mpr c36
              have c36b2 : ¬ (l0_1 = []) := fun h_ => c36 (by rw [h_]; rfl)
              obtain ⟨ji37, hji37⟩ : ∃ j_ : Int, (Int.tmod (wrap64 (a1)) (l0_1.length : Int)) = j_ := ⟨_, rfl⟩
              replace H : (if 0 ≤ (ji37) then (if (ji37) < (l0_1.length : Int) then ((ductusref27_Plain.f kj31 l0_0).bind fun t704 => (if 0 ≤ ((rd_T39 l0_1 (ji37)).f0) then (if ((rd_T39 l0_1 (ji37)).f0) ≤ ((rd_T39 l0_1 (ji37)).f1) then (if ((rd_T39 l0_1 (ji37)).f1) ≤ (t704.length : Int) then ((swap_All.f kj31 l0_0 (([(⟨(rd_T39 l0_1 (ji37)).f0, (rd_T39 l0_1 (ji37)).f1⟩ : S39)] : List (S39))) ((t704.take (((rd_T39 l0_1 (ji37)).f1) : Int).toNat).drop (((rd_T39 l0_1 (ji37)).f0) : Int).toNat)).bind fun bt714 => (if bt714.2 = 0 then ((ductusref27_Plain.f kj31 bt714.1).bind fun t718 => ((ductusref01_Ints.f kj31 t718 t704).bind fun t721 => (some t721))) else (none))) else (none)) else (none)) else (none))) else (none)) else (none)) = some r := by first | (rw [hji37] at H; exact H) | (simp only [hji37] at H ⊢; exact H)
              by_cases c38 : 0 ≤ (ji37)
              rotate_left
              · rw [if_neg c38] at H
                exact absurd H (by simp)
              rw [if_pos c38] at H
              have c38b0 : decide (0 ≤ (ji37)) = true := decide_eq_true c38
              clear c38
              by_cases c39 : (ji37) < (l0_1.length : Int)
              rotate_left
              · rw [if_neg c39] at H
                exact absurd H (by simp)
              rw [if_pos c39] at H
              have c39b0 : decide ((ji37) < (l0_1.length : Int)) = true := decide_eq_true c39
              clear c39
              replace H := Option.bind_eq_some_iff.mp H
              obtain ⟨t704, A400, H⟩ := H
              replace H : (if 0 ≤ ((rd_T39 l0_1 (ji37)).f0) then (if ((rd_T39 l0_1 (ji37)).f0) ≤ ((rd_T39 l0_1 (ji37)).f1) then (if ((rd_T39 l0_1 (ji37)).f1) ≤ (t704.length : Int) then ((swap_All.f kj31 l0_0 (([(⟨(rd_T39 l0_1 (ji37)).f0, (rd_T39 l0_1 (ji37)).f1⟩ : S39)] : List (S39))) ((t704.take (((rd_T39 l0_1 (ji37)).f1) : Int).toNat).drop (((rd_T39 l0_1 (ji37)).f0) : Int).toNat)).bind fun bt714 => (if bt714.2 = 0 then ((ductusref27_Plain.f kj31 bt714.1).bind fun t718 => ((ductusref01_Ints.f kj31 t718 t704).bind fun t721 => (some t721))) else (none))) else (none)) else (none)) else (none)) = some r := H
              have A40 := Aside0.mk A400
              clear A400
              obtain ⟨y707, hy707⟩ : ∃ y_ : List (S39), y_ = (([(⟨(rd_T39 l0_1 (ji37)).f0, (rd_T39 l0_1 (ji37)).f1⟩ : S39)] : List (S39))) := ⟨_, rfl⟩
              replace H : (if 0 ≤ ((rd_T39 l0_1 (ji37)).f0) then (if ((rd_T39 l0_1 (ji37)).f0) ≤ ((rd_T39 l0_1 (ji37)).f1) then (if ((rd_T39 l0_1 (ji37)).f1) ≤ (t704.length : Int) then ((swap_All.f kj31 l0_0 y707 ((t704.take (((rd_T39 l0_1 (ji37)).f1) : Int).toNat).drop (((rd_T39 l0_1 (ji37)).f0) : Int).toNat)).bind fun bt714 => (if bt714.2 = 0 then ((ductusref27_Plain.f kj31 bt714.1).bind fun t718 => ((ductusref01_Ints.f kj31 t718 t704).bind fun t721 => (some t721))) else (none))) else (none)) else (none)) else (none)) = some r := by first | (rw [hy707]; with_reducible exact H) | (have H2_ := (Option.bind_some _ _).symm.trans H; rw [hy707]; with_reducible exact H2_) | (have H2_ := (Option.bind_some _ _).symm.trans H; with_reducible exact H2_) | with_reducible exact H | (rw [hy707]; exact H) | exact H
              have Ny707 := Aside0.mk hy707
              clear hy707
              by_cases c41 : 0 ≤ ((rd_T39 l0_1 (ji37)).f0)
              rotate_left
              · rw [if_neg c41] at H
                exact absurd H (by simp)
              rw [if_pos c41] at H
              have c41b0 := eq_true c41
              have c41b1 : decide (0 ≤ ((rd_T39 l0_1 (ji37)).f0)) = true := decide_eq_true c41
              clear c41
              by_cases c42 : ((rd_T39 l0_1 (ji37)).f0) ≤ ((rd_T39 l0_1 (ji37)).f1)
              rotate_left
              · rw [if_neg c42] at H
                exact absurd H (by simp)
              rw [if_pos c42] at H
              have c42b0 := eq_true c42
              have c42b1 : decide (((rd_T39 l0_1 (ji37)).f0) ≤ ((rd_T39 l0_1 (ji37)).f1)) = true := decide_eq_true c42
              clear c42
              by_cases c43 : ((rd_T39 l0_1 (ji37)).f1) ≤ (t704.length : Int)
              rotate_left
              · rw [if_neg c43] at H
                exact absurd H (by simp)
              rw [if_pos c43] at H
              have c43b0 := eq_true c43
              have c43b1 : decide (((rd_T39 l0_1 (ji37)).f1) ≤ (t704.length : Int)) = true := decide_eq_true c43
              clear c43
              obtain ⟨y710, hy710⟩ : ∃ y_ : List Int, y_ = ((t704.take (((rd_T39 l0_1 (ji37)).f1) : Int).toNat).drop (((rd_T39 l0_1 (ji37)).f0) : Int).toNat) := ⟨_, rfl⟩
              replace H : ((swap_All.f kj31 l0_0 y707 y710).bind fun bt714 => (if bt714.2 = 0 then ((ductusref27_Plain.f kj31 bt714.1).bind fun t718 => ((ductusref01_Ints.f kj31 t718 t704).bind fun t721 => (some t721))) else (none))) = some r := by first | (rw [hy710]; with_reducible exact H) | (have H2_ := (Option.bind_some _ _).symm.trans H; rw [hy710]; with_reducible exact H2_) | (have H2_ := (Option.bind_some _ _).symm.trans H; with_reducible exact H2_) | with_reducible exact H | (rw [hy710]; exact H) | exact H
              have Ny710 := Aside0.mk hy710
              clear hy710
              replace H := Option.bind_eq_some_iff.mp H
              obtain ⟨⟨t714, t715⟩, A440, H⟩ := H
              replace H : (if t715 = 0 then ((ductusref27_Plain.f kj31 t714).bind fun t718 => ((ductusref01_Ints.f kj31 t718 t704).bind fun t721 => (some t721))) else (none)) = some r := H
              have A44 := Aside0.mk A440
              clear A440
              by_cases c45 : t715 = 0
              rotate_left
              · rw [if_neg c45] at H
                exact absurd H (by simp)
              rw [if_pos c45] at H
              have c45b0 : (t715 == 0) = true := beq_iff_eq.mpr c45
              have c45b1 : (t715 != 0) = false := bne_eq_false_iff_eq.mpr c45
              clear c45
              replace H := Option.bind_eq_some_iff.mp H
              obtain ⟨t718, A460, H⟩ := H
              replace H : ((ductusref01_Ints.f kj31 t718 t704).bind fun t721 => (some t721)) = some r := H
              have A46 := Aside0.mk A460
              clear A460
              replace H := Option.bind_eq_some_iff.mp H
              obtain ⟨t721, A470, H⟩ := H
              replace H : (some t721) = some r := H
              have A47 := Aside0.mk A470
              clear A470
              obtain rfl := Option.some.inj H
              try go_wp2
              have n0_ := Aside0.mk (blk_drew BK687.out)
              have n1_ := Aside0.mk (below_drew1 HB.out)
              clear BK687
              clear HB
              have BK687 := n0_
              have HB := n1_
              clear n0_ n1_
              have p702 : 0 ≤ ((ji37) : Int) := of_decide_eq_true (by first | (with_reducible assumption) | assumption)
              have q702 : (ji37) < (l0_1.length : Int) := of_decide_eq_true (by first | (with_reducible assumption) | assumption)
              obtain ⟨ad702, e702, hx702_0, hx702_1⟩ := at_T39 HR0_1.out (ji37) p702 q702
              have hw702_1 := hx702_1
              have hw702_0 := hx702_0
              cases e702
              replace hx702_0 := (HB.out.cell (World.block_lt_of_cell? w _ hx702_0)).trans hx702_0
              replace hx702_1 := (HB.out.cell (World.block_lt_of_cell? w _ hx702_1)).trans hx702_1
              replace p702 := eq_true p702
              replace q702 := eq_true q702
              refine start_ (n := 12) (S := fun w' => w'.cell? ⟨gb687, 0, none⟩ = some (.slice A0_0 l0_0.length c0_0) ∧ w'.cell? ⟨gb687, 1, none⟩ = some (.slice (some ad702) l0_1.length c0_1) ∧ w'.cell? ⟨gb687, 2, none⟩ = some (.slice A0_2 l0_2.length c0_2) ∧ w'.cell? (ad702.add (((ji37)).toNat * 2)) = some (.int .i64 ((rd_T39 l0_1 (ji37)).f0)) ∧ w'.cell? ⟨(ad702.add (((ji37)).toNat * 2)).block, (ad702.add (((ji37)).toNat * 2)).off + 1, none⟩ = some (.int .i64 ((rd_T39 l0_1 (ji37)).f1))) (ds := []) #[false, false, false, false, false, false, false, false, false, false, false, false] (by kernel_rfl) rfl rfl ⟨(blk_cell BK687.out 0).trans rfl, (blk_cell BK687.out 1).trans rfl, (blk_cell BK687.out 2).trans rfl, ((HB.out.cell (World.block_lt_of_cell? w _ hw702_0)).trans hw702_0), ((HB.out.cell (World.block_lt_of_cell? w _ hw702_1)).trans hw702_1)⟩ (fun hHeld => ?_); refine with_tabW ductuslaw27_SwapSome.tab16 ductuslaw27_SwapSome.bits16 (fun HT_ HW_ => ?_)
              generalize wc.drew = w48 at BK687 HB hx702_0 hx702_1 hHeld ⊢
              refine pure_ (i := 0) (N := some 68) (v := ?_) (a' := ?_) #[true, false, false, false, false, false, false, false, false, false, false, false] rfl rfl (any_of HT_.out (by kernel_rfl)) (fun _ _ _ h => h) (Or.inl ⟨by rfl, ?_⟩) ?_ ?_
              rotate_left
              · intro w'
                go_simp
                with_reducible rfl
              rotate_left
              · simp only [Act.put, List.setIfInBounds_toArray, List.set_cons_zero, List.set_cons_succ, i64_w, i32_w]
                rfl
              refine pure_ (i := 2) (N := some 70) (v := ?_) (a' := ?_) #[true, false, true, false, false, false, false, false, false, false, false, false] rfl rfl (any_of HT_.out (by kernel_rfl)) (fun _ _ _ h => h) (Or.inl ⟨by rfl, ?_⟩) ?_ ?_
              rotate_left
              · intro w'
                go_simp
                with_reducible rfl
              rotate_left
              · simp only [Act.put, List.setIfInBounds_toArray, List.set_cons_zero, List.set_cons_succ, i64_w, i32_w]
                rfl
              refine pure_ (i := 3) (N := some 71) (v := ?_) (a' := ?_) #[true, false, true, true, false, false, false, false, false, false, false, false] rfl rfl (any_of HT_.out (by kernel_rfl)) (fun _ _ _ h => h) (Or.inl ⟨by rfl, ?_⟩) ?_ ?_
              rotate_left
              · intro w'
                go_simp
                with_reducible rfl
              rotate_left
              · simp only [Act.put, List.setIfInBounds_toArray, List.set_cons_zero, List.set_cons_succ, i64_w, i32_w]
                rfl
              refine pure_ (i := 4) (N := some 72) (v := ?_) (a' := ?_) #[true, false, true, true, true, false, false, false, false, false, false, false] rfl rfl (any_of HT_.out (by kernel_rfl)) (fun _ _ _ h => h) (Or.inl ⟨by rfl, ?_⟩) ?_ ?_
              rotate_left
              · intro w'
                go_simp
                with_reducible rfl
              rotate_left
              · simp only [Act.put, List.setIfInBounds_toArray, List.set_cons_zero, List.set_cons_succ, i64_w, i32_w]
                rfl
              refine take_ (i := 1) (N := some 69) (v := ?_) (a' := ?_) #[true, true, true, true, true, false, false, false, false, false, false, false] rfl rfl (take_ofW HT_.out HW_.out (by kernel_rfl)) (fun _ _ _ h => h) (Or.inl ⟨by rfl, ?_⟩) hHeld ?_ ?_
              rotate_left
              · rintro w' ⟨s0, s1, s2, s3, s4⟩
                go_simp
                with_reducible rfl
              rotate_left
              · simp only [Act.put, List.setIfInBounds_toArray, List.set_cons_zero, List.set_cons_succ, i64_w, i32_w]
                rfl
              refine take_ (i := 5) (N := some 73) (v := ?_) (a' := ?_) #[true, true, true, true, true, true, false, false, false, false, false, false] rfl rfl (take_ofW HT_.out HW_.out (by kernel_rfl)) (fun _ _ _ h => h) (Or.inl ⟨by rfl, ?_⟩) hHeld ?_ ?_
              rotate_left
              · rintro w' ⟨s0, s1, s2, s3, s4⟩
                go_simp
                with_reducible rfl
              rotate_left
              · simp only [Act.put, List.setIfInBounds_toArray, List.set_cons_zero, List.set_cons_succ, i64_w, i32_w]
                rfl
              refine pure_ (i := 6) (N := some 74) (v := ?_) (a' := ?_) #[true, true, true, true, true, true, true, false, false, false, false, false] rfl rfl (any_of HT_.out (by kernel_rfl)) (fun _ _ _ h => h) (Or.inl ⟨by rfl, ?_⟩) ?_ ?_
              rotate_left
              · intro w'
                go_simp
                with_reducible rfl
              rotate_left
              · simp only [Act.put, List.setIfInBounds_toArray, List.set_cons_zero, List.set_cons_succ, i64_w, i32_w]
                rfl
              refine pure_ (i := 7) (N := some 75) (v := ?_) (a' := ?_) #[true, true, true, true, true, true, true, true, false, false, false, false] rfl rfl (any_of HT_.out (by kernel_rfl)) (fun _ _ _ h => h) (Or.inl ⟨by rfl, ?_⟩) ?_ ?_
              rotate_left
              · intro w'
                go_simp
                with_reducible rfl
              rotate_left
              · simp only [Act.put, List.setIfInBounds_toArray, List.set_cons_zero, List.set_cons_succ, i64_w, i32_w]
                rfl
              refine pure_ (i := 8) (N := some 76) (v := ?_) (a' := ?_) #[true, true, true, true, true, true, true, true, true, false, false, false] rfl rfl (any_of HT_.out (by kernel_rfl)) (fun _ _ _ h => h) (Or.inl ⟨by rfl, ?_⟩) ?_ ?_
              rotate_left
              · intro w'
                go_simp
                with_reducible rfl
              rotate_left
              · simp only [Act.put, List.setIfInBounds_toArray, List.set_cons_zero, List.set_cons_succ, i64_w, i32_w]
                rfl
              refine take_ (i := 9) (N := some 77) (v := ?_) (a' := ?_) #[true, true, true, true, true, true, true, true, true, true, false, false] rfl rfl (take_ofW HT_.out HW_.out (by kernel_rfl)) (fun _ _ _ h => h) (Or.inl ⟨by rfl, ?_⟩) hHeld ?_ ?_
              rotate_left
              · rintro w' ⟨s0, s1, s2, s3, s4⟩
                go_simp
                with_reducible rfl
              rotate_left
              · simp only [Act.put, List.setIfInBounds_toArray, List.set_cons_zero, List.set_cons_succ, i64_w, i32_w]
                rfl
              refine one_ (i := 10) (N := some 11) #[true, true, true, true, true, true, true, true, true, true, true, false] rfl rfl (one_of HT_.out (by kernel_rfl)) (by decide) (fun K hK => ?_)
              refine box_step ?hg (N := 11) ?hd (cs := #[.int .i64 0, .int .i64 0]) (t := 39) ?hr ?_; (case hd => rfl); (case hg => rfl); (case hr => first | (go_simp; done) | (go_simp; rfl))
              intro gb703 hg w49 hbox hb
              have n0_ := Aside0.mk (blk_below (g := gb687) (o := .cells #[.slice A0_0 l0_0.length c0_0, .slice (some ad702) l0_1.length c0_1, .slice A0_2 l0_2.length c0_2] 25 (0, 0)) (by (with_reducible repeat (first | refine blk_drewN ?_ _ | refine blk_drew ?_ | refine blk_alloc ?_ _)); exact BK687.out) hb)
              have n1_ := Aside0.mk (below_step (by repeat (first | (with_reducible first | exact HB.out | apply below_alloc | apply pw_below_drewN | apply below_drew1 | refine below_set ?_ GE687.out) | exact HB.out)) hb)
              have n2_ := Aside0.mk (hbox)
              have n3_ := Aside0.mk ((by rw [hg]; exact (below_size (by repeat (first | (with_reducible first | exact HB.out | apply below_alloc | apply pw_below_drewN | apply below_drew1 | refine below_set ?_ GE687.out) | exact HB.out))) : w.heap.size ≤ gb703))
              have n4_ := Aside0.mk ((by rw [hg]; exact (below_size (by repeat (first | (with_reducible first | exact HB.out | apply below_alloc | apply pw_below_drewN | apply below_drew1 | refine below_set ?_ GE687.out) | exact HB.out))) : w.heap.size ≤ gb703))
              have n5_ := Aside0.mk ((by rw [hg]; exact Nat.ne_of_lt (blk_lt (g := gb687) (o := .cells #[.slice A0_0 l0_0.length c0_0, .slice (some ad702) l0_1.length c0_1, .slice A0_2 l0_2.length c0_2] 25 (0, 0)) (by (with_reducible repeat (first | refine blk_drewN ?_ _ | refine blk_drew ?_ | refine blk_alloc ?_ _)); exact BK687.out)) : gb687 ≠ gb703))
              have n6_ := Aside0.mk ((by rw [hg]; exact Nat.ne_of_gt (blk_lt (g := gb687) (o := .cells #[.slice A0_0 l0_0.length c0_0, .slice (some ad702) l0_1.length c0_1, .slice A0_2 l0_2.length c0_2] 25 (0, 0)) (by (with_reducible repeat (first | refine blk_drewN ?_ _ | refine blk_drew ?_ | refine blk_alloc ?_ _)); exact BK687.out)) : gb703 ≠ gb687))
              clear BK687
              clear HB
              have BK687 := n0_
              have HB := n1_
              have BK703 := n2_
              have GW703 := n3_
              have GE703 := n4_
              have NB687_703 := n5_
              have NB703_687 := n6_
              clear n0_ n1_ n2_ n3_ n4_ n5_ n6_
              clear hb hbox hg
              refine hK.out _ _ ⟨(blk_cell BK687.out 0).trans rfl, (blk_cell BK687.out 1).trans rfl, (blk_cell BK687.out 2).trans rfl, ((HB.out.cell (World.block_lt_of_cell? w _ hw702_0)).trans hw702_0), ((HB.out.cell (World.block_lt_of_cell? w _ hw702_1)).trans hw702_1)⟩ (fun hHeld => ?_)
              clear hK K
              refine norm_ (a' := ?_) ?_ ?_
              rotate_left
              · show Act.put _ (some 11) _ = _
                simp only [Act.put, List.setIfInBounds_toArray, List.set_cons_zero, List.set_cons_succ, i64_w, i32_w]
                rfl
              refine one_ (i := 11) (N := none) #[true, true, true, true, true, true, true, true, true, true, true, true] rfl rfl (one_of HT_.out (by kernel_rfl)) (by decide) (fun K hK => ?_)
              have hs50 : w49.cell? ⟨gb703, 0, none⟩ = some (.int .i64 0) := (blk_cell BK703.out 0).trans rfl
              have hfs50 := blk_frozen BK703.out 0
              have hns50_0 := NB687_703.out
              have hms50_0 := NB703_687.out
              have hs51 : w49.cell? ⟨gb703, 1, none⟩ = some (.int .i64 0) := (blk_cell BK703.out 1).trans rfl
              have hfs51 := blk_frozen BK703.out 1
              have hns51_0 := NB687_703.out
              have hms51_0 := NB703_687.out
              refine skip_ (w1 := ?_) (by rfl) rfl ?_ ?_
              rotate_left
              · go_simp
                rfl
              refine hK.out _ _ ⟨((cell_far (p := ⟨gb703, _, none⟩) NB687_703.out _).trans (((cell_far (p := ⟨gb703, _, none⟩) NB687_703.out _).trans (hHeld.1)))), ((cell_far (p := ⟨gb703, _, none⟩) NB687_703.out _).trans (((cell_far (p := ⟨gb703, _, none⟩) NB687_703.out _).trans (hHeld.2.1)))), ((cell_far (p := ⟨gb703, _, none⟩) NB687_703.out _).trans (((cell_far (p := ⟨gb703, _, none⟩) NB687_703.out _).trans (hHeld.2.2.1)))), ((cell_far (p := ⟨gb703, _, none⟩) (by first | exact Nat.ne_of_lt (Nat.lt_of_lt_of_le (by have := World.block_lt_of_cell? _ _ hw702_0; first | rwa [add_block] at this | exact this) GW703.out) | (rw [add_block]; exact Nat.ne_of_lt (Nat.lt_of_lt_of_le (by have := World.block_lt_of_cell? _ _ hw702_0; first | rwa [add_block] at this | exact this) GW703.out)) | (show (Addr.add _ _).block ≠ _; rw [add_block]; exact Nat.ne_of_lt (Nat.lt_of_lt_of_le (by have := World.block_lt_of_cell? _ _ hw702_0; first | rwa [add_block] at this | exact this) GW703.out)) | (dsimp only; exact Nat.ne_of_lt (Nat.lt_of_lt_of_le (by have := World.block_lt_of_cell? _ _ hw702_0; first | rwa [add_block] at this | exact this) GW703.out))) _).trans (((cell_far (p := ⟨gb703, _, none⟩) (by first | exact Nat.ne_of_lt (Nat.lt_of_lt_of_le (by have := World.block_lt_of_cell? _ _ hw702_0; first | rwa [add_block] at this | exact this) GW703.out) | (rw [add_block]; exact Nat.ne_of_lt (Nat.lt_of_lt_of_le (by have := World.block_lt_of_cell? _ _ hw702_0; first | rwa [add_block] at this | exact this) GW703.out)) | (show (Addr.add _ _).block ≠ _; rw [add_block]; exact Nat.ne_of_lt (Nat.lt_of_lt_of_le (by have := World.block_lt_of_cell? _ _ hw702_0; first | rwa [add_block] at this | exact this) GW703.out)) | (dsimp only; exact Nat.ne_of_lt (Nat.lt_of_lt_of_le (by have := World.block_lt_of_cell? _ _ hw702_0; first | rwa [add_block] at this | exact this) GW703.out))) _).trans (hHeld.2.2.2.1)))), ((cell_far (p := ⟨gb703, _, none⟩) (by first | exact Nat.ne_of_lt (Nat.lt_of_lt_of_le (by have := World.block_lt_of_cell? _ _ hw702_1; first | rwa [add_block] at this | exact this) GW703.out) | (rw [add_block]; exact Nat.ne_of_lt (Nat.lt_of_lt_of_le (by have := World.block_lt_of_cell? _ _ hw702_1; first | rwa [add_block] at this | exact this) GW703.out)) | (show (Addr.add _ _).block ≠ _; rw [add_block]; exact Nat.ne_of_lt (Nat.lt_of_lt_of_le (by have := World.block_lt_of_cell? _ _ hw702_1; first | rwa [add_block] at this | exact this) GW703.out)) | (dsimp only; exact Nat.ne_of_lt (Nat.lt_of_lt_of_le (by have := World.block_lt_of_cell? _ _ hw702_1; first | rwa [add_block] at this | exact this) GW703.out))) _).trans (((cell_far (p := ⟨gb703, _, none⟩) (by first | exact Nat.ne_of_lt (Nat.lt_of_lt_of_le (by have := World.block_lt_of_cell? _ _ hw702_1; first | rwa [add_block] at this | exact this) GW703.out) | (rw [add_block]; exact Nat.ne_of_lt (Nat.lt_of_lt_of_le (by have := World.block_lt_of_cell? _ _ hw702_1; first | rwa [add_block] at this | exact this) GW703.out)) | (show (Addr.add _ _).block ≠ _; rw [add_block]; exact Nat.ne_of_lt (Nat.lt_of_lt_of_le (by have := World.block_lt_of_cell? _ _ hw702_1; first | rwa [add_block] at this | exact this) GW703.out)) | (dsimp only; exact Nat.ne_of_lt (Nat.lt_of_lt_of_le (by have := World.block_lt_of_cell? _ _ hw702_1; first | rwa [add_block] at this | exact this) GW703.out))) _).trans (hHeld.2.2.2.2))))⟩ (fun hHeld => ?_)
              clear hK K
              refine done_ (done_of HT_.out (by kernel_rfl)) ?_
              have hnb52 := NB687_703.out
              have hnc52 := NB703_687.out
              have hcz53_0 : w49.cell? ⟨gb687, 0, none⟩ = some (.slice A0_0 l0_0.length c0_0) := (blk_cell BK687.out 0).trans rfl
              have hcz53_1 : w49.cell? ⟨gb687, 1, none⟩ = some (.slice (some ad702) l0_1.length c0_1) := (blk_cell BK687.out 1).trans rfl
              have hcz53_2 : w49.cell? ⟨gb687, 2, none⟩ = some (.slice A0_2 l0_2.length c0_2) := (blk_cell BK687.out 2).trans rfl
              have hfz53_0 := blk_frozen BK687.out 0
              have hfz53_1 := blk_frozen BK687.out 1
              have hfz53_2 := blk_frozen BK687.out 2
              try go_wp2_with (first | ((with_reducible refine gate_callee (f := 18) rfl ?_); refine goesL_ (some 80) rfl rfl Try.func18 (by kernel_rfl) rfl #[.slice A0_0 l0_0.length c0_0] rfl (by (try simp only [List.map_toArray, List.map_cons, List.map_nil]); first | done | rfl | (simp only [List.length_drop, List.length_take]; rfl)) ?_; (with_reducible refine (ductusref27_Plain.calls kj31 _ _ l0_0 t704 _ ?side1 ?side2 A40.out).mono ?_); (case side1 => exact Kd.C_below HR0_0.out (by repeat (first | (with_reducible first | exact HB.out | apply below_alloc | apply pw_below_drewN | apply below_drew1 | refine below_set ?_ GE687.out | refine below_set ?_ GE703.out) | exact HB.out))); (case side2 => exact HC0_0.out); rintro e w54 ⟨v705, rfl, ho0, hb⟩; refine ⟨_, rfl, ?_⟩; have n0_ := Aside0.mk (Kd.R_lower ho0 (below_size (by repeat (first | (with_reducible first | exact HB.out | apply below_alloc | apply pw_below_drewN | apply below_drew1 | refine below_set ?_ GE687.out | refine below_set ?_ GE703.out) | exact HB.out)))); have n1_ := Aside0.mk (blk_below (g := gb687) (o := .cells #[.slice A0_0 l0_0.length c0_0, .slice (some ad702) l0_1.length c0_1, .slice A0_2 l0_2.length c0_2] 25 (0, 0)) (by (with_reducible repeat (first | refine blk_drewN ?_ _ | refine blk_drew ?_ | refine blk_alloc ?_ _)); refine blk_far ?_ NB687_703.out _; (with_reducible repeat (first | refine blk_drewN ?_ _ | refine blk_drew ?_ | refine blk_alloc ?_ _)); refine blk_far ?_ NB687_703.out _; (with_reducible repeat (first | refine blk_drewN ?_ _ | refine blk_drew ?_ | refine blk_alloc ?_ _)); exact BK687.out) hb); have n2_ := Aside0.mk (blk_below (g := gb703) (o := .cells #[.int .i64 ((rd_T39 l0_1 (ji37)).f0), .int .i64 ((rd_T39 l0_1 (ji37)).f1)] 39 (0, 0)) (by (with_reducible repeat (first | refine blk_drewN ?_ _ | refine blk_drew ?_ | refine blk_alloc ?_ _)); refine blk_put (cs := #[.int .i64 ((rd_T39 l0_1 (ji37)).f0), .int .i64 0]) ?_ 1 _ rfl; (with_reducible repeat (first | refine blk_drewN ?_ _ | refine blk_drew ?_ | refine blk_alloc ?_ _)); refine blk_put (cs := #[.int .i64 0, .int .i64 0]) ?_ 0 _ rfl; (with_reducible repeat (first | refine blk_drewN ?_ _ | refine blk_drew ?_ | refine blk_alloc ?_ _)); exact BK703.out) hb); have n3_ := Aside0.mk (below_step (by repeat (first | (with_reducible first | exact HB.out | apply below_alloc | apply pw_below_drewN | apply below_drew1 | refine below_set ?_ GE687.out | refine below_set ?_ GE703.out) | exact HB.out)) hb); clear BK687; clear BK703; clear HB; have HO706 := n0_; have BK687 := n1_; have BK703 := n2_; have HB := n3_; clear n0_ n1_ n2_ n3_; (try clear hb); (try clear hb2); (try clear hk); (try clear hi); (try clear ho0)))
              have n0_ := Aside0.mk (Kd.R_drew HO706.out)
              have n1_ := Aside0.mk (blk_drew BK687.out)
              have n2_ := Aside0.mk (blk_drew BK703.out)
              have n3_ := Aside0.mk (below_drew1 HB.out)
              clear HO706
              clear BK687
              clear BK703
              clear HB
              have HO706 := n0_
              have BK687 := n1_
              have BK703 := n2_
              have HB := n3_
              clear n0_ n1_ n2_ n3_
              obtain ⟨Ao57, co57, eo57⟩ := Kd.R_slice HO706.out
              (first | subst eo57 | (injection eo57 with f1_ f2_ f3_; have f4_ := f1_.symm; have f5_ := f3_.symm; clear f1_ f2_ f3_; subst f4_; subst f5_))
              have q56 : (((rd_T39 l0_1 (ji37)).f1) : Int) ≤ ((t704.length : Int) : Int) := of_decide_eq_true (by first | (with_reducible assumption) | assumption)
              obtain ⟨i056, hi056, _, hsz56, _⟩ := info_parts info3
              have hroom56 : t704.length ≤ co57 := (Kd.R_reads' HO706.out).2.1
              have hC56 : Kd.C (Kd.int .i64) _ Ao57 t704.length t704 := (Kd.R_reads' HO706.out).2.2
              have ql56 : (((rd_T39 l0_1 (ji37)).f0) : Int) ≤ (((rd_T39 l0_1 (ji37)).f1) : Int) := of_decide_eq_true (by first | (with_reducible assumption) | assumption)
              have q056 : (0 : Int) ≤ (((rd_T39 l0_1 (ji37)).f0) : Int) := of_decide_eq_true (by first | (with_reducible assumption) | assumption)
              have hcut56 := cut_mid (P := Try.prog) 22 3 .i64 .i64 Try.underlying22 hi056 1 hsz56 Ao57 t704.length co57 ((rd_T39 l0_1 (ji37)).f0) ((rd_T39 l0_1 (ji37)).f1) q056 ql56 q56 hroom56
              have hr56 := Kd.C_mid (lo := (((rd_T39 l0_1 (ji37)).f0) : Int).toNat) (hi := (((rd_T39 l0_1 (ji37)).f1) : Int).toNat) (c := co57) hC56 (by omega) (by omega) hroom56
              obtain ⟨A56, hA56⟩ : ∃ A1, A1 = (if co57 = (((rd_T39 l0_1 (ji37)).f0) : Int).toNat then Ao57 else (Ao57 : Option Addr).map (·.add ((((rd_T39 l0_1 (ji37)).f0) : Int).toNat * 1))) := ⟨_, rfl⟩
              obtain ⟨c56, hc56⟩ : ∃ c1, c1 = co57 - (((rd_T39 l0_1 (ji37)).f0) : Int).toNat := ⟨_, rfl⟩
              have hy56 : y710.length = (((rd_T39 l0_1 (ji37)).f1) : Int).toNat - (((rd_T39 l0_1 (ji37)).f0) : Int).toNat := (by rw [Ny710.out, List.length_drop, List.length_take] <;> omega)
              rw [show ((t704).take (((rd_T39 l0_1 (ji37)).f1) : Int).toNat).drop (((rd_T39 l0_1 (ji37)).f0) : Int).toNat = y710 from Ny710.out.symm] at hr56
              replace hr56 : Kd.C (Kd.int .i64) _ A56 y710.length y710 := (by rw [hA56]; exact hr56)
              rw [← hy56, ← hA56, ← hc56] at hcut56
              have HR713 := Aside0.mk hr56
              have HC713 := Aside0.mk (show y710.length ≤ c56 from by rw [hy56, hc56]; exact Nat.sub_le_sub_right (Nat.le_trans (by omega) hroom56) _)
              clear hr56 hC56 hroom56 hi056 hsz56 hc56
              have KY56 := Aside0.mk hy56
              have KA56 := Aside0.mk hA56
              clear hy56 hA56
              have KL56 := Aside0.mk (show (((rd_T39 l0_1 (ji37)).f1) : Int).toNat ≤ t704.length from by omega)
              have KM56 := Aside0.mk (show (((rd_T39 l0_1 (ji37)).f0) : Int).toNat ≤ (((rd_T39 l0_1 (ji37)).f1) : Int).toNat from by omega)
              replace q56 := eq_true q56
              refine start_ (n := 16) (S := fun w' => w'.cell? ⟨gb687, 0, none⟩ = some (.slice A0_0 l0_0.length c0_0) ∧ w'.cell? ⟨gb687, 1, none⟩ = some (.slice (some ad702) l0_1.length c0_1) ∧ w'.cell? ⟨gb687, 2, none⟩ = some (.slice A0_2 l0_2.length c0_2) ∧ w'.cell? ⟨gb703, 0, none⟩ = some (.int .i64 ((rd_T39 l0_1 (ji37)).f0)) ∧ w'.cell? ⟨gb703, 1, none⟩ = some (.int .i64 ((rd_T39 l0_1 (ji37)).f1))) (ds := []) #[false, false, false, false, false, false, false, false, false, false, false, false, false, false, false, false] (by kernel_rfl) rfl rfl ⟨(blk_cell BK687.out 0).trans rfl, (blk_cell BK687.out 1).trans rfl, (blk_cell BK687.out 2).trans rfl, (blk_cell BK703.out 0).trans rfl, (blk_cell BK703.out 1).trans rfl⟩ (fun hHeld => ?_); refine with_tabW ductuslaw27_SwapSome.tab18 ductuslaw27_SwapSome.bits18 (fun HT_ HW_ => ?_)
              generalize w54.drew = w55 at HO706 BK687 BK703 HB HR713 hHeld ⊢
              refine pure_ (i := 0) (N := some 82) (v := ?_) (a' := ?_) #[true, false, false, false, false, false, false, false, false, false, false, false, false, false, false, false] rfl rfl (any_of HT_.out (by kernel_rfl)) (fun _ _ _ h => h) (Or.inl ⟨by rfl, ?_⟩) ?_ ?_
              rotate_left
              · intro w'
                go_simp
                with_reducible rfl
              rotate_left
              · simp only [Act.put, List.setIfInBounds_toArray, List.set_cons_zero, List.set_cons_succ, i64_w, i32_w]
                rfl
              refine pure_ (i := 4) (N := some 86) (v := ?_) (a' := ?_) #[true, false, false, false, true, false, false, false, false, false, false, false, false, false, false, false] rfl rfl (any_of HT_.out (by kernel_rfl)) (fun _ _ _ h => h) (Or.inl ⟨by rfl, ?_⟩) ?_ ?_
              rotate_left
              · intro w'
                go_simp
                with_reducible rfl
              rotate_left
              · simp only [Act.put, List.setIfInBounds_toArray, List.set_cons_zero, List.set_cons_succ, i64_w, i32_w]
                rfl
              refine pure_ (i := 5) (N := some 87) (v := ?_) (a' := ?_) #[true, false, false, false, true, true, false, false, false, false, false, false, false, false, false, false] rfl rfl (any_of HT_.out (by kernel_rfl)) (fun _ _ _ h => h) (Or.inl ⟨by rfl, ?_⟩) ?_ ?_
              rotate_left
              · intro w'
                go_simp
                with_reducible rfl
              rotate_left
              · simp only [Act.put, List.setIfInBounds_toArray, List.set_cons_zero, List.set_cons_succ, i64_w, i32_w]
                rfl
              refine pure_ (i := 7) (N := some 89) (v := ?_) (a' := ?_) #[true, false, false, false, true, true, false, true, false, false, false, false, false, false, false, false] rfl rfl (any_of HT_.out (by kernel_rfl)) (fun _ _ _ h => h) (Or.inl ⟨by rfl, ?_⟩) ?_ ?_
              rotate_left
              · intro w'
                go_simp
                with_reducible rfl
              rotate_left
              · simp only [Act.put, List.setIfInBounds_toArray, List.set_cons_zero, List.set_cons_succ, i64_w, i32_w]
                rfl
              refine take_ (i := 1) (N := some 83) (v := ?_) (a' := ?_) #[true, true, false, false, true, true, false, true, false, false, false, false, false, false, false, false] rfl rfl (take_ofW HT_.out HW_.out (by kernel_rfl)) (fun _ _ _ h => h) (Or.inl ⟨by rfl, ?_⟩) hHeld ?_ ?_
              rotate_left
              · rintro w' ⟨s0, s1, s2, s3, s4⟩
                go_simp
                with_reducible rfl
              rotate_left
              · simp only [Act.put, List.setIfInBounds_toArray, List.set_cons_zero, List.set_cons_succ, i64_w, i32_w]
                rfl
              refine take_ (i := 2) (N := some 84) (v := ?_) (a' := ?_) #[true, true, true, false, true, true, false, true, false, false, false, false, false, false, false, false] rfl rfl (take_ofW HT_.out HW_.out (by kernel_rfl)) (fun _ _ _ h => h) (Or.inl ⟨by rfl, ?_⟩) hHeld ?_ ?_
              rotate_left
              · rintro w' ⟨s0, s1, s2, s3, s4⟩
                go_simp
                with_reducible rfl
              rotate_left
              · simp only [Act.put, List.setIfInBounds_toArray, List.set_cons_zero, List.set_cons_succ, i64_w, i32_w]
                rfl
              refine take_ (i := 6) (N := some 88) (v := ?_) (a' := ?_) #[true, true, true, false, true, true, true, true, false, false, false, false, false, false, false, false] rfl rfl (take_ofW HT_.out HW_.out (by kernel_rfl)) (fun _ _ _ h => h) (Or.inl ⟨by rfl, ?_⟩) hHeld ?_ ?_
              rotate_left
              · rintro w' ⟨s0, s1, s2, s3, s4⟩
                go_simp
                with_reducible rfl
              rotate_left
              · simp only [Act.put, List.setIfInBounds_toArray, List.set_cons_zero, List.set_cons_succ, i64_w, i32_w]
                rfl
              refine take_ (i := 8) (N := some 90) (v := ?_) (a' := ?_) #[true, true, true, false, true, true, true, true, true, false, false, false, false, false, false, false] rfl rfl (take_ofW HT_.out HW_.out (by kernel_rfl)) (fun _ _ _ h => h) (Or.inl ⟨by rfl, ?_⟩) hHeld ?_ ?_
              rotate_left
              · rintro w' ⟨s0, s1, s2, s3, s4⟩
                go_simp
                with_reducible rfl
              rotate_left
              · simp only [Act.put, List.setIfInBounds_toArray, List.set_cons_zero, List.set_cons_succ, i64_w, i32_w]
                rfl
              refine pure_ (i := 9) (N := some 91) (v := ?_) (a' := ?_) #[true, true, true, false, true, true, true, true, true, true, false, false, false, false, false, false] rfl rfl (any_of HT_.out (by kernel_rfl)) (fun _ _ _ h => h) (Or.inl ⟨by rfl, ?_⟩) ?_ ?_
              rotate_left
              · intro w'
                go_simp
                with_reducible rfl
              rotate_left
              · simp only [Act.put, List.setIfInBounds_toArray, List.set_cons_zero, List.set_cons_succ, i64_w, i32_w]
                rfl
              refine one_ (i := 3) (N := some 85) #[true, true, true, true, true, true, true, true, true, true, false, false, false, false, false, false] rfl rfl (one_of HT_.out (by kernel_rfl)) (by decide) (fun K hK => ?_)
              refine Kd.R_lit_step k39 _ 39 ?hg (N := 85) ?hd (xs := ([(⟨(rd_T39 l0_1 (ji37)).f0, (rd_T39 l0_1 (ji37)).f1⟩ : S39)] : List (S39))) (inner := [.int .i64 ((rd_T39 l0_1 (ji37)).f0), .int .i64 ((rd_T39 l0_1 (ji37)).f1)]) (ok := fun _ => True) (okp := fun _ => True) ?hr ?hp (fun _ hk => hk) trivial (Below.refl _ _) (Nat.le_refl _) (by simp) ?_; (case hd => rfl); (case hg => rfl); (case hr => first | (go_simp; done) | (go_simp; rfl)); (case hp => exact (Reps.c2 (show Kd.M k39 _ _ _ (⟨(rd_T39 l0_1 (ji37)).f0, (rd_T39 l0_1 (ji37)).f1⟩ : S39) [.int .i64 ((rd_T39 l0_1 (ji37)).f0), .int .i64 ((rd_T39 l0_1 (ji37)).f1)] from (k39_mkM _ _ _ (⟨(rd_T39 l0_1 (ji37)).f0, (rd_T39 l0_1 (ji37)).f1⟩ : S39) )) (Reps.none _ _)))
              intro v708 w58 ho59 hb hg_ hnew_
              clear hg_ hnew_
              (first | rw [← Ny707.out] at ho59 | (simp only [Int.reduceToNat] at ho59; rw [← Ny707.out] at ho59))
              have n0_ := Aside0.mk (Kd.R_below (by (with_reducible repeat (first | apply Kd.R_alloc | apply Kd.R_drewN | apply Kd.R_drew)); exact HO706.out) hb)
              have n1_ := Aside0.mk (Kd.R_lower (Kd.R_newB ho59 (g := gb703) (o := .cells #[.int .i64 ((rd_T39 l0_1 (ji37)).f0), .int .i64 ((rd_T39 l0_1 (ji37)).f1)] 39 (0, 0)) (by (with_reducible repeat (first | refine blk_drewN ?_ _ | refine blk_drew ?_ | refine blk_alloc ?_ _)); exact BK703.out)) (below_size (by repeat (first | (with_reducible first | exact HB.out | apply below_alloc | apply pw_below_drewN | apply below_drew1 | refine below_set ?_ GE687.out | refine below_set ?_ GE703.out) | exact HB.out))))
              have n2_ := Aside0.mk (blk_below (g := gb687) (o := .cells #[.slice A0_0 l0_0.length c0_0, .slice (some ad702) l0_1.length c0_1, .slice A0_2 l0_2.length c0_2] 25 (0, 0)) (by (with_reducible repeat (first | refine blk_drewN ?_ _ | refine blk_drew ?_ | refine blk_alloc ?_ _)); exact BK687.out) hb)
              have n3_ := Aside0.mk (blk_below (g := gb703) (o := .cells #[.int .i64 ((rd_T39 l0_1 (ji37)).f0), .int .i64 ((rd_T39 l0_1 (ji37)).f1)] 39 (0, 0)) (by (with_reducible repeat (first | refine blk_drewN ?_ _ | refine blk_drew ?_ | refine blk_alloc ?_ _)); exact BK703.out) hb)
              have n4_ := Aside0.mk (Kd.C_below (by repeat (first | (with_reducible exact HR713.out) | (with_reducible refine Kd.C_alloc ?_ _) | (with_reducible refine Kd.C_drewN ?_ _) | (with_reducible refine Kd.C_drew ?_) | exact HR713.out)) hb)
              have n5_ := Aside0.mk (below_step (by repeat (first | (with_reducible first | exact HB.out | apply below_alloc | apply pw_below_drewN | apply below_drew1 | refine below_set ?_ GE687.out | refine below_set ?_ GE703.out) | exact HB.out)) hb)
              clear HO706
              clear BK687
              clear BK703
              clear HR713
              clear HB
              have HO706 := n0_
              have HO709 := n1_
              have BK687 := n2_
              have BK703 := n3_
              have HR713 := n4_
              have HB := n5_
              clear n0_ n1_ n2_ n3_ n4_ n5_
              clear hb ho59
              obtain ⟨Ao60, co60, eo60⟩ := Kd.R_slice HO709.out
              (first | subst eo60 | (injection eo60 with f1_ f2_ f3_; have f4_ := f1_.symm; have f5_ := f3_.symm; clear f1_ f2_ f3_; subst f4_; subst f5_))
              refine hK.out _ _ ⟨(blk_cell BK687.out 0).trans rfl, (blk_cell BK687.out 1).trans rfl, (blk_cell BK687.out 2).trans rfl, (blk_cell BK703.out 0).trans rfl, (blk_cell BK703.out 1).trans rfl⟩ (fun hHeld => ?_)
              clear hK K
              refine norm_ (a' := ?_) ?_ ?_
              rotate_left
              · show Act.put _ (some 85) _ = _
                simp only [Act.put, List.setIfInBounds_toArray, List.set_cons_zero, List.set_cons_succ, i64_w, i32_w]
                rfl
              refine one_ (i := 10) (N := some 92) #[true, true, true, true, true, true, true, true, true, true, true, false, false, false, false, false] rfl rfl (one_of HT_.out (by kernel_rfl)) (by decide) (fun K hK => ?_)
              refine goes_ Try.func10 (by kernel_rfl) rfl #[.slice A0_0 l0_0.length c0_0, .slice Ao60 y707.length co60, .slice A56 y710.length c56] (by rfl) rfl rfl (by (try simp only [List.map_toArray, List.map_cons, List.map_nil]); first | done | rfl | (simp only [List.length_drop, List.length_take]; rfl)) ?_
              with_reducible refine (swap_All.calls kj31 _ _ l0_0 _ _ y707 _ _ y710 t714 t715 _ ?side1 ?side2 ?side3 ?side4 ?side5 ?side6 A44.out).mono ?_
              (case side1 => repeat (first | exact (Kd.C_below HR0_0.out HB.out) | (with_reducible refine Kd.C_alloc ?_ _) | (with_reducible refine Kd.C_drewN ?_ _) | (with_reducible refine Kd.C_drew ?_)))
              (case side2 => exact HC0_0.out)
              (case side3 => repeat (first | exact (Kd.R_reads' HO709.out).2.2 | (with_reducible refine Kd.C_alloc ?_ _) | (with_reducible refine Kd.C_drewN ?_ _) | (with_reducible refine Kd.C_drew ?_)))
              (case side4 => exact (Kd.R_reads' HO709.out).2.1)
              (case side5 => repeat (first | exact (by repeat (first | (with_reducible exact HR713.out) | (with_reducible refine Kd.C_alloc ?_ _) | (with_reducible refine Kd.C_drewN ?_ _) | (with_reducible refine Kd.C_drew ?_) | exact HR713.out)) | (with_reducible refine Kd.C_alloc ?_ _) | (with_reducible refine Kd.C_drewN ?_ _) | (with_reducible refine Kd.C_drew ?_)))
              (case side6 => exact HC713.out)
              rintro e w61 ⟨v716, rfl, ho0, hb⟩
              refine ⟨_, rfl, ?_⟩
              have n0_ := Aside0.mk (Kd.R_elder' (by (with_reducible repeat (first | apply Kd.R_alloc | apply Kd.R_drewN | apply Kd.R_drew)); exact HO706.out) (Kd.R_base ho0) hb)
              have n1_ := Aside0.mk (Kd.R_below (by (with_reducible repeat (first | apply Kd.R_alloc | apply Kd.R_drewN | apply Kd.R_drew)); exact HO709.out) hb)
              have n2_ := Aside0.mk (Kd.R_lower (Kd.R_new' ho0 (Kd.R_lt (by (with_reducible repeat (first | apply Kd.R_alloc | apply Kd.R_drewN | apply Kd.R_drew)); exact HO706.out))) (below_size (by repeat (first | (with_reducible first | exact HB.out | apply below_alloc | apply pw_below_drewN | apply below_drew1 | refine below_set ?_ GE687.out | refine below_set ?_ GE703.out) | exact HB.out))))
              have n3_ := Aside0.mk (blk_below (g := gb687) (o := .cells #[.slice A0_0 l0_0.length c0_0, .slice (some ad702) l0_1.length c0_1, .slice A0_2 l0_2.length c0_2] 25 (0, 0)) (by (with_reducible repeat (first | refine blk_drewN ?_ _ | refine blk_drew ?_ | refine blk_alloc ?_ _)); exact BK687.out) hb)
              have n4_ := Aside0.mk (blk_below (g := gb703) (o := .cells #[.int .i64 ((rd_T39 l0_1 (ji37)).f0), .int .i64 ((rd_T39 l0_1 (ji37)).f1)] 39 (0, 0)) (by (with_reducible repeat (first | refine blk_drewN ?_ _ | refine blk_drew ?_ | refine blk_alloc ?_ _)); exact BK703.out) hb)
              have n5_ := Aside0.mk (Kd.C_below (by repeat (first | (with_reducible exact HR713.out) | (with_reducible refine Kd.C_alloc ?_ _) | (with_reducible refine Kd.C_drewN ?_ _) | (with_reducible refine Kd.C_drew ?_) | exact HR713.out)) hb)
              have n6_ := Aside0.mk (below_step (by repeat (first | (with_reducible first | exact HB.out | apply below_alloc | apply pw_below_drewN | apply below_drew1 | refine below_set ?_ GE687.out | refine below_set ?_ GE703.out) | exact HB.out)) hb)
              clear HO706
              clear HO709
              clear BK687
              clear BK703
              clear HR713
              clear HB
              have HO706 := n0_
              have HO709 := n1_
              have HO717 := n2_
              have BK687 := n3_
              have BK703 := n4_
              have HR713 := n5_
              have HB := n6_
              clear n0_ n1_ n2_ n3_ n4_ n5_ n6_
              (try clear hb)
              (try clear hb2)
              (try clear hk)
              (try clear hi)
              (try clear ho0)
              refine hK.out _ _ ⟨(blk_cell BK687.out 0).trans rfl, (blk_cell BK687.out 1).trans rfl, (blk_cell BK687.out 2).trans rfl, (blk_cell BK703.out 0).trans rfl, (blk_cell BK703.out 1).trans rfl⟩ (fun hHeld => ?_)
              clear hK K
              refine norm_ (a' := ?_) ?_ ?_
              rotate_left
              · show Act.put _ (some 92) _ = _
                simp only [Act.put, List.setIfInBounds_toArray, List.set_cons_zero, List.set_cons_succ, i64_w, i32_w]
                rfl
              refine pure_ (i := 11) (N := some 81) (v := ?_) (a' := ?_) #[true, true, true, true, true, true, true, true, true, true, true, true, false, false, false, false] rfl rfl (any_of HT_.out (by kernel_rfl)) (fun _ _ _ h => h) (Or.inl ⟨by rfl, ?_⟩) ?_ ?_
              rotate_left
              · intro w'
                go_simp
                with_reducible rfl
              rotate_left
              · simp only [Act.put, List.setIfInBounds_toArray, List.set_cons_zero, List.set_cons_succ, i64_w, i32_w]
                rfl
              refine pure_ (i := 12) (N := some 93) (v := ?_) (a' := ?_) #[true, true, true, true, true, true, true, true, true, true, true, true, true, false, false, false] rfl rfl (any_of HT_.out (by kernel_rfl)) (fun _ _ _ h => h) (Or.inl ⟨by rfl, ?_⟩) ?_ ?_
              rotate_left
              · intro w'
                go_simp
                with_reducible rfl
              rotate_left
              · simp only [Act.put, List.setIfInBounds_toArray, List.set_cons_zero, List.set_cons_succ, i64_w, i32_w]
                rfl
              refine pure_ (i := 13) (N := some 94) (v := ?_) (a' := ?_) #[true, true, true, true, true, true, true, true, true, true, true, true, true, true, false, false] rfl rfl (any_of HT_.out (by kernel_rfl)) (fun _ _ _ h => h) (Or.inl ⟨by rfl, ?_⟩) ?_ ?_
              rotate_left
              · intro w'
                go_simp
                with_reducible rfl
              rotate_left
              · simp only [Act.put, List.setIfInBounds_toArray, List.set_cons_zero, List.set_cons_succ, i64_w, i32_w]
                rfl
              refine pure_ (i := 14) (N := some 13) (v := ?_) (a' := ?_) #[true, true, true, true, true, true, true, true, true, true, true, true, true, true, true, false] rfl rfl (any_of HT_.out (by kernel_rfl)) (fun _ _ _ h => h) (Or.inl ⟨by rfl, ?_⟩) ?_ ?_
              rotate_left
              · intro w'
                go_simp
                with_reducible rfl
              rotate_left
              · simp only [Act.put, List.setIfInBounds_toArray, List.set_cons_zero, List.set_cons_succ, i64_w, i32_w]
                rfl
              refine pure_ (i := 15) (N := some 14) (v := ?_) (a' := ?_) #[true, true, true, true, true, true, true, true, true, true, true, true, true, true, true, true] rfl rfl (any_of HT_.out (by kernel_rfl)) (fun _ _ _ h => h) (Or.inl ⟨by rfl, ?_⟩) ?_ ?_
              rotate_left
              · intro w'
                go_simp
                with_reducible rfl
              rotate_left
              · simp only [Act.put, List.setIfInBounds_toArray, List.set_cons_zero, List.set_cons_succ, i64_w, i32_w]
                rfl
              refine done_ (done_of HT_.out (by kernel_rfl)) ?_
              obtain ⟨Ao62, co62, eo62⟩ := Kd.R_slice HO717.out
              subst eo62
              try go_wp2_with (first | (go_at_call 18; (with_reducible refine (ductusref27_Plain.calls kj31 _ _ t714 t718 _ ?side1 ?side2 A46.out).mono ?_); (case side1 => repeat (first | exact (Kd.R_reads' HO717.out).2.2 | (with_reducible refine Kd.C_alloc ?_ _) | (with_reducible refine Kd.C_drewN ?_ _) | (with_reducible refine Kd.C_drew ?_))); (case side2 => exact (Kd.R_reads' HO717.out).2.1); rintro e w63 ⟨v719, rfl, ho0, hb⟩; have n0_ := Aside0.mk (Kd.R_elder' (by (with_reducible repeat (first | apply Kd.R_alloc | apply Kd.R_drewN | apply Kd.R_drew)); exact HO706.out) (Kd.R_base ho0) hb); have n1_ := Aside0.mk (Kd.R_below (by (with_reducible repeat (first | apply Kd.R_alloc | apply Kd.R_drewN | apply Kd.R_drew)); exact HO709.out) hb); have n2_ := Aside0.mk (Kd.R_elder' (by (with_reducible repeat (first | apply Kd.R_alloc | apply Kd.R_drewN | apply Kd.R_drew)); exact HO717.out) (Kd.R_base ho0) hb); have n3_ := Aside0.mk (Kd.R_lower (Kd.R_new' (Kd.R_new' ho0 (Kd.R_lt (by (with_reducible repeat (first | apply Kd.R_alloc | apply Kd.R_drewN | apply Kd.R_drew)); exact HO706.out))) (Kd.R_lt (by (with_reducible repeat (first | apply Kd.R_alloc | apply Kd.R_drewN | apply Kd.R_drew)); exact HO717.out))) (below_size (by repeat (first | (with_reducible first | exact HB.out | apply below_alloc | apply pw_below_drewN | apply below_drew1 | refine below_set ?_ GE687.out | refine below_set ?_ GE703.out) | exact HB.out)))); have n4_ := Aside0.mk (blk_below (g := gb687) (o := .cells #[.slice A0_0 l0_0.length c0_0, .slice (some ad702) l0_1.length c0_1, .slice A0_2 l0_2.length c0_2] 25 (0, 0)) (by (with_reducible repeat (first | refine blk_drewN ?_ _ | refine blk_drew ?_ | refine blk_alloc ?_ _)); exact BK687.out) hb); have n5_ := Aside0.mk (blk_below (g := gb703) (o := .cells #[.int .i64 ((rd_T39 l0_1 (ji37)).f0), .int .i64 ((rd_T39 l0_1 (ji37)).f1)] 39 (0, 0)) (by (with_reducible repeat (first | refine blk_drewN ?_ _ | refine blk_drew ?_ | refine blk_alloc ?_ _)); exact BK703.out) hb); have n6_ := Aside0.mk (Kd.C_below (by repeat (first | (with_reducible exact HR713.out) | (with_reducible refine Kd.C_alloc ?_ _) | (with_reducible refine Kd.C_drewN ?_ _) | (with_reducible refine Kd.C_drew ?_) | exact HR713.out)) hb); have n7_ := Aside0.mk (below_step (by repeat (first | (with_reducible first | exact HB.out | apply below_alloc | apply pw_below_drewN | apply below_drew1 | refine below_set ?_ GE687.out | refine below_set ?_ GE703.out) | exact HB.out)) hb); clear HO706; clear HO709; clear HO717; clear BK687; clear BK703; clear HR713; clear HB; have HO706 := n0_; have HO709 := n1_; have HO717 := n2_; have HO720 := n3_; have BK687 := n4_; have BK703 := n5_; have HR713 := n6_; have HB := n7_; clear n0_ n1_ n2_ n3_ n4_ n5_ n6_ n7_; (try clear hb); (try clear hb2); (try clear hk); (try clear hi); (try clear ho0); obtain ⟨Ao64, co64, eo64⟩ := Kd.R_slice HO720.out; subst eo64) | (go_at_call 16; (with_reducible refine (ductusref01_Ints.calls kj31 _ _ t718 _ _ t704 t721 _ ?side1 ?side2 ?side3 ?side4 A47.out).mono ?_); (case side1 => repeat (first | exact (Kd.R_reads' HO720.out).2.2 | (with_reducible refine Kd.C_alloc ?_ _) | (with_reducible refine Kd.C_drewN ?_ _) | (with_reducible refine Kd.C_drew ?_))); (case side2 => exact (Kd.R_reads' HO720.out).2.1); (case side3 => repeat (first | exact (Kd.R_reads' HO706.out).2.2 | (with_reducible refine Kd.C_alloc ?_ _) | (with_reducible refine Kd.C_drewN ?_ _) | (with_reducible refine Kd.C_drew ?_))); (case side4 => exact (Kd.R_reads' HO706.out).2.1); rintro e w' ⟨rfl, ⟨nd, rfl⟩⟩))
              go_ret
              exact ⟨by first | rfl | (simp [errW_none, errW_some] <;> rfl) | (simp only [← hji37]; first | rfl | (simp [errW_none, errW_some] <;> rfl)) | (simp [*, errW_none, errW_some] <;> rfl), by repeat (first | (with_reducible first | exact HB.out | apply below_alloc | apply pw_below_drewN | apply below_drew1 | refine below_set ?_ GE687.out | refine below_set ?_ GE703.out) | exact HB.out)⟩

end Go.Proofs.Ythgmkbghdobmlaa.P
namespace Go.Proofs.Ythgmkbghdobmlaa.P
open Go.RowKit Go.Proofs.YthgmkbghdobmlaaW.PrintWords Go.Proofs.YthgmkbghdobmlaaW.PrintLast Go.Proofs.YthgmkbghdobmlaaW.PrintMore
attribute [local go_sem] max2_int min2_int max_two min_two max_three min_three max_four min_four   -- for this text's walks alone
set_option linter.unusedVariables false
set_option linter.unusedSimpArgs false

end Go.Proofs.Ythgmkbghdobmlaa.P

