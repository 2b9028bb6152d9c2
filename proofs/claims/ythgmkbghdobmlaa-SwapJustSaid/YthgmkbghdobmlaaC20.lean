/- Texts of this claim put together by a program of its own (Px19), what the law does not use left out: each part's statements bear their own conditions. -/
import Derived.Test.YthgmkbghdobmlaaC11
import Derived.Test.YthgmkbghdobmlaaC16
import Derived.Test.YthgmkbghdobmlaaC17
import Derived.Test.YthgmkbghdobmlaaC19
import Derived.Test.YthgmkbghdobmlaaC15
namespace Go.Proofs.Ythgmkbghdobmlaa.P
open Go.RowKit Go.Proofs.YthgmkbghdobmlaaW.PrintWords Go.Proofs.YthgmkbghdobmlaaW.PrintLast Go.Proofs.YthgmkbghdobmlaaW.PrintMore
attribute [local go_sem] min2_int min_two
set_option linter.unusedVariables false
set_option linter.unusedSimpArgs false

mutual
def ductuslaw27_SwapJust.j0 : Nat → List Int → Bool → List Int → List (S39) → List Int → Option (Bool)
  | 0, _, _, _, _, _ => none
  | k + 1, x1, x24, x564000, x564001, x564002 => if x24 = true then (some true) else (ductuslaw27_SwapJust.l0 k x1 ([] : List Int) ([] : List (S39)) 0 x564000 x564001 x564002)
def ductuslaw27_SwapJust.l0 : Nat → List Int → List Int → List (S39) → Int → List Int → List (S39) → List Int → Option (Bool)
  | 0, _, _, _, _, _, _, _ => none
  | k + 1, x1, x5, x6, x7, x564000, x564001, x564002 => if x7 < (x564001.length : Int) then (ductuslaw27_SwapJust.l1 k x1 x5 x6 x7 0 x564000 x564001 x564002) else ((swap_Some.f k x564000 x564001 x5 x564002).bind fun bt580 => (if bt580.2 = 0 then ((ductusref27_Plain.f k x564000).bind fun t584 => ((ductusref27_Plain.f k x564002).bind fun t587 => ((ductusref22_Right.f k x6 (t584.length : Int)).bind fun t590 => (if t590 = true then (ductuslaw27_SwapJust.l2 k x6 bt580.1 t584 t587 ([] : List Int) 0 0) else (none))))) else (some ((bt580.1.length : Int) == 0))))
def ductuslaw27_SwapJust.l1 : Nat → List Int → List Int → List (S39) → Int → Int → List Int → List (S39) → List Int → Option (Bool)
  | 0, _, _, _, _, _, _, _, _ => none
  | k + 1, x1, x5, x6, x7, x8, x564000, x564001, x564002 => if x8 < (x1.length : Int) then (if 0 ≤ x8 then (if (wrap64 (rd x1 x8)) = x7 then ((some (([x7] : List Int) : List Int)).bind fun y567 => (if x5.length + y567.length < 17592186044416 then (if 0 ≤ x7 then (if x7 < (x564001.length : Int) then ((some (([(⟨(rd_T39 x564001 x7).f0, (rd_T39 x564001 x7).f1⟩ : S39)] : List (S39)) : List (S39))).bind fun y574 => (if x6.length + y574.length < 8796093022208 then (ductuslaw27_SwapJust.l0 k x1 (x5 ++ y567) (x6 ++ y574) (wrap64 (x7 + 1)) x564000 x564001 x564002) else (none))) else (none)) else (none)) else (none))) else (ductuslaw27_SwapJust.l1 k x1 x5 x6 x7 (wrap64 (x8 + 1)) x564000 x564001 x564002)) else (none)) else (ductuslaw27_SwapJust.l0 k x1 x5 x6 (wrap64 (x7 + 1)) x564000 x564001 x564002)
def ductuslaw27_SwapJust.l2 : Nat → List (S39) → List Int → List Int → List Int → List Int → Int → Int → Option (Bool)
  | 0, _, _, _, _, _, _, _ => none
  | k + 1, x6, x9, x11, x12, x13, x14, x15 => if x15 < (x6.length : Int) then (if 0 ≤ x15 then (if 0 ≤ x14 then (if x14 ≤ ((rd_T39 x6 x15).f0) then (if ((rd_T39 x6 x15).f0) ≤ (x11.length : Int) then ((some ((x11.take (((rd_T39 x6 x15).f0) : Int).toNat).drop (x14 : Int).toNat : List Int)).bind fun y592 => (if x13.length + y592.length < 17592186044416 then ((some (x13 ++ y592 : List Int)).bind fun y596 => (if y596.length + x12.length < 17592186044416 then (ductuslaw27_SwapJust.l2 k x6 x9 x11 x12 (y596 ++ x12) ((rd_T39 x6 x15).f1) (wrap64 (x15 + 1))) else (none))) else (none))) else (none)) else (none)) else (none)) else (none)) else (if 0 ≤ x14 then (if x14 ≤ (x11.length : Int) then ((some (x11.drop (x14 : Int).toNat : List Int)).bind fun y603 => (if x13.length + y603.length < 17592186044416 then ((ductusref27_Plain.f k x9).bind fun t610 => ((ductusref01_Ints.f k t610 (x13 ++ y603)).bind fun t613 => (some t613))) else (none))) else (none)) else (none))
end
def ductuslaw27_SwapJust.f (k : Nat) (l0_0 : List Int) (l0_1 : List (S39)) (l0_2 : List Int) (l1 : List Int) : Option (Bool) := (ductuslaw27_alive.f k).bind fun t564 => (if t564 = true then ((ductuslaw27_great.f l0_0 l0_1 l0_2).bind fun t565 => (if t565 = true then (ductuslaw27_SwapJust.j0 k l1 true l0_0 l0_1 l0_2) else (ductuslaw27_SwapJust.j0 k l1 (decide ((l1.length : Int) > 500)) l0_0 l0_1 l0_2))) else (none))
def ductuslaw27_SwapJust.T14 : Bool × List (List Nat × List Nat) := (true, [([], []), ([], []), ([1], [1]), ([0, 2], [0, 2]), ([], []), ([], []), ([5], [5]), ([], []), ([6, 7], [6, 7]), ([8], [8]), ([9], [9]), ([4, 10, 3], [4, 10]), ([3, 11, 0, 1, 2, 3], [0, 3]), ([11, 12, 0, 1, 2, 3, 4, 5, 6, 7, 8, 9, 10, 11, 12], [4, 11])])
def ductuslaw27_SwapJust.B14 : List Nat := [0, 0, 2, 7, 0, 0, 32, 0, 224, 480, 992, 2047, 4095, 8191]
theorem ductuslaw27_SwapJust.tab14 : rtab .any (opsOf Try.f4 14) = ductuslaw27_SwapJust.T14 := by kernel_rfl
theorem ductuslaw27_SwapJust.bits14 : waitsOk ductuslaw27_SwapJust.T14.2 ductuslaw27_SwapJust.B14 = true := by kernel_rfl
def ductuslaw27_SwapJust.T18 : Bool × List (List Nat × List Nat) := (true, [([], []), ([0], [0]), ([1], [1]), ([], []), ([3], [3]), ([4, 2], [4]), ([2, 5, 0, 1, 2], [2]), ([5, 6, 0, 1, 2, 3, 4, 5, 6], [5])])
def ductuslaw27_SwapJust.B18 : List Nat := [0, 1, 3, 0, 8, 31, 63, 127]
theorem ductuslaw27_SwapJust.tab18 : rtab .any (opsOf Try.f4 18) = ductuslaw27_SwapJust.T18 := by kernel_rfl
theorem ductuslaw27_SwapJust.bits18 : waitsOk ductuslaw27_SwapJust.T18.2 ductuslaw27_SwapJust.B18 = true := by kernel_rfl
set_option maxHeartbeats 8000000 in
set_option maxRecDepth 100000 in
theorem ductuslaw27_SwapJust.calls (k : Nat) (A0_0 : Option Addr) (c0_0 : Nat) (l0_0 : List Int) (A0_1 : Option Addr) (c0_1 : Nat) (l0_1 : List (S39)) (A0_2 : Option Addr) (c0_2 : Nat) (l0_2 : List Int) (A1 : Option Addr) (c1 : Nat) (l1 : List Int) (r : Bool) (w : World) (hr0_0 : Kd.C (Kd.int .i64) w A0_0 l0_0.length l0_0) (hc0_0 : l0_0.length ≤ c0_0) (hr0_1 : Kd.C k39 w A0_1 l0_1.length l0_1) (hc0_1 : l0_1.length ≤ c0_1) (hr0_2 : Kd.C (Kd.int .i64) w A0_2 l0_2.length l0_2) (hc0_2 : l0_2.length ≤ c0_2) (hr1 : Kd.C (Kd.int .u8) w A1 l1.length l1) (hc1 : l1.length ≤ c1) (h : ductuslaw27_SwapJust.f k l0_0 l0_1 l0_2 l1 = some r) :
    Calls Try.prog 4 #[.agg #[.slice A0_0 l0_0.length c0_0, .slice A0_1 l0_1.length c0_1, .slice A0_2 l0_2.length c0_2], .slice A1 l1.length c1] w fun e w' => e = .returned (.bool r) ∧ Below w.heap.size w w' := by
  have hu25 := Try.underlying25
  have hu39 := Try.underlying39
  have HR0_0 := Aside0.mk hr0_0
  have HC0_0 := Aside0.mk hc0_0
  clear hr0_0 hc0_0
  have HR0_1 := Aside0.mk hr0_1
  have HC0_1 := Aside0.mk hc0_1
  clear hr0_1 hc0_1
  have HR0_2 := Aside0.mk hr0_2
  have HC0_2 := Aside0.mk hc0_2
  clear hr0_2 hc0_2
  have HR1 := Aside0.mk hr1
  have HC1 := Aside0.mk hc1
  clear hr1 hc1
  have HB := Aside0.mk (Below.refl w.heap.size w)
  have H : ((ductuslaw27_alive.f k).bind fun t564 => (if t564 = true then ((ductuslaw27_great.f l0_0 l0_1 l0_2).bind fun t565 => (if t565 = true then (ductuslaw27_SwapJust.j0 k l1 true l0_0 l0_1 l0_2) else (ductuslaw27_SwapJust.j0 k l1 (decide ((l1.length : Int) > 500)) l0_0 l0_1 l0_2))) else (none))) = some r := h
  clear h
  replace H := Option.bind_eq_some_iff.mp H
  obtain ⟨t564, A30, H⟩ := H
  replace H : (if t564 = true then ((ductuslaw27_great.f l0_0 l0_1 l0_2).bind fun t565 => (if t565 = true then (ductuslaw27_SwapJust.j0 k l1 true l0_0 l0_1 l0_2) else (ductuslaw27_SwapJust.j0 k l1 (decide ((l1.length : Int) > 500)) l0_0 l0_1 l0_2))) else (none)) = some r := H
  have A3 := Aside0.mk A30
  clear A30
  by_cases c4 : t564 = true
  rotate_left
  · replace c4 := Bool.eq_false_iff.mpr c4
    subst c4
    have H1 : (none) = some r := by rw [if_neg (show ¬ (false = true) by decide)] at H; exact H
    clear H
    have H := H1
    clear H1
    exact absurd H (by simp)
  subst c4
  have H1 : ((ductuslaw27_great.f l0_0 l0_1 l0_2).bind fun t565 => (if t565 = true then (ductuslaw27_SwapJust.j0 k l1 true l0_0 l0_1 l0_2) else (ductuslaw27_SwapJust.j0 k l1 (decide ((l1.length : Int) > 500)) l0_0 l0_1 l0_2))) = some r := by rw [if_pos rfl] at H; exact H
  clear H
  have H := H1
  clear H1
  have HC5 := Aside0.mk H
  clear H
  go_enter Try.func4, Try.ntmps4
  go_upto_region 3 with (first | ((with_reducible refine gate_dst (N := 2) rfl ?_); (try (refine gate_guard (by rfl) ?_; dsimp only)); refine box_event ?hg (N := 2) ?hd (cs := #[.slice A0_0 l0_0.length c0_0, .slice A0_1 l0_1.length c0_1, .slice A0_2 l0_2.length c0_2]) (t := 25) ?hr ?_; (case hd => rfl); (case hg => rfl); (case hr => first | (go_simp; done) | (go_simp; rfl)); intro gb563 hg w6 hbox hb; have n0_ := Aside0.mk (below_step (by repeat (first | (with_reducible first | exact HB.out | apply below_alloc | apply pw_below_drewN | apply below_drew1) | exact HB.out)) hb); have n1_ := Aside0.mk (hbox); have n2_ := Aside0.mk ((by rw [hg]; exact (below_size (by repeat (first | (with_reducible first | exact HB.out | apply below_alloc | apply pw_below_drewN | apply below_drew1) | exact HB.out))) : w.heap.size ≤ gb563)); have n3_ := Aside0.mk ((by rw [hg]; exact (below_size (by repeat (first | (with_reducible first | exact HB.out | apply below_alloc | apply pw_below_drewN | apply below_drew1) | exact HB.out))) : w.heap.size ≤ gb563)); clear HB; have HB := n0_; have BK563 := n1_; have GW563 := n2_; have GE563 := n3_; clear n0_ n1_ n2_ n3_; clear hb hbox hg) | ((with_reducible refine gate_callee (f := 8) rfl ?_); refine goesL_ (some 16) rfl rfl Try.func8 (by kernel_rfl) rfl #[] rfl (by (try simp only [List.map_toArray, List.map_cons, List.map_nil]); first | done | rfl | (simp only [List.length_drop, List.length_take]; rfl)) ?_; (with_reducible refine (ductuslaw27_alive.calls k  true _ A3.out).mono ?_); rintro e w7 ⟨rfl, hb⟩; refine ⟨_, rfl, ?_⟩; have n0_ := Aside0.mk (blk_below (g := gb563) (o := .cells #[.slice A0_0 l0_0.length c0_0, .slice A0_1 l0_1.length c0_1, .slice A0_2 l0_2.length c0_2] 25 (0, 0)) (by (with_reducible repeat (first | refine blk_drewN ?_ _ | refine blk_drew ?_ | refine blk_alloc ?_ _)); exact BK563.out) hb); have n1_ := Aside0.mk (below_step (by repeat (first | (with_reducible first | exact HB.out | apply below_alloc | apply pw_below_drewN | apply below_drew1 | refine below_set ?_ GE563.out) | exact HB.out)) hb); clear BK563; clear HB; have BK563 := n0_; have HB := n1_; clear n0_ n1_; (try clear hb); (try clear hb2); (try clear hk); (try clear hi)))
  (try simp only [Act.put, List.setIfInBounds_toArray, List.set_cons_zero, List.set_cons_succ])
  go_cut [24] (fun v24 wc => ∃ (kq : Nat) (x24_4 : Bool), v24 = .bool x24_4 ∧ Aside0 (ductuslaw27_SwapJust.j0 kq l1 x24_4 l0_0 l0_1 l0_2 = some r) ∧ Aside0 (kq ≤ k) ∧ Aside0 (wc.heap[gb563]? = some (.cells #[(.slice A0_0 l0_0.length c0_0), (.slice A0_1 l0_1.length c0_1), (.slice A0_2 l0_2.length c0_2)] 25 (0, 0))) ∧ Aside0 (Below w.heap.size w wc))
  case first =>
    have H := HC5.out
    clear HC5
    replace H := Option.bind_eq_some_iff.mp H
    obtain ⟨t565, A80, H⟩ := H
    replace H : (if t565 = true then (ductuslaw27_SwapJust.j0 k l1 true l0_0 l0_1 l0_2) else (ductuslaw27_SwapJust.j0 k l1 (decide ((l1.length : Int) > 500)) l0_0 l0_1 l0_2)) = some r := H
    have A8 := Aside0.mk A80
    clear A80
    by_cases c9 : t565 = true
    · subst c9
      have H1 : (ductuslaw27_SwapJust.j0 k l1 true l0_0 l0_1 l0_2) = some r := by rw [if_pos rfl] at H; exact H
      clear H
      have H := H1
      clear H1
      have H' := Aside0.mk H
      clear H
      have hcz10_0 : w7.cell? ⟨gb563, 0, none⟩ = some (.slice A0_0 l0_0.length c0_0) := (blk_cell BK563.out 0).trans rfl
      have hcz10_1 : w7.cell? ⟨gb563, 1, none⟩ = some (.slice A0_1 l0_1.length c0_1) := (blk_cell BK563.out 1).trans rfl
      have hcz10_2 : w7.cell? ⟨gb563, 2, none⟩ = some (.slice A0_2 l0_2.length c0_2) := (blk_cell BK563.out 2).trans rfl
      have hfz10_0 := blk_frozen BK563.out 0
      have hfz10_1 := blk_frozen BK563.out 1
      have hfz10_2 := blk_frozen BK563.out 2
      go_wp2_with (first | ((with_reducible refine gate_callee (f := 9) rfl ?_); refine goesL_ (some 19) rfl rfl Try.func9 (by kernel_rfl) rfl #[.agg #[.slice A0_0 l0_0.length c0_0, .slice A0_1 l0_1.length c0_1, .slice A0_2 l0_2.length c0_2]] rfl (by (try simp only [List.map_toArray, List.map_cons, List.map_nil]); first | done | rfl | (simp only [List.length_drop, List.length_take]; rfl)) ?_; (with_reducible refine (ductuslaw27_great.calls _ _ l0_0 _ _ l0_1 _ _ l0_2 true _ ?side1 ?side2 ?side3 ?side4 ?side5 ?side6 A8.out).mono ?_); (case side1 => repeat (first | exact (Kd.C_below HR0_0.out HB.out) | (with_reducible refine Kd.C_alloc ?_ _) | (with_reducible refine Kd.C_drewN ?_ _) | (with_reducible refine Kd.C_drew ?_))); (case side2 => exact HC0_0.out); (case side3 => repeat (first | exact (Kd.C_below HR0_1.out HB.out) | (with_reducible refine Kd.C_alloc ?_ _) | (with_reducible refine Kd.C_drewN ?_ _) | (with_reducible refine Kd.C_drew ?_))); (case side4 => exact HC0_1.out); (case side5 => repeat (first | exact (Kd.C_below HR0_2.out HB.out) | (with_reducible refine Kd.C_alloc ?_ _) | (with_reducible refine Kd.C_drewN ?_ _) | (with_reducible refine Kd.C_drew ?_))); (case side6 => exact HC0_2.out); rintro e w11 ⟨rfl, hb⟩; refine ⟨_, rfl, ?_⟩; have n0_ := Aside0.mk (blk_below (g := gb563) (o := .cells #[.slice A0_0 l0_0.length c0_0, .slice A0_1 l0_1.length c0_1, .slice A0_2 l0_2.length c0_2] 25 (0, 0)) (by (with_reducible repeat (first | refine blk_drewN ?_ _ | refine blk_drew ?_ | refine blk_alloc ?_ _)); exact BK563.out) hb); have n1_ := Aside0.mk (below_step (by repeat (first | (with_reducible first | exact HB.out | apply below_alloc | apply pw_below_drewN | apply below_drew1 | refine below_set ?_ GE563.out) | exact HB.out)) hb); clear BK563; clear HB; have BK563 := n0_; have HB := n1_; clear n0_ n1_; (try clear hb); (try clear hb2); (try clear hk); (try clear hi)))
      go_meet
      case rel => exact ⟨_, (true), (by first | rfl | (simp; done) | (simp [*]; done)), H', ⟨by first | omega | exact Nat.le_refl _⟩, ⟨by (with_reducible repeat (first | refine blk_drewN ?_ _ | refine blk_drew ?_ | refine blk_alloc ?_ _)); exact BK563.out⟩, ⟨by repeat (first | (with_reducible first | exact HB.out | apply below_alloc | apply pw_below_drewN | apply below_drew1 | refine below_set ?_ GE563.out) | exact HB.out)⟩⟩
    replace c9 := Bool.eq_false_iff.mpr c9
    subst c9
    have H1 : (ductuslaw27_SwapJust.j0 k l1 (decide ((l1.length : Int) > 500)) l0_0 l0_1 l0_2) = some r := by rw [if_neg (show ¬ (false = true) by decide)] at H; exact H
    clear H
    have H := H1
    clear H1
    have H' := Aside0.mk H
    clear H
    have hcz12_0 : w7.cell? ⟨gb563, 0, none⟩ = some (.slice A0_0 l0_0.length c0_0) := (blk_cell BK563.out 0).trans rfl
    have hcz12_1 : w7.cell? ⟨gb563, 1, none⟩ = some (.slice A0_1 l0_1.length c0_1) := (blk_cell BK563.out 1).trans rfl
    have hcz12_2 : w7.cell? ⟨gb563, 2, none⟩ = some (.slice A0_2 l0_2.length c0_2) := (blk_cell BK563.out 2).trans rfl
    have hfz12_0 := blk_frozen BK563.out 0
    have hfz12_1 := blk_frozen BK563.out 1
    have hfz12_2 := blk_frozen BK563.out 2
    go_wp2_with (first | ((with_reducible refine gate_callee (f := 9) rfl ?_); refine goesL_ (some 19) rfl rfl Try.func9 (by kernel_rfl) rfl #[.agg #[.slice A0_0 l0_0.length c0_0, .slice A0_1 l0_1.length c0_1, .slice A0_2 l0_2.length c0_2]] rfl (by (try simp only [List.map_toArray, List.map_cons, List.map_nil]); first | done | rfl | (simp only [List.length_drop, List.length_take]; rfl)) ?_; (with_reducible refine (ductuslaw27_great.calls _ _ l0_0 _ _ l0_1 _ _ l0_2 false _ ?side1 ?side2 ?side3 ?side4 ?side5 ?side6 A8.out).mono ?_); (case side1 => repeat (first | exact (Kd.C_below HR0_0.out HB.out) | (with_reducible refine Kd.C_alloc ?_ _) | (with_reducible refine Kd.C_drewN ?_ _) | (with_reducible refine Kd.C_drew ?_))); (case side2 => exact HC0_0.out); (case side3 => repeat (first | exact (Kd.C_below HR0_1.out HB.out) | (with_reducible refine Kd.C_alloc ?_ _) | (with_reducible refine Kd.C_drewN ?_ _) | (with_reducible refine Kd.C_drew ?_))); (case side4 => exact HC0_1.out); (case side5 => repeat (first | exact (Kd.C_below HR0_2.out HB.out) | (with_reducible refine Kd.C_alloc ?_ _) | (with_reducible refine Kd.C_drewN ?_ _) | (with_reducible refine Kd.C_drew ?_))); (case side6 => exact HC0_2.out); rintro e w13 ⟨rfl, hb⟩; refine ⟨_, rfl, ?_⟩; have n0_ := Aside0.mk (blk_below (g := gb563) (o := .cells #[.slice A0_0 l0_0.length c0_0, .slice A0_1 l0_1.length c0_1, .slice A0_2 l0_2.length c0_2] 25 (0, 0)) (by (with_reducible repeat (first | refine blk_drewN ?_ _ | refine blk_drew ?_ | refine blk_alloc ?_ _)); exact BK563.out) hb); have n1_ := Aside0.mk (below_step (by repeat (first | (with_reducible first | exact HB.out | apply below_alloc | apply pw_below_drewN | apply below_drew1 | refine below_set ?_ GE563.out) | exact HB.out)) hb); clear BK563; clear HB; have BK563 := n0_; have HB := n1_; clear n0_ n1_; (try clear hb); (try clear hb2); (try clear hk); (try clear hi)))
    go_meet
    case rel => exact ⟨_, (decide ((l1.length : Int) > 500)), (by first | rfl | (simp; done) | (simp [*]; done)), H', ⟨by first | omega | exact Nat.le_refl _⟩, ⟨by (with_reducible repeat (first | refine blk_drewN ?_ _ | refine blk_drew ?_ | refine blk_alloc ?_ _)); exact BK563.out⟩, ⟨by repeat (first | (with_reducible first | exact HB.out | apply below_alloc | apply pw_below_drewN | apply below_drew1 | refine below_set ?_ GE563.out) | exact HB.out)⟩⟩
  case rest =>
    clear HC5
    try clear c1
    try clear p2
    try clear c4
    try clear c8
    try clear c9
    try clear hcz10_0
    try clear hcz10_1
    try clear hcz10_2
    try clear hcz12_0
    try clear hcz12_1
    try clear hcz12_2
    try clear hfz10_0
    try clear hfz10_1
    try clear hfz10_2
    try clear hfz12_0
    try clear hfz12_1
    try clear hfz12_2
    obtain ⟨kq, x24_4, rfl, HA, HJ4, BK563, HB⟩ := hcut
    cases kq with
    | zero => exact absurd HA.out (by simp [ductuslaw27_SwapJust.j0])
    | succ kj4 =>
      have H := HA.out
      clear HA
      simp only [ductuslaw27_SwapJust.j0] at H
      by_cases c14 : x24_4 = true
      · subst c14
        have H1 : (some true) = some r := by rw [if_pos rfl] at H; exact H
        clear H
        have H := H1
        clear H1
        obtain rfl := Option.some.inj H
        go_wp2
        go_ret
        exact ⟨by first | rfl | (simp [errW_none, errW_some] <;> rfl) | (simp [*, errW_none, errW_some] <;> rfl), by repeat (first | (with_reducible first | exact HB.out | apply below_alloc | apply pw_below_drewN | apply below_drew1 | refine below_set ?_ GE563.out) | exact HB.out)⟩
      replace c14 := Bool.eq_false_iff.mpr c14
      subst c14
      have H1 : (ductuslaw27_SwapJust.l0 kj4 l1 ([] : List Int) ([] : List (S39)) 0 l0_0 l0_1 l0_2) = some r := by rw [if_neg (show ¬ (false = true) by decide)] at H; exact H
      clear H
      have H := H1
      clear H1
      have H' := Aside0.mk H
      clear H
      go_wp2
      go_loopg [5, 6, 7] kj4 (fun kq v5 v6 v7 w' => ∃ (x5_2 : List Int) (x6_2 : List (S39)) (x7_2 : Int), v7 = .int .i64 x7_2 ∧ Aside0 (ductuslaw27_SwapJust.l0 kq l1 x5_2 x6_2 x7_2 l0_0 l0_1 l0_2 = some r) ∧ Aside0 (kq ≤ kj4) ∧ Aside0 (Kd.R (Kd.int .i64) 3 w' w.heap.size (fun _ => True) v5 x5_2) ∧ Aside0 (Kd.R k39 39 w' w.heap.size (fun _ => True) v6 x6_2) ∧ Aside0 (w'.heap[gb563]? = some (.cells #[(.slice A0_0 l0_0.length c0_0), (.slice A0_1 l0_1.length c0_1), (.slice A0_2 l0_2.length c0_2)] 25 (0, 0))) ∧ Aside0 (Below w.heap.size w w'))
      case atStart => exact ⟨(([] : List Int)), (([] : List (S39))), (0), (by first | rfl | (simp; done) | (simp [*]; done)), H', ⟨Nat.le_refl _⟩, ⟨by first | exact Kd.R_nil _ _ _ _ _ | exact Kd.N_nil _ _ _ _ _ | exact Kd.V_nil _ _ _ _ _ | exact Kd.Q_nil _ _ _ _ _ | exact Kd.S_nil _ _ _ _ _⟩, ⟨by first | exact Kd.R_nil _ _ _ _ _ | exact Kd.N_nil _ _ _ _ _ | exact Kd.V_nil _ _ _ _ _ | exact Kd.Q_nil _ _ _ _ _ | exact Kd.S_nil _ _ _ _ _⟩, ⟨by (with_reducible repeat (first | refine blk_drewN ?_ _ | refine blk_drew ?_ | refine blk_alloc ?_ _)); exact BK563.out⟩, ⟨by repeat (first | (with_reducible first | exact HB.out | apply below_alloc | apply pw_below_drewN | apply below_drew1 | refine below_set ?_ GE563.out) | exact HB.out)⟩⟩
      case round =>
        clear H'
        try clear c1
        try clear p2
        try clear c4
        try clear c8
        try clear c9
        try clear c14
        try clear hcz10_0
        try clear hcz10_1
        try clear hcz10_2
        try clear hcz12_0
        try clear hcz12_1
        try clear hcz12_2
        try clear hfz10_0
        try clear hfz10_1
        try clear hfz10_2
        try clear hfz12_0
        try clear hfz12_1
        try clear hfz12_2
        try clear p2
        obtain ⟨x5_2, x6_2, x7_2, rfl, HA, HK2, HO_5, HO_6, BK563, HB⟩ := hrel
        cases gk with
        | zero => exact absurd HA.out (by simp [ductuslaw27_SwapJust.l0])
        | succ k2 =>
          have H := HA.out
          clear HA
          simp only [ductuslaw27_SwapJust.l0] at H
          by_cases c15 : x7_2 < (l0_1.length : Int)
          rotate_left
          · rw [if_neg c15] at H
            have c15b0 : decide (x7_2 < (l0_1.length : Int)) = false := decide_eq_false c15
            clear c15
            replace H := Option.bind_eq_some_iff.mp H
            obtain ⟨⟨t580, t581⟩, A360, H⟩ := H
            replace H : (if t581 = 0 then ((ductusref27_Plain.f k2 l0_0).bind fun t584 => ((ductusref27_Plain.f k2 l0_2).bind fun t587 => ((ductusref22_Right.f k2 x6_2 (t584.length : Int)).bind fun t590 => (if t590 = true then (ductuslaw27_SwapJust.l2 k2 x6_2 t580 t584 t587 ([] : List Int) 0 0) else (none))))) else (some ((t580.length : Int) == 0))) = some r := H
            have A36 := Aside0.mk A360
            clear A360
            by_cases c37 : t581 = 0
            rotate_left
            · rw [if_neg c37] at H
              have c37b0 : (t581 == 0) = false := beq_eq_false_iff_ne.mpr c37
              have c37b1 : (t581 != 0) = true := bne_iff_ne.mpr c37
              obtain rfl := Option.some.inj H
              have hcz73_0 : wr.cell? ⟨gb563, 0, none⟩ = some (.slice A0_0 l0_0.length c0_0) := (blk_cell BK563.out 0).trans rfl
              have hcz73_1 : wr.cell? ⟨gb563, 1, none⟩ = some (.slice A0_1 l0_1.length c0_1) := (blk_cell BK563.out 1).trans rfl
              have hcz73_2 : wr.cell? ⟨gb563, 2, none⟩ = some (.slice A0_2 l0_2.length c0_2) := (blk_cell BK563.out 2).trans rfl
              have hfz73_0 := blk_frozen BK563.out 0
              have hfz73_1 := blk_frozen BK563.out 1
              have hfz73_2 := blk_frozen BK563.out 2
              obtain ⟨Ao74, co74, eo74⟩ := Kd.R_slice HO_5.out
              subst eo74
              go_wp2_with (first | ((with_reducible refine gate_callee (f := 12) rfl ?_); refine goesL_ (some 65) rfl rfl Try.func12 (by kernel_rfl) rfl #[.slice A0_0 l0_0.length c0_0, .slice A0_1 l0_1.length c0_1, .slice Ao74 x5_2.length co74, .slice A0_2 l0_2.length c0_2] rfl (by (try simp only [List.map_toArray, List.map_cons, List.map_nil]); first | done | rfl | (simp only [List.length_drop, List.length_take]; rfl)) ?_; (with_reducible refine (swap_Some.calls k2 _ _ l0_0 _ _ l0_1 _ _ x5_2 _ _ l0_2 t580 t581 _ ?side1 ?side2 ?side3 ?side4 ?side5 ?side6 ?side7 ?side8 A36.out).mono ?_); (case side1 => repeat (first | exact (Kd.C_below HR0_0.out HB.out) | (with_reducible refine Kd.C_alloc ?_ _) | (with_reducible refine Kd.C_drewN ?_ _) | (with_reducible refine Kd.C_drew ?_))); (case side2 => exact HC0_0.out); (case side3 => repeat (first | exact (Kd.C_below HR0_1.out HB.out) | (with_reducible refine Kd.C_alloc ?_ _) | (with_reducible refine Kd.C_drewN ?_ _) | (with_reducible refine Kd.C_drew ?_))); (case side4 => exact HC0_1.out); (case side5 => repeat (first | exact (Kd.R_reads' HO_5.out).2.2 | (with_reducible refine Kd.C_alloc ?_ _) | (with_reducible refine Kd.C_drewN ?_ _) | (with_reducible refine Kd.C_drew ?_))); (case side6 => exact (Kd.R_reads' HO_5.out).2.1); (case side7 => repeat (first | exact (Kd.C_below HR0_2.out HB.out) | (with_reducible refine Kd.C_alloc ?_ _) | (with_reducible refine Kd.C_drewN ?_ _) | (with_reducible refine Kd.C_drew ?_))); (case side8 => exact HC0_2.out); rintro e w75 ⟨v582, rfl, ho0, hb⟩; refine ⟨_, rfl, ?_⟩; have n0_ := Aside0.mk (Kd.R_elder' (by (with_reducible repeat (first | apply Kd.R_alloc | apply Kd.R_drewN | apply Kd.R_drew)); exact HO_5.out) (Kd.R_base ho0) hb); have n1_ := Aside0.mk (Kd.R_below (by (with_reducible repeat (first | apply Kd.R_alloc | apply Kd.R_drewN | apply Kd.R_drew)); exact HO_6.out) hb); have n2_ := Aside0.mk (Kd.R_lower (Kd.R_new' ho0 (Kd.R_lt (by (with_reducible repeat (first | apply Kd.R_alloc | apply Kd.R_drewN | apply Kd.R_drew)); exact HO_5.out))) (below_size (by repeat (first | (with_reducible first | exact HB.out | apply below_alloc | apply pw_below_drewN | apply below_drew1 | refine below_set ?_ GE563.out) | exact HB.out)))); have n3_ := Aside0.mk (blk_below (g := gb563) (o := .cells #[.slice A0_0 l0_0.length c0_0, .slice A0_1 l0_1.length c0_1, .slice A0_2 l0_2.length c0_2] 25 (0, 0)) (by (with_reducible repeat (first | refine blk_drewN ?_ _ | refine blk_drew ?_ | refine blk_alloc ?_ _)); exact BK563.out) hb); have n4_ := Aside0.mk (below_step (by repeat (first | (with_reducible first | exact HB.out | apply below_alloc | apply pw_below_drewN | apply below_drew1 | refine below_set ?_ GE563.out) | exact HB.out)) hb); clear HO_5; clear HO_6; clear BK563; clear HB; have HO_5 := n0_; have HO_6 := n1_; have HO583 := n2_; have BK563 := n3_; have HB := n4_; clear n0_ n1_ n2_ n3_ n4_; (try clear hb); (try clear hb2); (try clear hk); (try clear hi); (try clear ho0); obtain ⟨Ao76, co76, eo76⟩ := Kd.R_slice HO583.out; subst eo76))
              go_ret
              exact ⟨by first | rfl | (simp [errW_none, errW_some] <;> rfl) | (simp [*, errW_none, errW_some] <;> rfl), by repeat (first | (with_reducible first | exact HB.out | apply below_alloc | apply pw_below_drewN | apply below_drew1 | refine below_set ?_ GE563.out) | exact HB.out)⟩
            rw [if_pos c37] at H
            have c37b0 : (t581 == 0) = true := beq_iff_eq.mpr c37
            have c37b1 : (t581 != 0) = false := bne_eq_false_iff_eq.mpr c37
            clear c37
            replace H := Option.bind_eq_some_iff.mp H
            obtain ⟨t584, A380, H⟩ := H
            replace H : ((ductusref27_Plain.f k2 l0_2).bind fun t587 => ((ductusref22_Right.f k2 x6_2 (t584.length : Int)).bind fun t590 => (if t590 = true then (ductuslaw27_SwapJust.l2 k2 x6_2 t580 t584 t587 ([] : List Int) 0 0) else (none)))) = some r := H
            have A38 := Aside0.mk A380
            clear A380
            replace H := Option.bind_eq_some_iff.mp H
            obtain ⟨t587, A390, H⟩ := H
            replace H : ((ductusref22_Right.f k2 x6_2 (t584.length : Int)).bind fun t590 => (if t590 = true then (ductuslaw27_SwapJust.l2 k2 x6_2 t580 t584 t587 ([] : List Int) 0 0) else (none))) = some r := H
            have A39 := Aside0.mk A390
            clear A390
            replace H := Option.bind_eq_some_iff.mp H
            obtain ⟨t590, A400, H⟩ := H
            replace H : (if t590 = true then (ductuslaw27_SwapJust.l2 k2 x6_2 t580 t584 t587 ([] : List Int) 0 0) else (none)) = some r := H
            have A40 := Aside0.mk A400
            clear A400
            by_cases c41 : t590 = true
            rotate_left
            · replace c41 := Bool.eq_false_iff.mpr c41
              subst c41
              have H1 : (none) = some r := by rw [if_neg (show ¬ (false = true) by decide)] at H; exact H
              clear H
              have H := H1
              clear H1
              exact absurd H (by simp)
            subst c41
            have H1 : (ductuslaw27_SwapJust.l2 k2 x6_2 t580 t584 t587 ([] : List Int) 0 0) = some r := by rw [if_pos rfl] at H; exact H
            clear H
            have H := H1
            clear H1
            have H' := Aside0.mk H
            clear H
            have hcz42_0 : wr.cell? ⟨gb563, 0, none⟩ = some (.slice A0_0 l0_0.length c0_0) := (blk_cell BK563.out 0).trans rfl
            have hcz42_1 : wr.cell? ⟨gb563, 1, none⟩ = some (.slice A0_1 l0_1.length c0_1) := (blk_cell BK563.out 1).trans rfl
            have hcz42_2 : wr.cell? ⟨gb563, 2, none⟩ = some (.slice A0_2 l0_2.length c0_2) := (blk_cell BK563.out 2).trans rfl
            have hfz42_0 := blk_frozen BK563.out 0
            have hfz42_1 := blk_frozen BK563.out 1
            have hfz42_2 := blk_frozen BK563.out 2
            obtain ⟨Ao43, co43, eo43⟩ := Kd.R_slice HO_5.out
            subst eo43
            try go_wp2_with (first | ((with_reducible refine gate_callee (f := 12) rfl ?_); refine goesL_ (some 65) rfl rfl Try.func12 (by kernel_rfl) rfl #[.slice A0_0 l0_0.length c0_0, .slice A0_1 l0_1.length c0_1, .slice Ao43 x5_2.length co43, .slice A0_2 l0_2.length c0_2] rfl (by (try simp only [List.map_toArray, List.map_cons, List.map_nil]); first | done | rfl | (simp only [List.length_drop, List.length_take]; rfl)) ?_; (with_reducible refine (swap_Some.calls k2 _ _ l0_0 _ _ l0_1 _ _ x5_2 _ _ l0_2 t580 t581 _ ?side1 ?side2 ?side3 ?side4 ?side5 ?side6 ?side7 ?side8 A36.out).mono ?_); (case side1 => repeat (first | exact (Kd.C_below HR0_0.out HB.out) | (with_reducible refine Kd.C_alloc ?_ _) | (with_reducible refine Kd.C_drewN ?_ _) | (with_reducible refine Kd.C_drew ?_))); (case side2 => exact HC0_0.out); (case side3 => repeat (first | exact (Kd.C_below HR0_1.out HB.out) | (with_reducible refine Kd.C_alloc ?_ _) | (with_reducible refine Kd.C_drewN ?_ _) | (with_reducible refine Kd.C_drew ?_))); (case side4 => exact HC0_1.out); (case side5 => repeat (first | exact (Kd.R_reads' HO_5.out).2.2 | (with_reducible refine Kd.C_alloc ?_ _) | (with_reducible refine Kd.C_drewN ?_ _) | (with_reducible refine Kd.C_drew ?_))); (case side6 => exact (Kd.R_reads' HO_5.out).2.1); (case side7 => repeat (first | exact (Kd.C_below HR0_2.out HB.out) | (with_reducible refine Kd.C_alloc ?_ _) | (with_reducible refine Kd.C_drewN ?_ _) | (with_reducible refine Kd.C_drew ?_))); (case side8 => exact HC0_2.out); rintro e w44 ⟨v582, rfl, ho0, hb⟩; refine ⟨_, rfl, ?_⟩; have n0_ := Aside0.mk (Kd.R_elder' (by (with_reducible repeat (first | apply Kd.R_alloc | apply Kd.R_drewN | apply Kd.R_drew)); exact HO_5.out) (Kd.R_base ho0) hb); have n1_ := Aside0.mk (Kd.R_below (by (with_reducible repeat (first | apply Kd.R_alloc | apply Kd.R_drewN | apply Kd.R_drew)); exact HO_6.out) hb); have n2_ := Aside0.mk (Kd.R_lower (Kd.R_new' ho0 (Kd.R_lt (by (with_reducible repeat (first | apply Kd.R_alloc | apply Kd.R_drewN | apply Kd.R_drew)); exact HO_5.out))) (below_size (by repeat (first | (with_reducible first | exact HB.out | apply below_alloc | apply pw_below_drewN | apply below_drew1 | refine below_set ?_ GE563.out) | exact HB.out)))); have n3_ := Aside0.mk (blk_below (g := gb563) (o := .cells #[.slice A0_0 l0_0.length c0_0, .slice A0_1 l0_1.length c0_1, .slice A0_2 l0_2.length c0_2] 25 (0, 0)) (by (with_reducible repeat (first | refine blk_drewN ?_ _ | refine blk_drew ?_ | refine blk_alloc ?_ _)); exact BK563.out) hb); have n4_ := Aside0.mk (below_step (by repeat (first | (with_reducible first | exact HB.out | apply below_alloc | apply pw_below_drewN | apply below_drew1 | refine below_set ?_ GE563.out) | exact HB.out)) hb); clear HO_5; clear HO_6; clear BK563; clear HB; have HO_5 := n0_; have HO_6 := n1_; have HO583 := n2_; have BK563 := n3_; have HB := n4_; clear n0_ n1_ n2_ n3_ n4_; (try clear hb); (try clear hb2); (try clear hk); (try clear hi); (try clear ho0)))
            have n0_ := Aside0.mk (Kd.R_drew HO_5.out)
            have n1_ := Aside0.mk (Kd.R_drew HO_6.out)
            have n2_ := Aside0.mk (Kd.R_drew HO583.out)
            have n3_ := Aside0.mk (blk_drew BK563.out)
            have n4_ := Aside0.mk (below_drew1 HB.out)
            clear HO_5
            clear HO_6
            clear HO583
            clear BK563
            clear HB
            have HO_5 := n0_
            have HO_6 := n1_
            have HO583 := n2_
            have BK563 := n3_
            have HB := n4_
            clear n0_ n1_ n2_ n3_ n4_
            refine start_ (n := 8) (S := fun w' => w'.cell? ⟨gb563, 0, none⟩ = some (.slice A0_0 l0_0.length c0_0) ∧ w'.cell? ⟨gb563, 1, none⟩ = some (.slice A0_1 l0_1.length c0_1) ∧ w'.cell? ⟨gb563, 2, none⟩ = some (.slice A0_2 l0_2.length c0_2)) (ds := []) #[false, false, false, false, false, false, false, false] (by kernel_rfl) rfl rfl ⟨(blk_cell BK563.out 0).trans rfl, (blk_cell BK563.out 1).trans rfl, (blk_cell BK563.out 2).trans rfl⟩ (fun hHeld => ?_); refine with_tabW ductuslaw27_SwapJust.tab18 ductuslaw27_SwapJust.bits18 (fun HT_ HW_ => ?_)
            generalize w44.drew = w45 at HO_5 HO_6 HO583 BK563 HB hHeld ⊢
            refine pure_ (i := 0) (N := some 73) (v := ?_) (a' := ?_) #[true, false, false, false, false, false, false, false] rfl rfl (any_of HT_.out (by kernel_rfl)) (fun _ _ _ h => h) (Or.inl ⟨by rfl, ?_⟩) ?_ ?_
            rotate_left
            · intro w'
              go_simp
              with_reducible rfl
            rotate_left
            · simp only [Act.put, List.setIfInBounds_toArray, List.set_cons_zero, List.set_cons_succ, i64_w, i32_w]
              rfl
            refine pure_ (i := 3) (N := some 76) (v := ?_) (a' := ?_) #[true, false, false, true, false, false, false, false] rfl rfl (any_of HT_.out (by kernel_rfl)) (fun _ _ _ h => h) (Or.inl ⟨by rfl, ?_⟩) ?_ ?_
            rotate_left
            · intro w'
              go_simp
              with_reducible rfl
            rotate_left
            · simp only [Act.put, List.setIfInBounds_toArray, List.set_cons_zero, List.set_cons_succ, i64_w, i32_w]
              rfl
            refine take_ (i := 1) (N := some 74) (v := ?_) (a' := ?_) #[true, true, false, true, false, false, false, false] rfl rfl (take_ofW HT_.out HW_.out (by kernel_rfl)) (fun _ _ _ h => h) (Or.inl ⟨by rfl, ?_⟩) hHeld ?_ ?_
            rotate_left
            · rintro w' ⟨s0, s1, s2⟩
              go_simp
              with_reducible rfl
            rotate_left
            · simp only [Act.put, List.setIfInBounds_toArray, List.set_cons_zero, List.set_cons_succ, i64_w, i32_w]
              rfl
            refine take_ (i := 4) (N := some 77) (v := ?_) (a' := ?_) #[true, true, false, true, true, false, false, false] rfl rfl (take_ofW HT_.out HW_.out (by kernel_rfl)) (fun _ _ _ h => h) (Or.inl ⟨by rfl, ?_⟩) hHeld ?_ ?_
            rotate_left
            · rintro w' ⟨s0, s1, s2⟩
              go_simp
              with_reducible rfl
            rotate_left
            · simp only [Act.put, List.setIfInBounds_toArray, List.set_cons_zero, List.set_cons_succ, i64_w, i32_w]
              rfl
            refine one_ (i := 2) (N := some 75) #[true, true, true, true, true, false, false, false] rfl rfl (one_of HT_.out (by kernel_rfl)) (by decide) (fun K hK => ?_)
            refine goes_ Try.func18 (by kernel_rfl) rfl #[.slice A0_0 l0_0.length c0_0] (by rfl) rfl rfl (by (try simp only [List.map_toArray, List.map_cons, List.map_nil]); first | done | rfl | (simp only [List.length_drop, List.length_take]; rfl)) ?_
            with_reducible refine (ductusref27_Plain.calls k2 _ _ l0_0 t584 _ ?side1 ?side2 A38.out).mono ?_
            (case side1 => repeat (first | exact (Kd.C_below HR0_0.out HB.out) | (with_reducible refine Kd.C_alloc ?_ _) | (with_reducible refine Kd.C_drewN ?_ _) | (with_reducible refine Kd.C_drew ?_)))
            (case side2 => exact HC0_0.out)
            rintro e w46 ⟨v585, rfl, ho0, hb⟩
            refine ⟨_, rfl, ?_⟩
            have n0_ := Aside0.mk (Kd.R_elder' (by (with_reducible repeat (first | apply Kd.R_alloc | apply Kd.R_drewN | apply Kd.R_drew)); exact HO_5.out) (Kd.R_base ho0) hb)
            have n1_ := Aside0.mk (Kd.R_below (by (with_reducible repeat (first | apply Kd.R_alloc | apply Kd.R_drewN | apply Kd.R_drew)); exact HO_6.out) hb)
            have n2_ := Aside0.mk (Kd.R_elder' (by (with_reducible repeat (first | apply Kd.R_alloc | apply Kd.R_drewN | apply Kd.R_drew)); exact HO583.out) (Kd.R_base ho0) hb)
            have n3_ := Aside0.mk (Kd.R_lower (Kd.R_new' (Kd.R_new' ho0 (Kd.R_lt (by (with_reducible repeat (first | apply Kd.R_alloc | apply Kd.R_drewN | apply Kd.R_drew)); exact HO_5.out))) (Kd.R_lt (by (with_reducible repeat (first | apply Kd.R_alloc | apply Kd.R_drewN | apply Kd.R_drew)); exact HO583.out))) (below_size (by repeat (first | (with_reducible first | exact HB.out | apply below_alloc | apply pw_below_drewN | apply below_drew1 | refine below_set ?_ GE563.out) | exact HB.out))))
            have n4_ := Aside0.mk (blk_below (g := gb563) (o := .cells #[.slice A0_0 l0_0.length c0_0, .slice A0_1 l0_1.length c0_1, .slice A0_2 l0_2.length c0_2] 25 (0, 0)) (by (with_reducible repeat (first | refine blk_drewN ?_ _ | refine blk_drew ?_ | refine blk_alloc ?_ _)); exact BK563.out) hb)
            have n5_ := Aside0.mk (below_step (by repeat (first | (with_reducible first | exact HB.out | apply below_alloc | apply pw_below_drewN | apply below_drew1 | refine below_set ?_ GE563.out) | exact HB.out)) hb)
            clear HO_5
            clear HO_6
            clear HO583
            clear BK563
            clear HB
            have HO_5 := n0_
            have HO_6 := n1_
            have HO583 := n2_
            have HO586 := n3_
            have BK563 := n4_
            have HB := n5_
            clear n0_ n1_ n2_ n3_ n4_ n5_
            (try clear hb)
            (try clear hb2)
            (try clear hk)
            (try clear hi)
            (try clear ho0)
            refine hK.out _ _ ⟨(blk_cell BK563.out 0).trans rfl, (blk_cell BK563.out 1).trans rfl, (blk_cell BK563.out 2).trans rfl⟩ (fun hHeld => ?_)
            clear hK K
            refine norm_ (a' := ?_) ?_ ?_
            rotate_left
            · show Act.put _ (some 75) _ = _
              simp only [Act.put, List.setIfInBounds_toArray, List.set_cons_zero, List.set_cons_succ, i64_w, i32_w]
              rfl
            refine one_ (i := 5) (N := some 78) #[true, true, true, true, true, true, false, false] rfl rfl (one_of HT_.out (by kernel_rfl)) (by decide) (fun K hK => ?_)
            refine goes_ Try.func18 (by kernel_rfl) rfl #[.slice A0_2 l0_2.length c0_2] (by rfl) rfl rfl (by (try simp only [List.map_toArray, List.map_cons, List.map_nil]); first | done | rfl | (simp only [List.length_drop, List.length_take]; rfl)) ?_
            with_reducible refine (ductusref27_Plain.calls k2 _ _ l0_2 t587 _ ?side1 ?side2 A39.out).mono ?_
            (case side1 => repeat (first | exact (Kd.C_below HR0_2.out HB.out) | (with_reducible refine Kd.C_alloc ?_ _) | (with_reducible refine Kd.C_drewN ?_ _) | (with_reducible refine Kd.C_drew ?_)))
            (case side2 => exact HC0_2.out)
            rintro e w47 ⟨v588, rfl, ho0, hb⟩
            refine ⟨_, rfl, ?_⟩
            have n0_ := Aside0.mk (Kd.R_elder' (by (with_reducible repeat (first | apply Kd.R_alloc | apply Kd.R_drewN | apply Kd.R_drew)); exact HO_5.out) (Kd.R_base ho0) hb)
            have n1_ := Aside0.mk (Kd.R_below (by (with_reducible repeat (first | apply Kd.R_alloc | apply Kd.R_drewN | apply Kd.R_drew)); exact HO_6.out) hb)
            have n2_ := Aside0.mk (Kd.R_elder' (by (with_reducible repeat (first | apply Kd.R_alloc | apply Kd.R_drewN | apply Kd.R_drew)); exact HO583.out) (Kd.R_base ho0) hb)
            have n3_ := Aside0.mk (Kd.R_elder' (by (with_reducible repeat (first | apply Kd.R_alloc | apply Kd.R_drewN | apply Kd.R_drew)); exact HO586.out) (Kd.R_base ho0) hb)
            have n4_ := Aside0.mk (Kd.R_lower (Kd.R_new' (Kd.R_new' (Kd.R_new' ho0 (Kd.R_lt (by (with_reducible repeat (first | apply Kd.R_alloc | apply Kd.R_drewN | apply Kd.R_drew)); exact HO_5.out))) (Kd.R_lt (by (with_reducible repeat (first | apply Kd.R_alloc | apply Kd.R_drewN | apply Kd.R_drew)); exact HO583.out))) (Kd.R_lt (by (with_reducible repeat (first | apply Kd.R_alloc | apply Kd.R_drewN | apply Kd.R_drew)); exact HO586.out))) (below_size (by repeat (first | (with_reducible first | exact HB.out | apply below_alloc | apply pw_below_drewN | apply below_drew1 | refine below_set ?_ GE563.out) | exact HB.out))))
            have n5_ := Aside0.mk (blk_below (g := gb563) (o := .cells #[.slice A0_0 l0_0.length c0_0, .slice A0_1 l0_1.length c0_1, .slice A0_2 l0_2.length c0_2] 25 (0, 0)) (by (with_reducible repeat (first | refine blk_drewN ?_ _ | refine blk_drew ?_ | refine blk_alloc ?_ _)); exact BK563.out) hb)
            have n6_ := Aside0.mk (below_step (by repeat (first | (with_reducible first | exact HB.out | apply below_alloc | apply pw_below_drewN | apply below_drew1 | refine below_set ?_ GE563.out) | exact HB.out)) hb)
            clear HO_5
            clear HO_6
            clear HO583
            clear HO586
            clear BK563
            clear HB
            have HO_5 := n0_
            have HO_6 := n1_
            have HO583 := n2_
            have HO586 := n3_
            have HO589 := n4_
            have BK563 := n5_
            have HB := n6_
            clear n0_ n1_ n2_ n3_ n4_ n5_ n6_
            (try clear hb)
            (try clear hb2)
            (try clear hk)
            (try clear hi)
            (try clear ho0)
            refine hK.out _ _ ⟨(blk_cell BK563.out 0).trans rfl, (blk_cell BK563.out 1).trans rfl, (blk_cell BK563.out 2).trans rfl⟩ (fun hHeld => ?_)
            clear hK K
            refine norm_ (a' := ?_) ?_ ?_
            rotate_left
            · show Act.put _ (some 78) _ = _
              simp only [Act.put, List.setIfInBounds_toArray, List.set_cons_zero, List.set_cons_succ, i64_w, i32_w]
              rfl
            refine pure_ (i := 6) (N := some 11) (v := ?_) (a' := ?_) #[true, true, true, true, true, true, true, false] rfl rfl (any_of HT_.out (by kernel_rfl)) (fun _ _ _ h => h) (Or.inl ⟨by rfl, ?_⟩) ?_ ?_
            rotate_left
            · intro w'
              go_simp
              with_reducible rfl
            rotate_left
            · simp only [Act.put, List.setIfInBounds_toArray, List.set_cons_zero, List.set_cons_succ, i64_w, i32_w]
              rfl
            refine pure_ (i := 7) (N := some 12) (v := ?_) (a' := ?_) #[true, true, true, true, true, true, true, true] rfl rfl (any_of HT_.out (by kernel_rfl)) (fun _ _ _ h => h) (Or.inl ⟨by rfl, ?_⟩) ?_ ?_
            rotate_left
            · intro w'
              go_simp
              with_reducible rfl
            rotate_left
            · simp only [Act.put, List.setIfInBounds_toArray, List.set_cons_zero, List.set_cons_succ, i64_w, i32_w]
              rfl
            refine done_ (done_of HT_.out (by kernel_rfl)) ?_
            obtain ⟨Ao48, co48, eo48⟩ := Kd.R_slice HO586.out
            subst eo48
            obtain ⟨Ao49, co49, eo49⟩ := Kd.R_slice HO_6.out
            subst eo49
            try go_wp2_with (first | ((with_reducible refine gate_callee (f := 19) rfl ?_); refine goesL_ (some 82) rfl rfl Try.func19 (by kernel_rfl) rfl #[.slice Ao49 x6_2.length co49, .int .i64 (t584.length : Int)] rfl (by (try simp only [List.map_toArray, List.map_cons, List.map_nil]); first | done | rfl | (simp only [List.length_drop, List.length_take]; rfl)) ?_; (with_reducible refine (ductusref22_Right.calls k2 _ _ x6_2 (t584.length : Int) true _ ?side1 ?side2 A40.out).mono ?_); (case side1 => repeat (first | exact (Kd.R_reads' HO_6.out).2.2 | (with_reducible refine Kd.C_alloc ?_ _) | (with_reducible refine Kd.C_drewN ?_ _) | (with_reducible refine Kd.C_drew ?_))); (case side2 => exact (Kd.R_reads' HO_6.out).2.1); rintro e w50 ⟨rfl, hb⟩; refine ⟨_, rfl, ?_⟩; have n0_ := Aside0.mk (Kd.R_below (by (with_reducible repeat (first | apply Kd.R_alloc | apply Kd.R_drewN | apply Kd.R_drew)); exact HO_5.out) hb); have n1_ := Aside0.mk (Kd.R_below (by (with_reducible repeat (first | apply Kd.R_alloc | apply Kd.R_drewN | apply Kd.R_drew)); exact HO_6.out) hb); have n2_ := Aside0.mk (Kd.R_below (by (with_reducible repeat (first | apply Kd.R_alloc | apply Kd.R_drewN | apply Kd.R_drew)); exact HO583.out) hb); have n3_ := Aside0.mk (Kd.R_below (by (with_reducible repeat (first | apply Kd.R_alloc | apply Kd.R_drewN | apply Kd.R_drew)); exact HO586.out) hb); have n4_ := Aside0.mk (Kd.R_below (by (with_reducible repeat (first | apply Kd.R_alloc | apply Kd.R_drewN | apply Kd.R_drew)); exact HO589.out) hb); have n5_ := Aside0.mk (blk_below (g := gb563) (o := .cells #[.slice A0_0 l0_0.length c0_0, .slice A0_1 l0_1.length c0_1, .slice A0_2 l0_2.length c0_2] 25 (0, 0)) (by (with_reducible repeat (first | refine blk_drewN ?_ _ | refine blk_drew ?_ | refine blk_alloc ?_ _)); exact BK563.out) hb); have n6_ := Aside0.mk (below_step (by repeat (first | (with_reducible first | exact HB.out | apply below_alloc | apply pw_below_drewN | apply below_drew1 | refine below_set ?_ GE563.out) | exact HB.out)) hb); clear HO_5; clear HO_6; clear HO583; clear HO586; clear HO589; clear BK563; clear HB; have HO_5 := n0_; have HO_6 := n1_; have HO583 := n2_; have HO586 := n3_; have HO589 := n4_; have BK563 := n5_; have HB := n6_; clear n0_ n1_ n2_ n3_ n4_ n5_ n6_; (try clear hb); (try clear hb2); (try clear hk); (try clear hi)))
            go_loopg [13, 14, 15] k2 (fun kq v13 v14 v15 w' => ∃ (x13_3 : List Int) (x14_3 : Int) (x15_3 : Int), v14 = .int .i64 x14_3 ∧ v15 = .int .i64 x15_3 ∧ Aside0 (ductuslaw27_SwapJust.l2 kq x6_2 t580 t584 t587 x13_3 x14_3 x15_3 = some r) ∧ Aside0 (kq ≤ k2) ∧ Aside0 (Kd.R k39 39 w' w.heap.size (fun _ => True) (.slice Ao49 x6_2.length co49) x6_2) ∧ Aside0 (Kd.R (Kd.int .i64) 3 w' w.heap.size (fun k_ => some k_ ≠ ((.slice Ao48 t584.length co48) : Value).ownBlock ∧ some k_ ≠ (v588 : Value).ownBlock ∧ some k_ ≠ (v13 : Value).ownBlock) v582 t580) ∧ Aside0 (Kd.R (Kd.int .i64) 3 w' w.heap.size (fun k_ => some k_ ≠ (v582 : Value).ownBlock ∧ some k_ ≠ (v588 : Value).ownBlock ∧ some k_ ≠ (v13 : Value).ownBlock) (.slice Ao48 t584.length co48) t584) ∧ Aside0 (Kd.R (Kd.int .i64) 3 w' w.heap.size (fun k_ => some k_ ≠ (v582 : Value).ownBlock ∧ some k_ ≠ ((.slice Ao48 t584.length co48) : Value).ownBlock ∧ some k_ ≠ (v13 : Value).ownBlock) v588 t587) ∧ Aside0 (Kd.R (Kd.int .i64) 3 w' w.heap.size (fun k_ => some k_ ≠ (v582 : Value).ownBlock ∧ some k_ ≠ ((.slice Ao48 t584.length co48) : Value).ownBlock ∧ some k_ ≠ (v588 : Value).ownBlock) v13 x13_3) ∧ Aside0 (w'.heap[gb563]? = some (.cells #[(.slice A0_0 l0_0.length c0_0), (.slice A0_1 l0_1.length c0_1), (.slice A0_2 l0_2.length c0_2)] 25 (0, 0))) ∧ Aside0 (Below w.heap.size w w'))
            case atStart => exact ⟨(([] : List Int)), (0), (0), (by first | rfl | (simp; done) | (simp [*]; done)), (by first | rfl | (simp; done) | (simp [*]; done)), H', ⟨Nat.le_refl _⟩, ⟨by (with_reducible repeat (first | apply Kd.R_alloc | apply Kd.R_drewN | apply Kd.R_drew)); exact HO_6.out⟩, ⟨by (with_reducible repeat (first | apply Kd.R_alloc | apply Kd.R_drewN | apply Kd.R_drew)); exact Kd.R_mono HO583.out (fun _ hk => ⟨hk.1.2, ⟨hk.2, (by simp [Value.ownBlock])⟩⟩)⟩, ⟨by (with_reducible repeat (first | apply Kd.R_alloc | apply Kd.R_drewN | apply Kd.R_drew)); exact Kd.R_mono HO586.out (fun _ hk => ⟨hk.1.2, ⟨hk.2, (by simp [Value.ownBlock])⟩⟩)⟩, ⟨by (with_reducible repeat (first | apply Kd.R_alloc | apply Kd.R_drewN | apply Kd.R_drew)); exact Kd.R_mono HO589.out (fun _ hk => ⟨hk.1.2, ⟨hk.2, (by simp [Value.ownBlock])⟩⟩)⟩, ⟨by first | exact Kd.R_nil _ _ _ _ _ | exact Kd.N_nil _ _ _ _ _ | exact Kd.V_nil _ _ _ _ _ | exact Kd.Q_nil _ _ _ _ _ | exact Kd.S_nil _ _ _ _ _⟩, ⟨by (with_reducible repeat (first | refine blk_drewN ?_ _ | refine blk_drew ?_ | refine blk_alloc ?_ _)); exact BK563.out⟩, ⟨by repeat (first | (with_reducible first | exact HB.out | apply below_alloc | apply pw_below_drewN | apply below_drew1 | refine below_set ?_ GE563.out) | exact HB.out)⟩⟩
            case round =>
              clear H'
              try clear c1
              try clear c2
              try clear p2
              try clear c3
              try clear c4
              try clear p5
              try clear q5
              try clear hx5
              try clear p6
              try clear c12
              try clear c15
              try clear c15b0
              try clear c17
              try clear c17b0
              try clear c18
              try clear c19
              try clear c19b0
              try clear c19b1
              try clear c20
              try clear c21
              try clear c22
              try clear c23
              try clear c37
              try clear c37b0
              try clear c37b1
              try clear c41
              try clear hcz42_0
              try clear hcz42_1
              try clear hcz42_2
              try clear hfz42_0
              try clear hfz42_1
              try clear hfz42_2
              try clear hx566_0
              try clear p566
              try clear q566
              obtain ⟨x13_3, x14_3, x15_3, rfl, rfl, HA, HK3, HO_6, HO_9, HO_11, HO_12, HO_13, BK563, HB⟩ := hrel
              cases gk with
              | zero => exact absurd HA.out (by simp [ductuslaw27_SwapJust.l2])
              | succ k3 =>
                have H := HA.out
                clear HA
                simp only [ductuslaw27_SwapJust.l2] at H
                by_cases c51 : x15_3 < (x6_2.length : Int)
                rotate_left
                · rw [if_neg c51] at H
                  have c51b0 : decide (x15_3 < (x6_2.length : Int)) = false := decide_eq_false c51
                  clear c51
                  by_cases c62 : 0 ≤ x14_3
                  rotate_left
                  · rw [if_neg c62] at H
                    exact absurd H (by simp)
                  rw [if_pos c62] at H
                  have c62b0 := eq_true c62
                  have c62b1 : decide (0 ≤ x14_3) = true := decide_eq_true c62
                  clear c62
                  by_cases c63 : x14_3 ≤ (t584.length : Int)
                  rotate_left
                  · rw [if_neg c63] at H
                    exact absurd H (by simp)
                  rw [if_pos c63] at H
                  have c63b0 := eq_true c63
                  have c63b1 : decide (x14_3 ≤ (t584.length : Int)) = true := decide_eq_true c63
                  clear c63
                  obtain ⟨y603, hy603⟩ : ∃ y_ : List Int, y_ = (t584.drop (x14_3 : Int).toNat) := ⟨_, rfl⟩
                  replace H : (if x13_3.length + y603.length < 17592186044416 then ((ductusref27_Plain.f k3 t580).bind fun t610 => ((ductusref01_Ints.f k3 t610 (x13_3 ++ y603)).bind fun t613 => (some t613))) else (none)) = some r := by first | (rw [hy603]; with_reducible exact H) | (have H2_ := (Option.bind_some _ _).symm.trans H; rw [hy603]; with_reducible exact H2_) | (have H2_ := (Option.bind_some _ _).symm.trans H; with_reducible exact H2_) | with_reducible exact H | (rw [hy603]; exact H) | exact H
                  have Ny603 := Aside0.mk hy603
                  clear hy603
                  by_cases c64 : x13_3.length + y603.length < 17592186044416
                  rotate_left
                  · rw [if_neg c64] at H
                    exact absurd H (by simp)
                  rw [if_pos c64] at H
                  have LMc64 := Aside0.mk c64
                  clear c64
                  obtain ⟨y607, hy607⟩ : ∃ y_ : List Int, y_ = (x13_3 ++ y603) := ⟨_, rfl⟩
                  replace H : ((ductusref27_Plain.f k3 t580).bind fun t610 => ((ductusref01_Ints.f k3 t610 y607).bind fun t613 => (some t613))) = some r := by first | (rw [hy607]; with_reducible exact H) | (have H2_ := (Option.bind_some _ _).symm.trans H; rw [hy607]; with_reducible exact H2_) | (have H2_ := (Option.bind_some _ _).symm.trans H; with_reducible exact H2_) | with_reducible exact H | (rw [hy607]; exact H) | exact H
                  have Ny607 := Aside0.mk hy607
                  clear hy607
                  replace H := Option.bind_eq_some_iff.mp H
                  obtain ⟨t610, A650, H⟩ := H
                  replace H : ((ductusref01_Ints.f k3 t610 y607).bind fun t613 => (some t613)) = some r := H
                  have A65 := Aside0.mk A650
                  clear A650
                  replace H := Option.bind_eq_some_iff.mp H
                  obtain ⟨t613, A660, H⟩ := H
                  replace H : (some t613) = some r := H
                  have A66 := Aside0.mk A660
                  clear A660
                  obtain rfl := Option.some.inj H
                  have q67 : (x14_3 : Int) ≤ ((t584.length : Int) : Int) := of_decide_eq_true (by first | (with_reducible assumption) | assumption)
                  obtain ⟨i067, hi067, _, hsz67, _⟩ := info_parts info3
                  have hroom67 : t584.length ≤ co48 := (Kd.R_reads' HO_11.out).2.1
                  have hC67 : Kd.C (Kd.int .i64) _ Ao48 t584.length t584 := (Kd.R_reads' HO_11.out).2.2
                  have q067 : (0 : Int) ≤ (x14_3 : Int) := of_decide_eq_true (by first | (with_reducible assumption) | assumption)
                  have hcut67 := cut_from (P := Try.prog) 22 3 .i64 Try.underlying22 hi067 1 hsz67 Ao48 t584.length co48 x14_3 q067 q67
                  have hr67 := Kd.C_drop (m := (x14_3 : Int).toNat) (c := co48) hC67 (by omega) hroom67
                  obtain ⟨A67, hA67⟩ : ∃ A1, A1 = (if co48 = (x14_3 : Int).toNat then Ao48 else (Ao48 : Option Addr).map (·.add ((x14_3 : Int).toNat * 1))) := ⟨_, rfl⟩
                  obtain ⟨c67, hc67⟩ : ∃ c1, c1 = co48 - (x14_3 : Int).toNat := ⟨_, rfl⟩
                  have hy67 : y603.length = t584.length - (x14_3 : Int).toNat := (by rw [Ny603.out, List.length_drop] <;> omega)
                  rw [show (t584).drop (x14_3 : Int).toNat = y603 from Ny603.out.symm] at hr67
                  replace hr67 : Kd.C (Kd.int .i64) _ A67 y603.length y603 := (by rw [hA67]; exact hr67)
                  rw [← hy67, ← hA67, ← hc67] at hcut67
                  have HR606 := Aside0.mk hr67
                  have HC606 := Aside0.mk (show y603.length ≤ c67 from by rw [hy67, hc67]; exact Nat.sub_le_sub_right hroom67 _)
                  clear hr67 hC67 hroom67 hi067 hsz67 hc67
                  have KY67 := Aside0.mk hy67
                  have KA67 := Aside0.mk hA67
                  clear hy67 hA67
                  have KL67 := Aside0.mk (show (x14_3 : Int).toNat ≤ t584.length from by omega)
                  replace q67 := eq_true q67
                  go_wp2_with (first | ((with_reducible refine gate_builtin (b := .append) (xs := #[.tmp 107, .tmp 110]) rfl ?_); (try (refine gate_guard (by rfl) ?_; dsimp only)); at_builtin; refine Kd.R_append_rows (Kd.int .i64) (w0 := w) w.heap.size rfl (.tmp 107) (.tmp 110) 22 3 (.int .i64 0) 8 rfl Try.underlying22 info3 rfl (by decide) (by omega) u13 x13_3 y603 _ _ _ (fun k_ => some k_ ≠ (v582 : Value).ownBlock ∧ some k_ ≠ (.slice Ao48 t584.length co48 : Value).ownBlock ∧ some k_ ≠ (v588 : Value).ownBlock) (fun _ => False) rfl rfl ?aO ?aR (fun _ _ h => h) (fun _ h => h.elim) ?aF ?aB ?aS ?aL ?_; (case aR => repeat (first | exact (by repeat (first | (with_reducible exact HR606.out) | (with_reducible refine Kd.C_alloc ?_ _) | (with_reducible refine Kd.C_drewN ?_ _) | (with_reducible refine Kd.C_drew ?_) | exact HR606.out)) | (with_reducible refine Kd.C_alloc ?_ _) | (with_reducible refine Kd.C_drewN ?_ _) | (with_reducible refine Kd.C_drew ?_))); (case aB => exact (by repeat (first | (with_reducible first | exact HB.out | apply below_alloc | apply pw_below_drewN | apply below_drew1 | refine below_set ?_ GE563.out) | exact HB.out))); (case aF => exact (fun k_ hk => ⟨Kd.fresh' (Kd.R_lt (by (with_reducible repeat (first | apply Kd.R_alloc | apply Kd.R_drewN | apply Kd.R_drew)); exact HO_9.out)) k_ hk, Kd.fresh' (Kd.R_lt (by (with_reducible repeat (first | apply Kd.R_alloc | apply Kd.R_drewN | apply Kd.R_drew)); exact HO_11.out)) k_ hk, Kd.fresh' (Kd.R_lt (by (with_reducible repeat (first | apply Kd.R_alloc | apply Kd.R_drewN | apply Kd.R_drew)); exact HO_12.out)) k_ hk⟩)); (case aO => exact (by (with_reducible repeat (first | apply Kd.R_alloc | apply Kd.R_drewN | apply Kd.R_drew)); exact HO_13.out)); (case aS => exact (below_size (by repeat (first | (with_reducible first | exact HB.out | apply below_alloc | apply pw_below_drewN | apply below_drew1 | refine below_set ?_ GE563.out) | exact HB.out)))); (case aL => have := LMc64.out; omega); intro v608 w68 ho hb hg hat; rw [← Ny607.out] at ho; have n0_ := Aside0.mk (Kd.R_over' (by (with_reducible repeat (first | apply Kd.R_alloc | apply Kd.R_drewN | apply Kd.R_drew)); exact HO_6.out) (Kd.R_typed (by (with_reducible repeat (first | apply Kd.R_alloc | apply Kd.R_drewN | apply Kd.R_drew)); exact HO_13.out)) (by decide) hg); have n1_ := Aside0.mk (Kd.R_after (ok := (fun k_ => some k_ ≠ (.slice Ao48 t584.length co48 : Value).ownBlock ∧ some k_ ≠ (v588 : Value).ownBlock)) (by (with_reducible repeat (first | apply Kd.R_alloc | apply Kd.R_drewN | apply Kd.R_drew)); exact Kd.R_mono HO_9.out (fun _ hk => ⟨⟨hk.1, hk.2.1⟩, hk.2.2⟩)) hg hat); have n2_ := Aside0.mk (Kd.R_after (ok := (fun k_ => some k_ ≠ (v582 : Value).ownBlock ∧ some k_ ≠ (v588 : Value).ownBlock)) (by (with_reducible repeat (first | apply Kd.R_alloc | apply Kd.R_drewN | apply Kd.R_drew)); exact Kd.R_mono HO_11.out (fun _ hk => ⟨⟨hk.1, hk.2.1⟩, hk.2.2⟩)) hg hat); have n3_ := Aside0.mk (Kd.R_after (ok := (fun k_ => some k_ ≠ (v582 : Value).ownBlock ∧ some k_ ≠ (.slice Ao48 t584.length co48 : Value).ownBlock)) (by (with_reducible repeat (first | apply Kd.R_alloc | apply Kd.R_drewN | apply Kd.R_drew)); exact Kd.R_mono HO_12.out (fun _ hk => ⟨⟨hk.1, hk.2.1⟩, hk.2.2⟩)) hg hat); have n4_ := Aside0.mk (blk_grown (g := gb563) (o := .cells #[.slice A0_0 l0_0.length c0_0, .slice A0_1 l0_1.length c0_1, .slice A0_2 l0_2.length c0_2] 25 (0, 0)) (by (with_reducible repeat (first | refine blk_drewN ?_ _ | refine blk_drew ?_ | refine blk_alloc ?_ _)); exact BK563.out) hg (Kd.R_ne HO_13.out BK563.out (by decide))); have n5_ := Aside0.mk (hb); have n6_ := Aside0.mk ((show Kd.C (Kd.int .i64) w68 A67 y603.length y603 from by rw [Ny603.out, KA67.out]; exact Kd.C_drop (m := (x14_3 : Int).toNat) (c := co48) ((Kd.R_reads' (Kd.R_after (ok := (fun k_ => some k_ ≠ (v582 : Value).ownBlock ∧ some k_ ≠ (v588 : Value).ownBlock)) (by (with_reducible repeat (first | apply Kd.R_alloc | apply Kd.R_drewN | apply Kd.R_drew)); exact Kd.R_mono HO_11.out (fun _ hk => ⟨⟨hk.1, hk.2.1⟩, hk.2.2⟩)) hg hat)).2.2) KL67.out ((Kd.R_reads' (Kd.R_after (ok := (fun k_ => some k_ ≠ (v582 : Value).ownBlock ∧ some k_ ≠ (v588 : Value).ownBlock)) (by (with_reducible repeat (first | apply Kd.R_alloc | apply Kd.R_drewN | apply Kd.R_drew)); exact Kd.R_mono HO_11.out (fun _ hk => ⟨⟨hk.1, hk.2.1⟩, hk.2.2⟩)) hg hat)).2.1))); have n7_ := Aside0.mk (ho); clear HO_6; clear HO_9; clear HO_11; clear HO_12; clear BK563; clear HB; clear HR606; clear HO_13; have HO_6 := n0_; have HO_9 := n1_; have HO_11 := n2_; have HO_12 := n3_; have BK563 := n4_; have HB := n5_; have HR606 := n6_; have HO609 := n7_; clear n0_ n1_ n2_ n3_ n4_ n5_ n6_ n7_; clear ho hb hg hat; obtain ⟨Ao69, co69, eo69⟩ := Kd.R_slice HO_9.out; subst eo69) | ((with_reducible refine gate_callee (f := 18) rfl ?_); refine goesL_ (some 113) rfl rfl Try.func18 (by kernel_rfl) rfl #[.slice Ao69 t580.length co69] rfl (by (try simp only [List.map_toArray, List.map_cons, List.map_nil]); first | done | rfl | (simp only [List.length_drop, List.length_take]; rfl)) ?_; (with_reducible refine (ductusref27_Plain.calls k3 _ _ t580 t610 _ ?side1 ?side2 A65.out).mono ?_); (case side1 => repeat (first | exact (Kd.R_reads' HO_9.out).2.2 | (with_reducible refine Kd.C_alloc ?_ _) | (with_reducible refine Kd.C_drewN ?_ _) | (with_reducible refine Kd.C_drew ?_))); (case side2 => exact (Kd.R_reads' HO_9.out).2.1); rintro e w70 ⟨v611, rfl, ho0, hb⟩; refine ⟨_, rfl, ?_⟩; have n0_ := Aside0.mk (Kd.R_below (by (with_reducible repeat (first | apply Kd.R_alloc | apply Kd.R_drewN | apply Kd.R_drew)); exact HO_6.out) hb); have n1_ := Aside0.mk (Kd.R_elder' (by (with_reducible repeat (first | apply Kd.R_alloc | apply Kd.R_drewN | apply Kd.R_drew)); exact HO_9.out) (Kd.R_base ho0) hb); have n2_ := Aside0.mk (Kd.R_elder' (by (with_reducible repeat (first | apply Kd.R_alloc | apply Kd.R_drewN | apply Kd.R_drew)); exact HO_11.out) (Kd.R_base ho0) hb); have n3_ := Aside0.mk (Kd.R_elder' (by (with_reducible repeat (first | apply Kd.R_alloc | apply Kd.R_drewN | apply Kd.R_drew)); exact HO_12.out) (Kd.R_base ho0) hb); have n4_ := Aside0.mk (Kd.R_elder' (by (with_reducible repeat (first | apply Kd.R_alloc | apply Kd.R_drewN | apply Kd.R_drew)); exact HO609.out) (Kd.R_base ho0) hb); have n5_ := Aside0.mk (Kd.R_lower (Kd.R_new' (Kd.R_new' (Kd.R_new' (Kd.R_new' ho0 (Kd.R_lt (by (with_reducible repeat (first | apply Kd.R_alloc | apply Kd.R_drewN | apply Kd.R_drew)); exact HO_9.out))) (Kd.R_lt (by (with_reducible repeat (first | apply Kd.R_alloc | apply Kd.R_drewN | apply Kd.R_drew)); exact HO_11.out))) (Kd.R_lt (by (with_reducible repeat (first | apply Kd.R_alloc | apply Kd.R_drewN | apply Kd.R_drew)); exact HO_12.out))) (Kd.R_lt (by (with_reducible repeat (first | apply Kd.R_alloc | apply Kd.R_drewN | apply Kd.R_drew)); exact HO609.out))) (below_size (by repeat (first | (with_reducible first | exact HB.out | apply below_alloc | apply pw_below_drewN | apply below_drew1 | refine below_set ?_ GE563.out) | exact HB.out)))); have n6_ := Aside0.mk (blk_below (g := gb563) (o := .cells #[.slice A0_0 l0_0.length c0_0, .slice A0_1 l0_1.length c0_1, .slice A0_2 l0_2.length c0_2] 25 (0, 0)) (by (with_reducible repeat (first | refine blk_drewN ?_ _ | refine blk_drew ?_ | refine blk_alloc ?_ _)); exact BK563.out) hb); have n7_ := Aside0.mk (Kd.C_below (by repeat (first | (with_reducible exact HR606.out) | (with_reducible refine Kd.C_alloc ?_ _) | (with_reducible refine Kd.C_drewN ?_ _) | (with_reducible refine Kd.C_drew ?_) | exact HR606.out)) hb); have n8_ := Aside0.mk (below_step (by repeat (first | (with_reducible first | exact HB.out | apply below_alloc | apply pw_below_drewN | apply below_drew1 | refine below_set ?_ GE563.out) | exact HB.out)) hb); clear HO_6; clear HO_9; clear HO_11; clear HO_12; clear HO609; clear BK563; clear HR606; clear HB; have HO_6 := n0_; have HO_9 := n1_; have HO_11 := n2_; have HO_12 := n3_; have HO609 := n4_; have HO612 := n5_; have BK563 := n6_; have HR606 := n7_; have HB := n8_; clear n0_ n1_ n2_ n3_ n4_ n5_ n6_ n7_ n8_; (try clear hb); (try clear hb2); (try clear hk); (try clear hi); (try clear ho0); obtain ⟨Ao71, co71, eo71⟩ := Kd.R_slice HO612.out; subst eo71; obtain ⟨Ao72, co72, eo72⟩ := Kd.R_slice HO609.out; subst eo72) | ((with_reducible refine gate_callee (f := 16) rfl ?_); refine goesL_ (some 115) rfl rfl Try.func16 (by kernel_rfl) rfl #[.slice Ao71 t610.length co71, .slice Ao72 y607.length co72] rfl (by (try simp only [List.map_toArray, List.map_cons, List.map_nil]); first | done | rfl | (simp only [List.length_drop, List.length_take]; rfl)) ?_; (with_reducible refine (ductusref01_Ints.calls k3 _ _ t610 _ _ y607 t613 _ ?side1 ?side2 ?side3 ?side4 A66.out).mono ?_); (case side1 => repeat (first | exact (Kd.R_reads' HO612.out).2.2 | (with_reducible refine Kd.C_alloc ?_ _) | (with_reducible refine Kd.C_drewN ?_ _) | (with_reducible refine Kd.C_drew ?_))); (case side2 => exact (Kd.R_reads' HO612.out).2.1); (case side3 => repeat (first | exact (Kd.R_reads' HO609.out).2.2 | (with_reducible refine Kd.C_alloc ?_ _) | (with_reducible refine Kd.C_drewN ?_ _) | (with_reducible refine Kd.C_drew ?_))); (case side4 => exact (Kd.R_reads' HO609.out).2.1); rintro e w' ⟨rfl, ⟨nd, rfl⟩⟩; refine ⟨_, rfl, ?_⟩))
                  go_ret
                  exact ⟨by first | rfl | (simp [errW_none, errW_some] <;> rfl) | (simp [*, errW_none, errW_some] <;> rfl), by repeat (first | (with_reducible first | exact HB.out | apply below_alloc | apply pw_below_drewN | apply below_drew1 | refine below_set ?_ GE563.out) | exact HB.out)⟩
                rw [if_pos c51] at H
                have c51b0 : decide (x15_3 < (x6_2.length : Int)) = true := decide_eq_true c51
                clear c51
                by_cases c52 : 0 ≤ x15_3
                rotate_left
                · rw [if_neg c52] at H
                  exact absurd H (by simp)
                rw [if_pos c52] at H
                have c52b0 : decide (0 ≤ x15_3) = true := decide_eq_true c52
                clear c52
                by_cases c53 : 0 ≤ x14_3
                rotate_left
                · rw [if_neg c53] at H
                  exact absurd H (by simp)
                rw [if_pos c53] at H
                have c53b0 := eq_true c53
                have c53b1 : decide (0 ≤ x14_3) = true := decide_eq_true c53
                clear c53
                by_cases c54 : x14_3 ≤ ((rd_T39 x6_2 x15_3).f0)
                rotate_left
                · rw [if_neg c54] at H
                  exact absurd H (by simp)
                rw [if_pos c54] at H
                have c54b0 := eq_true c54
                have c54b1 : decide (x14_3 ≤ ((rd_T39 x6_2 x15_3).f0)) = true := decide_eq_true c54
                clear c54
                by_cases c55 : ((rd_T39 x6_2 x15_3).f0) ≤ (t584.length : Int)
                rotate_left
                · rw [if_neg c55] at H
                  exact absurd H (by simp)
                rw [if_pos c55] at H
                have c55b0 := eq_true c55
                have c55b1 : decide (((rd_T39 x6_2 x15_3).f0) ≤ (t584.length : Int)) = true := decide_eq_true c55
                clear c55
                obtain ⟨y592, hy592⟩ : ∃ y_ : List Int, y_ = ((t584.take (((rd_T39 x6_2 x15_3).f0) : Int).toNat).drop (x14_3 : Int).toNat) := ⟨_, rfl⟩
                replace H : (if x13_3.length + y592.length < 17592186044416 then ((some (x13_3 ++ y592 : List Int)).bind fun y596 => (if y596.length + t587.length < 17592186044416 then (ductuslaw27_SwapJust.l2 k3 x6_2 t580 t584 t587 (y596 ++ t587) ((rd_T39 x6_2 x15_3).f1) (wrap64 (x15_3 + 1))) else (none))) else (none)) = some r := by first | (rw [hy592]; with_reducible exact H) | (have H2_ := (Option.bind_some _ _).symm.trans H; rw [hy592]; with_reducible exact H2_) | (have H2_ := (Option.bind_some _ _).symm.trans H; with_reducible exact H2_) | with_reducible exact H | (rw [hy592]; exact H) | exact H
                have Ny592 := Aside0.mk hy592
                clear hy592
                by_cases c56 : x13_3.length + y592.length < 17592186044416
                rotate_left
                · rw [if_neg c56] at H
                  exact absurd H (by simp)
                rw [if_pos c56] at H
                have LMc56 := Aside0.mk c56
                clear c56
                obtain ⟨y596, hy596⟩ : ∃ y_ : List Int, y_ = (x13_3 ++ y592) := ⟨_, rfl⟩
                replace H : (if y596.length + t587.length < 17592186044416 then (ductuslaw27_SwapJust.l2 k3 x6_2 t580 t584 t587 (y596 ++ t587) ((rd_T39 x6_2 x15_3).f1) (wrap64 (x15_3 + 1))) else (none)) = some r := by first | (rw [hy596]; with_reducible exact H) | (have H2_ := (Option.bind_some _ _).symm.trans H; rw [hy596]; with_reducible exact H2_) | (have H2_ := (Option.bind_some _ _).symm.trans H; with_reducible exact H2_) | with_reducible exact H | (rw [hy596]; exact H) | exact H
                have Ny596 := Aside0.mk hy596
                clear hy596
                by_cases c57 : y596.length + t587.length < 17592186044416
                rotate_left
                · rw [if_neg c57] at H
                  exact absurd H (by simp)
                rw [if_pos c57] at H
                have LMc57 := Aside0.mk c57
                clear c57
                obtain ⟨y599, hy599⟩ : ∃ y_ : List Int, y_ = (y596 ++ t587) := ⟨_, rfl⟩
                replace H : (ductuslaw27_SwapJust.l2 k3 x6_2 t580 t584 t587 y599 ((rd_T39 x6_2 x15_3).f1) (wrap64 (x15_3 + 1))) = some r := by first | (rw [hy599]; with_reducible exact H) | (have H2_ := (Option.bind_some _ _).symm.trans H; rw [hy599]; with_reducible exact H2_) | (have H2_ := (Option.bind_some _ _).symm.trans H; with_reducible exact H2_) | with_reducible exact H | (rw [hy599]; exact H) | exact H
                have Ny599 := Aside0.mk hy599
                clear hy599
                have H' := Aside0.mk H
                clear H
                have p591 : 0 ≤ (x15_3 : Int) := of_decide_eq_true (by first | (with_reducible assumption) | assumption)
                have q591 : x15_3 < (x6_2.length : Int) := of_decide_eq_true (by first | (with_reducible assumption) | assumption)
                obtain ⟨ad591, e591, hx591_0, hx591_1⟩ := at_T39 (Kd.R_reads' HO_6.out).2.2 x15_3 p591 q591
                cases e591
                replace p591 := eq_true p591
                replace q591 := eq_true q591
                have q58 : (((rd_T39 x6_2 x15_3).f0) : Int) ≤ ((t584.length : Int) : Int) := of_decide_eq_true (by first | (with_reducible assumption) | assumption)
                obtain ⟨i058, hi058, _, hsz58, _⟩ := info_parts info3
                have hroom58 : t584.length ≤ co48 := (Kd.R_reads' HO_11.out).2.1
                have hC58 : Kd.C (Kd.int .i64) _ Ao48 t584.length t584 := (Kd.R_reads' HO_11.out).2.2
                have ql58 : (x14_3 : Int) ≤ (((rd_T39 x6_2 x15_3).f0) : Int) := of_decide_eq_true (by first | (with_reducible assumption) | assumption)
                have q058 : (0 : Int) ≤ (x14_3 : Int) := of_decide_eq_true (by first | (with_reducible assumption) | assumption)
                have hcut58 := cut_mid (P := Try.prog) 22 3 .i64 .i64 Try.underlying22 hi058 1 hsz58 Ao48 t584.length co48 x14_3 ((rd_T39 x6_2 x15_3).f0) q058 ql58 q58 hroom58
                have hr58 := Kd.C_mid (lo := (x14_3 : Int).toNat) (hi := (((rd_T39 x6_2 x15_3).f0) : Int).toNat) (c := co48) hC58 (by omega) (by omega) hroom58
                obtain ⟨A58, hA58⟩ : ∃ A1, A1 = (if co48 = (x14_3 : Int).toNat then Ao48 else (Ao48 : Option Addr).map (·.add ((x14_3 : Int).toNat * 1))) := ⟨_, rfl⟩
                obtain ⟨c58, hc58⟩ : ∃ c1, c1 = co48 - (x14_3 : Int).toNat := ⟨_, rfl⟩
                have hy58 : y592.length = (((rd_T39 x6_2 x15_3).f0) : Int).toNat - (x14_3 : Int).toNat := (by rw [Ny592.out, List.length_drop, List.length_take] <;> omega)
                rw [show ((t584).take (((rd_T39 x6_2 x15_3).f0) : Int).toNat).drop (x14_3 : Int).toNat = y592 from Ny592.out.symm] at hr58
                replace hr58 : Kd.C (Kd.int .i64) _ A58 y592.length y592 := (by rw [hA58]; exact hr58)
                rw [← hy58, ← hA58, ← hc58] at hcut58
                have HR595 := Aside0.mk hr58
                have HC595 := Aside0.mk (show y592.length ≤ c58 from by rw [hy58, hc58]; exact Nat.sub_le_sub_right (Nat.le_trans (by omega) hroom58) _)
                clear hr58 hC58 hroom58 hi058 hsz58 hc58
                have KY58 := Aside0.mk hy58
                have KA58 := Aside0.mk hA58
                clear hy58 hA58
                have KL58 := Aside0.mk (show (((rd_T39 x6_2 x15_3).f0) : Int).toNat ≤ t584.length from by omega)
                have KM58 := Aside0.mk (show (x14_3 : Int).toNat ≤ (((rd_T39 x6_2 x15_3).f0) : Int).toNat from by omega)
                replace q58 := eq_true q58
                go_wp2_with (first | ((with_reducible refine gate_builtin (b := .append) (xs := #[.tmp 90, .tmp 98]) rfl ?_); (try (refine gate_guard (by rfl) ?_; dsimp only)); at_builtin; refine Kd.R_append_rows (Kd.int .i64) (w0 := w) w.heap.size rfl (.tmp 90) (.tmp 98) 22 3 (.int .i64 0) 8 rfl Try.underlying22 info3 rfl (by decide) (by omega) u13 x13_3 y592 _ _ _ (fun k_ => some k_ ≠ (v582 : Value).ownBlock ∧ some k_ ≠ (.slice Ao48 t584.length co48 : Value).ownBlock ∧ some k_ ≠ (v588 : Value).ownBlock) (fun _ => False) rfl rfl ?aO ?aR (fun _ _ h => h) (fun _ h => h.elim) ?aF ?aB ?aS ?aL ?_; (case aR => repeat (first | exact (by repeat (first | (with_reducible exact HR595.out) | (with_reducible refine Kd.C_alloc ?_ _) | (with_reducible refine Kd.C_drewN ?_ _) | (with_reducible refine Kd.C_drew ?_) | exact HR595.out)) | (with_reducible refine Kd.C_alloc ?_ _) | (with_reducible refine Kd.C_drewN ?_ _) | (with_reducible refine Kd.C_drew ?_))); (case aB => exact (by repeat (first | (with_reducible first | exact HB.out | apply below_alloc | apply pw_below_drewN | apply below_drew1 | refine below_set ?_ GE563.out) | exact HB.out))); (case aF => exact (fun k_ hk => ⟨Kd.fresh' (Kd.R_lt (by (with_reducible repeat (first | apply Kd.R_alloc | apply Kd.R_drewN | apply Kd.R_drew)); exact HO_9.out)) k_ hk, Kd.fresh' (Kd.R_lt (by (with_reducible repeat (first | apply Kd.R_alloc | apply Kd.R_drewN | apply Kd.R_drew)); exact HO_11.out)) k_ hk, Kd.fresh' (Kd.R_lt (by (with_reducible repeat (first | apply Kd.R_alloc | apply Kd.R_drewN | apply Kd.R_drew)); exact HO_12.out)) k_ hk⟩)); (case aO => exact (by (with_reducible repeat (first | apply Kd.R_alloc | apply Kd.R_drewN | apply Kd.R_drew)); exact HO_13.out)); (case aS => exact (below_size (by repeat (first | (with_reducible first | exact HB.out | apply below_alloc | apply pw_below_drewN | apply below_drew1 | refine below_set ?_ GE563.out) | exact HB.out)))); (case aL => have := LMc56.out; omega); intro v597 w59 ho hb hg hat; rw [← Ny596.out] at ho; have n0_ := Aside0.mk (Kd.R_over' (by (with_reducible repeat (first | apply Kd.R_alloc | apply Kd.R_drewN | apply Kd.R_drew)); exact HO_6.out) (Kd.R_typed (by (with_reducible repeat (first | apply Kd.R_alloc | apply Kd.R_drewN | apply Kd.R_drew)); exact HO_13.out)) (by decide) hg); have n1_ := Aside0.mk (Kd.R_after (ok := (fun k_ => some k_ ≠ (.slice Ao48 t584.length co48 : Value).ownBlock ∧ some k_ ≠ (v588 : Value).ownBlock)) (by (with_reducible repeat (first | apply Kd.R_alloc | apply Kd.R_drewN | apply Kd.R_drew)); exact Kd.R_mono HO_9.out (fun _ hk => ⟨⟨hk.1, hk.2.1⟩, hk.2.2⟩)) hg hat); have n2_ := Aside0.mk (Kd.R_after (ok := (fun k_ => some k_ ≠ (v582 : Value).ownBlock ∧ some k_ ≠ (v588 : Value).ownBlock)) (by (with_reducible repeat (first | apply Kd.R_alloc | apply Kd.R_drewN | apply Kd.R_drew)); exact Kd.R_mono HO_11.out (fun _ hk => ⟨⟨hk.1, hk.2.1⟩, hk.2.2⟩)) hg hat); have n3_ := Aside0.mk (Kd.R_after (ok := (fun k_ => some k_ ≠ (v582 : Value).ownBlock ∧ some k_ ≠ (.slice Ao48 t584.length co48 : Value).ownBlock)) (by (with_reducible repeat (first | apply Kd.R_alloc | apply Kd.R_drewN | apply Kd.R_drew)); exact Kd.R_mono HO_12.out (fun _ hk => ⟨⟨hk.1, hk.2.1⟩, hk.2.2⟩)) hg hat); have n4_ := Aside0.mk (blk_grown (g := gb563) (o := .cells #[.slice A0_0 l0_0.length c0_0, .slice A0_1 l0_1.length c0_1, .slice A0_2 l0_2.length c0_2] 25 (0, 0)) (by (with_reducible repeat (first | refine blk_drewN ?_ _ | refine blk_drew ?_ | refine blk_alloc ?_ _)); exact BK563.out) hg (Kd.R_ne HO_13.out BK563.out (by decide))); have n5_ := Aside0.mk (hb); have n6_ := Aside0.mk ((show Kd.C (Kd.int .i64) w59 A58 y592.length y592 from by rw [Ny592.out, KA58.out]; exact Kd.C_mid (lo := (x14_3 : Int).toNat) (hi := (((rd_T39 x6_2 x15_3).f0) : Int).toNat) (c := co48) ((Kd.R_reads' (Kd.R_after (ok := (fun k_ => some k_ ≠ (v582 : Value).ownBlock ∧ some k_ ≠ (v588 : Value).ownBlock)) (by (with_reducible repeat (first | apply Kd.R_alloc | apply Kd.R_drewN | apply Kd.R_drew)); exact Kd.R_mono HO_11.out (fun _ hk => ⟨⟨hk.1, hk.2.1⟩, hk.2.2⟩)) hg hat)).2.2) KM58.out KL58.out ((Kd.R_reads' (Kd.R_after (ok := (fun k_ => some k_ ≠ (v582 : Value).ownBlock ∧ some k_ ≠ (v588 : Value).ownBlock)) (by (with_reducible repeat (first | apply Kd.R_alloc | apply Kd.R_drewN | apply Kd.R_drew)); exact Kd.R_mono HO_11.out (fun _ hk => ⟨⟨hk.1, hk.2.1⟩, hk.2.2⟩)) hg hat)).2.1))); have n7_ := Aside0.mk (ho); clear HO_6; clear HO_9; clear HO_11; clear HO_12; clear BK563; clear HB; clear HR595; clear HO_13; have HO_6 := n0_; have HO_9 := n1_; have HO_11 := n2_; have HO_12 := n3_; have BK563 := n4_; have HB := n5_; have HR595 := n6_; have HO598 := n7_; clear n0_ n1_ n2_ n3_ n4_ n5_ n6_ n7_; clear ho hb hg hat; obtain ⟨Ao61, co61, eo61⟩ := Kd.R_slice HO_12.out; subst eo61) | ((with_reducible refine gate_builtin (b := .append) (xs := #[.tmp 99, .tmp 100]) rfl ?_); (try (refine gate_guard (by rfl) ?_; dsimp only)); at_builtin; refine Kd.R_append_rows (Kd.int .i64) (w0 := w) w.heap.size rfl (.tmp 99) (.tmp 100) 22 3 (.int .i64 0) 8 rfl Try.underlying22 info3 rfl (by decide) (by omega) v597 y596 t587 _ _ _ (fun k_ => some k_ ≠ (v582 : Value).ownBlock ∧ some k_ ≠ (.slice Ao48 t584.length co48 : Value).ownBlock ∧ some k_ ≠ (.slice Ao61 t587.length co61 : Value).ownBlock) (fun _ => False) rfl rfl ?aO ?aR (fun _ _ h => h) (fun _ h => h.elim) ?aF ?aB ?aS ?aL ?_; (case aR => repeat (first | exact (Kd.R_reads' HO_12.out).2.2 | (with_reducible refine Kd.C_alloc ?_ _) | (with_reducible refine Kd.C_drewN ?_ _) | (with_reducible refine Kd.C_drew ?_))); (case aB => exact (by repeat (first | (with_reducible first | exact HB.out | apply below_alloc | apply pw_below_drewN | apply below_drew1 | refine below_set ?_ GE563.out) | exact HB.out))); (case aF => exact (fun k_ hk => ⟨Kd.fresh' (Kd.R_lt (by (with_reducible repeat (first | apply Kd.R_alloc | apply Kd.R_drewN | apply Kd.R_drew)); exact HO_9.out)) k_ hk, Kd.fresh' (Kd.R_lt (by (with_reducible repeat (first | apply Kd.R_alloc | apply Kd.R_drewN | apply Kd.R_drew)); exact HO_11.out)) k_ hk, Kd.fresh' (Kd.R_lt (by (with_reducible repeat (first | apply Kd.R_alloc | apply Kd.R_drewN | apply Kd.R_drew)); exact HO_12.out)) k_ hk⟩)); (case aO => exact (by (with_reducible repeat (first | apply Kd.R_alloc | apply Kd.R_drewN | apply Kd.R_drew)); exact HO598.out)); (case aS => exact (below_size (by repeat (first | (with_reducible first | exact HB.out | apply below_alloc | apply pw_below_drewN | apply below_drew1 | refine below_set ?_ GE563.out) | exact HB.out)))); (case aL => have := LMc57.out; omega); intro v600 w60 ho hb hg hat; rw [← Ny599.out] at ho; have n0_ := Aside0.mk (Kd.R_over' (by (with_reducible repeat (first | apply Kd.R_alloc | apply Kd.R_drewN | apply Kd.R_drew)); exact HO_6.out) (Kd.R_typed (by (with_reducible repeat (first | apply Kd.R_alloc | apply Kd.R_drewN | apply Kd.R_drew)); exact HO598.out)) (by decide) hg); have n1_ := Aside0.mk (Kd.R_after (ok := (fun k_ => some k_ ≠ (.slice Ao48 t584.length co48 : Value).ownBlock ∧ some k_ ≠ (.slice Ao61 t587.length co61 : Value).ownBlock)) (by (with_reducible repeat (first | apply Kd.R_alloc | apply Kd.R_drewN | apply Kd.R_drew)); exact HO_9.out) hg hat); have n2_ := Aside0.mk (Kd.R_after (ok := (fun k_ => some k_ ≠ (v582 : Value).ownBlock ∧ some k_ ≠ (.slice Ao61 t587.length co61 : Value).ownBlock)) (by (with_reducible repeat (first | apply Kd.R_alloc | apply Kd.R_drewN | apply Kd.R_drew)); exact HO_11.out) hg hat); have n3_ := Aside0.mk (Kd.R_after (ok := (fun k_ => some k_ ≠ (v582 : Value).ownBlock ∧ some k_ ≠ (.slice Ao48 t584.length co48 : Value).ownBlock)) (by (with_reducible repeat (first | apply Kd.R_alloc | apply Kd.R_drewN | apply Kd.R_drew)); exact HO_12.out) hg hat); have n4_ := Aside0.mk (blk_grown (g := gb563) (o := .cells #[.slice A0_0 l0_0.length c0_0, .slice A0_1 l0_1.length c0_1, .slice A0_2 l0_2.length c0_2] 25 (0, 0)) (by (with_reducible repeat (first | refine blk_drewN ?_ _ | refine blk_drew ?_ | refine blk_alloc ?_ _)); exact BK563.out) hg (Kd.R_ne HO598.out BK563.out (by decide))); have n5_ := Aside0.mk (hb); have n6_ := Aside0.mk ((show Kd.C (Kd.int .i64) w60 A58 y592.length y592 from by rw [Ny592.out, KA58.out]; exact Kd.C_mid (lo := (x14_3 : Int).toNat) (hi := (((rd_T39 x6_2 x15_3).f0) : Int).toNat) (c := co48) ((Kd.R_reads' (Kd.R_after (ok := (fun k_ => some k_ ≠ (v582 : Value).ownBlock ∧ some k_ ≠ (.slice Ao61 t587.length co61 : Value).ownBlock)) (by (with_reducible repeat (first | apply Kd.R_alloc | apply Kd.R_drewN | apply Kd.R_drew)); exact HO_11.out) hg hat)).2.2) KM58.out KL58.out ((Kd.R_reads' (Kd.R_after (ok := (fun k_ => some k_ ≠ (v582 : Value).ownBlock ∧ some k_ ≠ (.slice Ao61 t587.length co61 : Value).ownBlock)) (by (with_reducible repeat (first | apply Kd.R_alloc | apply Kd.R_drewN | apply Kd.R_drew)); exact HO_11.out) hg hat)).2.1))); have n7_ := Aside0.mk (ho); clear HO_6; clear HO_9; clear HO_11; clear HO_12; clear BK563; clear HB; clear HR595; clear HO598; have HO_6 := n0_; have HO_9 := n1_; have HO_11 := n2_; have HO_12 := n3_; have BK563 := n4_; have HB := n5_; have HR595 := n6_; have HO601 := n7_; clear n0_ n1_ n2_ n3_ n4_ n5_ n6_ n7_; clear ho hb hg hat; have p602 : 0 ≤ (x15_3 : Int) := of_decide_eq_true (by first | (with_reducible assumption) | assumption); have q602 : x15_3 < (x6_2.length : Int) := of_decide_eq_true (by first | (with_reducible assumption) | assumption); obtain ⟨ad602, e602, hx602_0, hx602_1⟩ := at_T39 (Kd.R_reads' HO_6.out).2.2 x15_3 p602 q602; obtain rfl : ad591 = ad602 := (by injection e602); replace p602 := eq_true p602; replace q602 := eq_true q602))
                go_roundg k3
                case measure => have := HJ4.out; have := HK2.out; have := HK3.out; omega
                case rel => exact ⟨(y599), ((rd_T39 x6_2 x15_3).f1), (wrap64 (x15_3 + 1)), (by first | rfl | (simp; done) | (simp [*]; done)), (by first | rfl | (simp; done) | (simp [*]; done)), H', ⟨by have := HJ4.out; have := HK2.out; have := HK3.out; omega⟩, ⟨by (with_reducible repeat (first | apply Kd.R_alloc | apply Kd.R_drewN | apply Kd.R_drew)); exact HO_6.out⟩, ⟨by (with_reducible repeat (first | apply Kd.R_alloc | apply Kd.R_drewN | apply Kd.R_drew)); exact Kd.R_mono HO_9.out (fun _ hk => ⟨hk.1.1, ⟨hk.1.2, hk.2⟩⟩)⟩, ⟨by (with_reducible repeat (first | apply Kd.R_alloc | apply Kd.R_drewN | apply Kd.R_drew)); exact Kd.R_mono HO_11.out (fun _ hk => ⟨hk.1.1, ⟨hk.1.2, hk.2⟩⟩)⟩, ⟨by (with_reducible repeat (first | apply Kd.R_alloc | apply Kd.R_drewN | apply Kd.R_drew)); exact Kd.R_mono HO_12.out (fun _ hk => ⟨hk.1.1, ⟨hk.1.2, hk.2⟩⟩)⟩, ⟨by (with_reducible repeat (first | apply Kd.R_alloc | apply Kd.R_drewN | apply Kd.R_drew)); exact HO601.out⟩, ⟨by (with_reducible repeat (first | refine blk_drewN ?_ _ | refine blk_drew ?_ | refine blk_alloc ?_ _)); exact BK563.out⟩, ⟨by repeat (first | (with_reducible first | exact HB.out | apply below_alloc | apply pw_below_drewN | apply below_drew1 | refine below_set ?_ GE563.out) | exact HB.out)⟩⟩
          rw [if_pos c15] at H
          have c15b0 : decide (x7_2 < (l0_1.length : Int)) = true := decide_eq_true c15
          clear c15
          have H' := Aside0.mk H
          clear H
          have hcz16_0 : wr.cell? ⟨gb563, 0, none⟩ = some (.slice A0_0 l0_0.length c0_0) := (blk_cell BK563.out 0).trans rfl
          have hcz16_1 : wr.cell? ⟨gb563, 1, none⟩ = some (.slice A0_1 l0_1.length c0_1) := (blk_cell BK563.out 1).trans rfl
          have hcz16_2 : wr.cell? ⟨gb563, 2, none⟩ = some (.slice A0_2 l0_2.length c0_2) := (blk_cell BK563.out 2).trans rfl
          have hfz16_0 := blk_frozen BK563.out 0
          have hfz16_1 := blk_frozen BK563.out 1
          have hfz16_2 := blk_frozen BK563.out 2
          go_wp2
          go_loopg [5, 6, 8] k2 (fun kq v5 v6 v8 w' => ∃ (x5_3 : List Int) (x6_3 : List (S39)) (x8_3 : Int), v8 = .int .i64 x8_3 ∧ Aside0 (ductuslaw27_SwapJust.l1 kq l1 x5_3 x6_3 x7_2 x8_3 l0_0 l0_1 l0_2 = some r) ∧ Aside0 (kq ≤ k2) ∧ Aside0 (Kd.R (Kd.int .i64) 3 w' w.heap.size (fun _ => True) v5 x5_3) ∧ Aside0 (Kd.R k39 39 w' w.heap.size (fun _ => True) v6 x6_3) ∧ Aside0 (w'.heap[gb563]? = some (.cells #[(.slice A0_0 l0_0.length c0_0), (.slice A0_1 l0_1.length c0_1), (.slice A0_2 l0_2.length c0_2)] 25 (0, 0))) ∧ Aside0 (Below w.heap.size w w'))
          case atStart => exact ⟨(x5_2), (x6_2), (0), (by first | rfl | (simp; done) | (simp [*]; done)), H', ⟨Nat.le_refl _⟩, ⟨by (with_reducible repeat (first | apply Kd.R_alloc | apply Kd.R_drewN | apply Kd.R_drew)); exact HO_5.out⟩, ⟨by (with_reducible repeat (first | apply Kd.R_alloc | apply Kd.R_drewN | apply Kd.R_drew)); exact HO_6.out⟩, ⟨by (with_reducible repeat (first | refine blk_drewN ?_ _ | refine blk_drew ?_ | refine blk_alloc ?_ _)); exact BK563.out⟩, ⟨by repeat (first | (with_reducible first | exact HB.out | apply below_alloc | apply pw_below_drewN | apply below_drew1 | refine below_set ?_ GE563.out) | exact HB.out)⟩⟩
          case round =>
            clear H'
            try clear c1
            try clear p2
            try clear c4
            try clear c8
            try clear c9
            try clear c14
            try clear c15
            try clear c15b0
            try clear hcz10_0
            try clear hcz10_1
            try clear hcz10_2
            try clear hcz12_0
            try clear hcz12_1
            try clear hcz12_2
            try clear hcz16_0
            try clear hcz16_1
            try clear hcz16_2
            try clear hfz10_0
            try clear hfz10_1
            try clear hfz10_2
            try clear hfz12_0
            try clear hfz12_1
            try clear hfz12_2
            try clear hfz16_0
            try clear hfz16_1
            try clear hfz16_2
            try clear p2
            obtain ⟨x5_3, x6_3, x8_3, rfl, HA, HK3, HO_5, HO_6, BK563, HB⟩ := hrel
            cases gk with
            | zero => exact absurd HA.out (by simp [ductuslaw27_SwapJust.l1])
            | succ k3 =>
              have H := HA.out
              clear HA
              simp only [ductuslaw27_SwapJust.l1] at H
              by_cases c17 : x8_3 < (l1.length : Int)
              rotate_left
              · rw [if_neg c17] at H
                have c17b0 : decide (x8_3 < (l1.length : Int)) = false := decide_eq_false c17
                clear c17
                have H' := Aside0.mk H
                clear H
                go_wp2
                go_roundg k3
                case measure => have := HJ4.out; have := HK2.out; have := HK3.out; omega
                case rel => exact ⟨(x5_3), (x6_3), (wrap64 (x7_2 + 1)), (by first | rfl | (simp; done) | (simp [*]; done)), H', ⟨by have := HJ4.out; have := HK2.out; have := HK3.out; omega⟩, ⟨by (with_reducible repeat (first | apply Kd.R_alloc | apply Kd.R_drewN | apply Kd.R_drew)); exact HO_5.out⟩, ⟨by (with_reducible repeat (first | apply Kd.R_alloc | apply Kd.R_drewN | apply Kd.R_drew)); exact HO_6.out⟩, ⟨by (with_reducible repeat (first | refine blk_drewN ?_ _ | refine blk_drew ?_ | refine blk_alloc ?_ _)); exact BK563.out⟩, ⟨by repeat (first | (with_reducible first | exact HB.out | apply below_alloc | apply pw_below_drewN | apply below_drew1 | refine below_set ?_ GE563.out) | exact HB.out)⟩⟩
              rw [if_pos c17] at H
              have c17b0 : decide (x8_3 < (l1.length : Int)) = true := decide_eq_true c17
              clear c17
              by_cases c18 : 0 ≤ x8_3
              rotate_left
              · rw [if_neg c18] at H
                exact absurd H (by simp)
              rw [if_pos c18] at H
              have c18b0 : decide (0 ≤ x8_3) = true := decide_eq_true c18
              clear c18
              by_cases c19 : (wrap64 (rd l1 x8_3)) = x7_2
              rotate_left
              · rw [if_neg c19] at H
                have c19b0 : ((wrap64 (rd l1 x8_3)) == x7_2) = false := beq_eq_false_iff_ne.mpr c19
                have c19b1 : ((wrap64 (rd l1 x8_3)) != x7_2) = true := bne_iff_ne.mpr c19
                have H' := Aside0.mk H
                clear H
                have p566 : 0 ≤ (x8_3 : Int) := of_decide_eq_true (by first | (with_reducible assumption) | assumption)
                have q566 : x8_3 < (l1.length : Int) := of_decide_eq_true (by first | (with_reducible assumption) | assumption)
                obtain ⟨ad566, e566, hx566_0⟩ := Kd.at_int HR1.out x8_3 p566 q566
                cases e566
                replace hx566_0 := (HB.out.cell (World.block_lt_of_cell? w _ hx566_0)).trans hx566_0
                replace p566 := eq_true p566
                replace q566 := eq_true q566
                go_wp2
                go_roundg k3
                case measure => have := HJ4.out; have := HK2.out; have := HK3.out; omega
                case rel => exact ⟨(x5_3), (x6_3), (wrap64 (x8_3 + 1)), (by first | rfl | (simp; done) | (simp [*]; done)), H', ⟨by have := HJ4.out; have := HK2.out; have := HK3.out; omega⟩, ⟨by (with_reducible repeat (first | apply Kd.R_alloc | apply Kd.R_drewN | apply Kd.R_drew)); exact HO_5.out⟩, ⟨by (with_reducible repeat (first | apply Kd.R_alloc | apply Kd.R_drewN | apply Kd.R_drew)); exact HO_6.out⟩, ⟨by (with_reducible repeat (first | refine blk_drewN ?_ _ | refine blk_drew ?_ | refine blk_alloc ?_ _)); exact BK563.out⟩, ⟨by repeat (first | (with_reducible first | exact HB.out | apply below_alloc | apply pw_below_drewN | apply below_drew1 | refine below_set ?_ GE563.out) | exact HB.out)⟩⟩
              rw [if_pos c19] at H
              have c19b0 : ((wrap64 (rd l1 x8_3)) == x7_2) = true := beq_iff_eq.mpr c19
              have c19b1 : ((wrap64 (rd l1 x8_3)) != x7_2) = false := bne_eq_false_iff_eq.mpr c19
              clear c19
              obtain ⟨y567, hy567⟩ : ∃ y_ : List Int, y_ = (([x7_2] : List Int)) := ⟨_, rfl⟩
              replace H : (if x5_3.length + y567.length < 17592186044416 then (if 0 ≤ x7_2 then (if x7_2 < (l0_1.length : Int) then ((some (([(⟨(rd_T39 l0_1 x7_2).f0, (rd_T39 l0_1 x7_2).f1⟩ : S39)] : List (S39)) : List (S39))).bind fun y574 => (if x6_3.length + y574.length < 8796093022208 then (ductuslaw27_SwapJust.l0 k3 l1 (x5_3 ++ y567) (x6_3 ++ y574) (wrap64 (x7_2 + 1)) l0_0 l0_1 l0_2) else (none))) else (none)) else (none)) else (none)) = some r := by first | (rw [hy567]; with_reducible exact H) | (have H2_ := (Option.bind_some _ _).symm.trans H; rw [hy567]; with_reducible exact H2_) | (have H2_ := (Option.bind_some _ _).symm.trans H; with_reducible exact H2_) | with_reducible exact H | (rw [hy567]; exact H) | exact H
              have Ny567 := Aside0.mk hy567
              clear hy567
              by_cases c20 : x5_3.length + y567.length < 17592186044416
              rotate_left
              · rw [if_neg c20] at H
                exact absurd H (by simp)
              rw [if_pos c20] at H
              have LMc20 := Aside0.mk c20
              clear c20
              obtain ⟨y570, hy570⟩ : ∃ y_ : List Int, y_ = (x5_3 ++ y567) := ⟨_, rfl⟩
              replace H : (if 0 ≤ x7_2 then (if x7_2 < (l0_1.length : Int) then ((some (([(⟨(rd_T39 l0_1 x7_2).f0, (rd_T39 l0_1 x7_2).f1⟩ : S39)] : List (S39)) : List (S39))).bind fun y574 => (if x6_3.length + y574.length < 8796093022208 then (ductuslaw27_SwapJust.l0 k3 l1 y570 (x6_3 ++ y574) (wrap64 (x7_2 + 1)) l0_0 l0_1 l0_2) else (none))) else (none)) else (none)) = some r := by first | (rw [hy570]; with_reducible exact H) | (have H2_ := (Option.bind_some _ _).symm.trans H; rw [hy570]; with_reducible exact H2_) | (have H2_ := (Option.bind_some _ _).symm.trans H; with_reducible exact H2_) | with_reducible exact H | (rw [hy570]; exact H) | exact H
              have Ny570 := Aside0.mk hy570
              clear hy570
              by_cases c21 : 0 ≤ x7_2
              rotate_left
              · rw [if_neg c21] at H
                exact absurd H (by simp)
              rw [if_pos c21] at H
              have c21b0 : decide (0 ≤ x7_2) = true := decide_eq_true c21
              clear c21
              by_cases c22 : x7_2 < (l0_1.length : Int)
              rotate_left
              · rw [if_neg c22] at H
                exact absurd H (by simp)
              rw [if_pos c22] at H
              have c22b0 : decide (x7_2 < (l0_1.length : Int)) = true := decide_eq_true c22
              clear c22
              obtain ⟨y574, hy574⟩ : ∃ y_ : List (S39), y_ = (([(⟨(rd_T39 l0_1 x7_2).f0, (rd_T39 l0_1 x7_2).f1⟩ : S39)] : List (S39))) := ⟨_, rfl⟩
              replace H : (if x6_3.length + y574.length < 8796093022208 then (ductuslaw27_SwapJust.l0 k3 l1 y570 (x6_3 ++ y574) (wrap64 (x7_2 + 1)) l0_0 l0_1 l0_2) else (none)) = some r := by first | (rw [hy574]; with_reducible exact H) | (have H2_ := (Option.bind_some _ _).symm.trans H; rw [hy574]; with_reducible exact H2_) | (have H2_ := (Option.bind_some _ _).symm.trans H; with_reducible exact H2_) | with_reducible exact H | (rw [hy574]; exact H) | exact H
              have Ny574 := Aside0.mk hy574
              clear hy574
              by_cases c23 : x6_3.length + y574.length < 8796093022208
              rotate_left
              · rw [if_neg c23] at H
                exact absurd H (by simp)
              rw [if_pos c23] at H
              have LMc23 := Aside0.mk c23
              clear c23
              obtain ⟨y577, hy577⟩ : ∃ y_ : List (S39), y_ = (x6_3 ++ y574) := ⟨_, rfl⟩
              replace H : (ductuslaw27_SwapJust.l0 k3 l1 y570 y577 (wrap64 (x7_2 + 1)) l0_0 l0_1 l0_2) = some r := by first | (rw [hy577]; with_reducible exact H) | (have H2_ := (Option.bind_some _ _).symm.trans H; rw [hy577]; with_reducible exact H2_) | (have H2_ := (Option.bind_some _ _).symm.trans H; with_reducible exact H2_) | with_reducible exact H | (rw [hy577]; exact H) | exact H
              have Ny577 := Aside0.mk hy577
              clear hy577
              have H' := Aside0.mk H
              clear H
              have p566 : 0 ≤ (x8_3 : Int) := of_decide_eq_true (by first | (with_reducible assumption) | assumption)
              have q566 : x8_3 < (l1.length : Int) := of_decide_eq_true (by first | (with_reducible assumption) | assumption)
              obtain ⟨ad566, e566, hx566_0⟩ := Kd.at_int HR1.out x8_3 p566 q566
              cases e566
              replace hx566_0 := (HB.out.cell (World.block_lt_of_cell? w _ hx566_0)).trans hx566_0
              replace p566 := eq_true p566
              replace q566 := eq_true q566
              obtain ⟨Ao24, co24, eo24⟩ := Kd.R_slice HO_5.out
              subst eo24
              obtain ⟨Ao25, co25, eo25⟩ := Kd.R_slice HO_6.out
              subst eo25
              try go_wp2
              have n0_ := Aside0.mk (Kd.R_drew HO_5.out)
              have n1_ := Aside0.mk (Kd.R_drew HO_6.out)
              have n2_ := Aside0.mk (blk_drew BK563.out)
              have n3_ := Aside0.mk (below_drew1 HB.out)
              clear HO_5
              clear HO_6
              clear BK563
              clear HB
              have HO_5 := n0_
              have HO_6 := n1_
              have BK563 := n2_
              have HB := n3_
              clear n0_ n1_ n2_ n3_
              have p573 : 0 ≤ (x7_2 : Int) := of_decide_eq_true (by first | (with_reducible assumption) | assumption)
              have q573 : x7_2 < (l0_1.length : Int) := of_decide_eq_true (by first | (with_reducible assumption) | assumption)
              obtain ⟨ad573, e573, hx573_0, hx573_1⟩ := at_T39 HR0_1.out x7_2 p573 q573
              have hw573_1 := hx573_1
              have hw573_0 := hx573_0
              cases e573
              replace hx573_0 := (HB.out.cell (World.block_lt_of_cell? w _ hx573_0)).trans hx573_0
              replace hx573_1 := (HB.out.cell (World.block_lt_of_cell? w _ hx573_1)).trans hx573_1
              replace p573 := eq_true p573
              replace q573 := eq_true q573
              refine start_ (n := 14) (S := fun w' => w'.cell? ⟨gb563, 0, none⟩ = some (.slice A0_0 l0_0.length c0_0) ∧ w'.cell? ⟨gb563, 1, none⟩ = some (.slice (some ad573) l0_1.length c0_1) ∧ w'.cell? ⟨gb563, 2, none⟩ = some (.slice A0_2 l0_2.length c0_2) ∧ w'.cell? (ad573.add ((x7_2).toNat * 2)) = some (.int .i64 ((rd_T39 l0_1 x7_2).f0)) ∧ w'.cell? ⟨(ad573.add ((x7_2).toNat * 2)).block, (ad573.add ((x7_2).toNat * 2)).off + 1, none⟩ = some (.int .i64 ((rd_T39 l0_1 x7_2).f1))) (ds := []) #[false, false, false, false, false, false, false, false, false, false, false, false, false, false] (by kernel_rfl) rfl rfl ⟨(blk_cell BK563.out 0).trans rfl, (blk_cell BK563.out 1).trans rfl, (blk_cell BK563.out 2).trans rfl, ((HB.out.cell (World.block_lt_of_cell? w _ hw573_0)).trans hw573_0), ((HB.out.cell (World.block_lt_of_cell? w _ hw573_1)).trans hw573_1)⟩ (fun hHeld => ?_); refine with_tabW ductuslaw27_SwapJust.tab14 ductuslaw27_SwapJust.bits14 (fun HT_ HW_ => ?_)
              generalize wr.drew = w26 at HO_5 HO_6 BK563 HB hx573_0 hx573_1 hHeld ⊢
              refine pure_ (i := 0) (N := some 45) (v := ?_) (a' := ?_) #[true, false, false, false, false, false, false, false, false, false, false, false, false, false] rfl rfl (any_of HT_.out (by kernel_rfl)) (fun _ _ _ h => h) (Or.inl ⟨by rfl, ?_⟩) ?_ ?_
              rotate_left
              · intro w'
                go_simp
                with_reducible rfl
              rotate_left
              · simp only [Act.put, List.setIfInBounds_toArray, List.set_cons_zero, List.set_cons_succ, i64_w, i32_w]
                rfl
              refine pure_ (i := 1) (N := some 46) (v := ?_) (a' := ?_) #[true, true, false, false, false, false, false, false, false, false, false, false, false, false] rfl rfl (any_of HT_.out (by kernel_rfl)) (fun _ _ _ h => h) (Or.inl ⟨by rfl, ?_⟩) ?_ ?_
              rotate_left
              · intro w'
                go_simp
                with_reducible rfl
              rotate_left
              · simp only [Act.put, List.setIfInBounds_toArray, List.set_cons_zero, List.set_cons_succ, i64_w, i32_w]
                rfl
              refine pure_ (i := 4) (N := some 49) (v := ?_) (a' := ?_) #[true, true, false, false, true, false, false, false, false, false, false, false, false, false] rfl rfl (any_of HT_.out (by kernel_rfl)) (fun _ _ _ h => h) (Or.inl ⟨by rfl, ?_⟩) ?_ ?_
              rotate_left
              · intro w'
                go_simp
                with_reducible rfl
              rotate_left
              · simp only [Act.put, List.setIfInBounds_toArray, List.set_cons_zero, List.set_cons_succ, i64_w, i32_w]
                rfl
              refine pure_ (i := 5) (N := some 50) (v := ?_) (a' := ?_) #[true, true, false, false, true, true, false, false, false, false, false, false, false, false] rfl rfl (any_of HT_.out (by kernel_rfl)) (fun _ _ _ h => h) (Or.inl ⟨by rfl, ?_⟩) ?_ ?_
              rotate_left
              · intro w'
                go_simp
                with_reducible rfl
              rotate_left
              · simp only [Act.put, List.setIfInBounds_toArray, List.set_cons_zero, List.set_cons_succ, i64_w, i32_w]
                rfl
              refine pure_ (i := 7) (N := some 52) (v := ?_) (a' := ?_) #[true, true, false, false, true, true, false, true, false, false, false, false, false, false] rfl rfl (any_of HT_.out (by kernel_rfl)) (fun _ _ _ h => h) (Or.inl ⟨by rfl, ?_⟩) ?_ ?_
              rotate_left
              · intro w'
                go_simp
                with_reducible rfl
              rotate_left
              · simp only [Act.put, List.setIfInBounds_toArray, List.set_cons_zero, List.set_cons_succ, i64_w, i32_w]
                rfl
              refine take_ (i := 6) (N := some 51) (v := ?_) (a' := ?_) #[true, true, false, false, true, true, true, true, false, false, false, false, false, false] rfl rfl (take_ofW HT_.out HW_.out (by kernel_rfl)) (fun _ _ _ h => h) (Or.inl ⟨by rfl, ?_⟩) hHeld ?_ ?_
              rotate_left
              · rintro w' ⟨s0, s1, s2, s3, s4⟩
                go_simp
                with_reducible rfl
              rotate_left
              · simp only [Act.put, List.setIfInBounds_toArray, List.set_cons_zero, List.set_cons_succ, i64_w, i32_w]
                rfl
              refine pure_ (i := 8) (N := some 53) (v := ?_) (a' := ?_) #[true, true, false, false, true, true, true, true, true, false, false, false, false, false] rfl rfl (any_of HT_.out (by kernel_rfl)) (fun _ _ _ h => h) (Or.inl ⟨by rfl, ?_⟩) ?_ ?_
              rotate_left
              · intro w'
                go_simp
                with_reducible rfl
              rotate_left
              · simp only [Act.put, List.setIfInBounds_toArray, List.set_cons_zero, List.set_cons_succ, i64_w, i32_w]
                rfl
              refine take_ (i := 9) (N := some 54) (v := ?_) (a' := ?_) #[true, true, false, false, true, true, true, true, true, true, false, false, false, false] rfl rfl (take_ofW HT_.out HW_.out (by kernel_rfl)) (fun _ _ _ h => h) (Or.inl ⟨by rfl, ?_⟩) hHeld ?_ ?_
              rotate_left
              · rintro w' ⟨s0, s1, s2, s3, s4⟩
                go_simp
                with_reducible rfl
              rotate_left
              · simp only [Act.put, List.setIfInBounds_toArray, List.set_cons_zero, List.set_cons_succ, i64_w, i32_w]
                rfl
              refine join_ (σ := Value × Value × Value) 3 #[true, true, true, true, true, true, true, true, true, true, true, false, false, false] (fun s_ => [(47, s_.1), (48, s_.2.1), (55, s_.2.2)]) (fun s_ w' => (w'.cell? ⟨gb563, 0, none⟩ = some (.slice A0_0 l0_0.length c0_0) ∧ w'.cell? ⟨gb563, 1, none⟩ = some (.slice (some ad573) l0_1.length c0_1) ∧ w'.cell? ⟨gb563, 2, none⟩ = some (.slice A0_2 l0_2.length c0_2) ∧ w'.cell? (ad573.add ((x7_2).toNat * 2)) = some (.int .i64 ((rd_T39 l0_1 x7_2).f0)) ∧ w'.cell? ⟨(ad573.add ((x7_2).toNat * 2)).block, (ad573.add ((x7_2).toNat * 2)).off + 1, none⟩ = some (.int .i64 ((rd_T39 l0_1 x7_2).f1))) ∧ (Kd.R (Kd.int .i64) 3 w' w.heap.size (fun k_ => some k_ ≠ (s_.2.1 : Value).ownBlock) s_.1 y567) ∧ (Kd.R (Kd.int .i64) 3 w' w.heap.size (fun k_ => some k_ ≠ (s_.1 : Value).ownBlock) s_.2.1 y570) ∧ (Kd.R k39 39 w' w.heap.size (fun k_ => some k_ ≠ (.slice Ao25 x6_3.length co25 : Value).ownBlock) s_.2.2 y574) ∧ (Kd.R k39 39 w' w.heap.size (fun k_ => some k_ ≠ (s_.2.2 : Value).ownBlock) (.slice Ao25 x6_3.length co25) x6_3) ∧ (w'.heap[gb563]? = some (.cells #[.slice A0_0 l0_0.length c0_0, .slice (some ad573) l0_1.length c0_1, .slice A0_2 l0_2.length c0_2] 25 (0, 0))) ∧ (Below w.heap.size w w')) ?_ ?_
              rotate_left
              · intro hCont
                refine two_ (i := 2) (j := 10) (Ni := some 47) (Nj := some 55) #[true, true, true, false, true, true, true, true, true, true, false, false, false, false] #[true, true, false, false, true, true, true, true, true, true, true, false, false, false] rfl rfl rfl rfl (two_of HT_.out (by kernel_rfl)) (by decide) (by decide) (fun K hK => ?_) (fun K hK => ?_)
                · skip
                  refine Kd.R_lit_step (Kd.int .i64) _ 3 ?hg (N := 47) ?hd (xs := ([x7_2] : List Int)) (inner := [.int .i64 x7_2]) (ok := fun _ => True) (okp := fun _ => True) ?hr ?hp (fun _ hk => hk) trivial (Below.refl _ _) (Nat.le_refl _) (by simp) ?_; (case hd => rfl); (case hg => rfl); (case hr => first | (go_simp; done) | (go_simp; rfl)); (case hp => exact (Reps.one (show Kd.M (Kd.int .i64) _ _ _ x7_2 [.int .i64 x7_2] from rfl) (Reps.none _ _)))
                  intro v568 w27 ho28 hb hg_ hnew_
                  clear hg_ hnew_
                  (first | rw [← Ny567.out] at ho28 | (simp only [Int.reduceToNat] at ho28; rw [← Ny567.out] at ho28))
                  have n0_ := Aside0.mk (Kd.R_elder' (by (with_reducible repeat (first | apply Kd.R_alloc | apply Kd.R_drewN | apply Kd.R_drew)); exact HO_5.out) (Kd.R_base ho28) hb)
                  have n1_ := Aside0.mk (Kd.R_below (by (with_reducible repeat (first | apply Kd.R_alloc | apply Kd.R_drewN | apply Kd.R_drew)); exact HO_6.out) hb)
                  have n2_ := Aside0.mk (Kd.R_lower (Kd.R_new' ho28 (Kd.R_lt (by (with_reducible repeat (first | apply Kd.R_alloc | apply Kd.R_drewN | apply Kd.R_drew)); exact HO_5.out))) (below_size (by repeat (first | (with_reducible first | exact HB.out | apply below_alloc | apply pw_below_drewN | apply below_drew1 | refine below_set ?_ GE563.out) | exact HB.out))))
                  have n3_ := Aside0.mk (blk_below (g := gb563) (o := .cells #[.slice A0_0 l0_0.length c0_0, .slice (some ad573) l0_1.length c0_1, .slice A0_2 l0_2.length c0_2] 25 (0, 0)) (by (with_reducible repeat (first | refine blk_drewN ?_ _ | refine blk_drew ?_ | refine blk_alloc ?_ _)); exact BK563.out) hb)
                  have n4_ := Aside0.mk (below_step (by repeat (first | (with_reducible first | exact HB.out | apply below_alloc | apply pw_below_drewN | apply below_drew1 | refine below_set ?_ GE563.out) | exact HB.out)) hb)
                  clear HO_5
                  clear HO_6
                  clear BK563
                  clear HB
                  have HO_5 := n0_
                  have HO_6 := n1_
                  have HO569 := n2_
                  have BK563 := n3_
                  have HB := n4_
                  clear n0_ n1_ n2_ n3_ n4_
                  clear hb ho28
                  obtain ⟨Ao30, co30, eo30⟩ := Kd.R_slice HO569.out
                  (first | subst eo30 | (injection eo30 with f1_ f2_ f3_; have f4_ := f1_.symm; have f5_ := f3_.symm; clear f1_ f2_ f3_; subst f4_; subst f5_))
                  refine hK.out _ _ ⟨(blk_cell BK563.out 0).trans rfl, (blk_cell BK563.out 1).trans rfl, (blk_cell BK563.out 2).trans rfl, ((HB.out.cell (World.block_lt_of_cell? w _ hw573_0)).trans hw573_0), ((HB.out.cell (World.block_lt_of_cell? w _ hw573_1)).trans hw573_1)⟩ (fun hHeld => ?_)
                  clear hK K
                  refine norm_ (a' := ?_) ?_ ?_
                  rotate_left
                  · show Act.put _ (some 47) _ = _
                    simp only [Act.put, List.setIfInBounds_toArray, List.set_cons_zero, List.set_cons_succ, i64_w, i32_w]
                    rfl
                  refine two_ (i := 3) (j := 10) (Ni := some 48) (Nj := some 55) #[true, true, true, true, true, true, true, true, true, true, false, false, false, false] #[true, true, true, false, true, true, true, true, true, true, true, false, false, false] rfl rfl rfl rfl (two_of HT_.out (by kernel_rfl)) (by decide) (by decide) (fun K hK => ?_) (fun K hK => ?_)
                  · skip
                    refine Kd.R_append_rows_step (Kd.int .i64) (w0 := w) w.heap.size (by rfl) (.tmp 45) (.tmp 47) 22 3 (.int .i64 0) 8 rfl Try.underlying22 info3 rfl (by decide) (by omega) (.slice Ao24 x5_3.length co24) x5_3 y567 _ _ _ (fun k_ => some k_ ≠ (.slice Ao30 y567.length co30 : Value).ownBlock) (fun _ => False) rfl rfl ?aO ?aR (fun _ _ h => h) (fun _ h => h.elim) ?aF ?aB ?aS ?aL ?_
                    (case aR => repeat (first | exact (Kd.R_reads' HO569.out).2.2 | (with_reducible refine Kd.C_alloc ?_ _) | (with_reducible refine Kd.C_drewN ?_ _) | (with_reducible refine Kd.C_drew ?_)))
                    (case aB => exact (by repeat (first | (with_reducible first | exact HB.out | apply below_alloc | apply pw_below_drewN | apply below_drew1 | refine below_set ?_ GE563.out) | exact HB.out)))
                    (case aF => exact (fun k_ hk => Kd.fresh' (Kd.R_lt (by (with_reducible repeat (first | apply Kd.R_alloc | apply Kd.R_drewN | apply Kd.R_drew)); exact HO569.out)) k_ hk))
                    (case aO => exact (by (with_reducible repeat (first | apply Kd.R_alloc | apply Kd.R_drewN | apply Kd.R_drew)); exact Kd.R_mono HO_5.out (fun _ hk => hk.2)))
                    (case aS => exact (below_size (by repeat (first | (with_reducible first | exact HB.out | apply below_alloc | apply pw_below_drewN | apply below_drew1 | refine below_set ?_ GE563.out) | exact HB.out))))
                    (case aL => have := LMc20.out; omega)
                    intro v571 w29 ho hb hg hat
                    rw [← Ny570.out] at ho
                    have n0_ := Aside0.mk (Kd.R_over' (by (with_reducible repeat (first | apply Kd.R_alloc | apply Kd.R_drewN | apply Kd.R_drew)); exact HO_6.out) (Kd.R_typed (by (with_reducible repeat (first | apply Kd.R_alloc | apply Kd.R_drewN | apply Kd.R_drew)); exact HO_5.out)) (by decide) hg)
                    have n1_ := Aside0.mk (blk_grown (g := gb563) (o := .cells #[.slice A0_0 l0_0.length c0_0, .slice (some ad573) l0_1.length c0_1, .slice A0_2 l0_2.length c0_2] 25 (0, 0)) (by (with_reducible repeat (first | refine blk_drewN ?_ _ | refine blk_drew ?_ | refine blk_alloc ?_ _)); exact BK563.out) hg (Kd.R_ne HO_5.out BK563.out (by decide)))
                    have n2_ := Aside0.mk (Kd.R_after (ok := (fun _ => True)) (by (with_reducible repeat (first | apply Kd.R_alloc | apply Kd.R_drewN | apply Kd.R_drew)); exact HO569.out) hg hat)
                    have n3_ := Aside0.mk (hb)
                    have n4_ := Aside0.mk (ho)
                    clear HO_6
                    clear BK563
                    clear HO569
                    clear HB
                    clear HO_5
                    have HO_6 := n0_
                    have BK563 := n1_
                    have HO569 := n2_
                    have HB := n3_
                    have HO572 := n4_
                    clear n0_ n1_ n2_ n3_ n4_
                    clear ho hb hg hat
                    refine hK.out _ _ ⟨(blk_cell BK563.out 0).trans rfl, (blk_cell BK563.out 1).trans rfl, (blk_cell BK563.out 2).trans rfl, ((HB.out.cell (World.block_lt_of_cell? w _ hw573_0)).trans hw573_0), ((HB.out.cell (World.block_lt_of_cell? w _ hw573_1)).trans hw573_1)⟩ (fun hHeld => ?_)
                    clear hK K
                    refine norm_ (a' := ?_) ?_ ?_
                    rotate_left
                    · show Act.put _ (some 48) _ = _
                      simp only [Act.put, List.setIfInBounds_toArray, List.set_cons_zero, List.set_cons_succ, i64_w, i32_w]
                      rfl
                    refine one_ (i := 10) (N := some 55) #[true, true, true, true, true, true, true, true, true, true, true, false, false, false] rfl rfl (one_of HT_.out (by kernel_rfl)) (by decide) (fun K hK => ?_)
                    refine Kd.R_lit_step k39 _ 39 ?hg (N := 55) ?hd (xs := ([(⟨(rd_T39 l0_1 x7_2).f0, (rd_T39 l0_1 x7_2).f1⟩ : S39)] : List (S39))) (inner := [.int .i64 ((rd_T39 l0_1 x7_2).f0), .int .i64 ((rd_T39 l0_1 x7_2).f1)]) (ok := fun _ => True) (okp := fun _ => True) ?hr ?hp (fun _ hk => hk) trivial (Below.refl _ _) (Nat.le_refl _) (by simp) ?_; (case hd => rfl); (case hg => rfl); (case hr => first | (go_simp; done) | (go_simp; rfl)); (case hp => exact (Reps.c2 (show Kd.M k39 _ _ _ (⟨(rd_T39 l0_1 x7_2).f0, (rd_T39 l0_1 x7_2).f1⟩ : S39) [.int .i64 ((rd_T39 l0_1 x7_2).f0), .int .i64 ((rd_T39 l0_1 x7_2).f1)] from (k39_mkM _ _ _ (⟨(rd_T39 l0_1 x7_2).f0, (rd_T39 l0_1 x7_2).f1⟩ : S39) )) (Reps.none _ _)))
                    intro v575 w31 ho32 hb hg_ hnew_
                    clear hg_ hnew_
                    (first | rw [← Ny574.out] at ho32 | (simp only [Int.reduceToNat] at ho32; rw [← Ny574.out] at ho32))
                    have n0_ := Aside0.mk (Kd.R_elder' (by (with_reducible repeat (first | apply Kd.R_alloc | apply Kd.R_drewN | apply Kd.R_drew)); exact HO_6.out) (Kd.R_base ho32) hb)
                    have n1_ := Aside0.mk (Kd.R_below (by (with_reducible repeat (first | apply Kd.R_alloc | apply Kd.R_drewN | apply Kd.R_drew)); exact HO569.out) hb)
                    have n2_ := Aside0.mk (Kd.R_below (by (with_reducible repeat (first | apply Kd.R_alloc | apply Kd.R_drewN | apply Kd.R_drew)); exact HO572.out) hb)
                    have n3_ := Aside0.mk (Kd.R_lower (Kd.R_new' ho32 (Kd.R_lt (by (with_reducible repeat (first | apply Kd.R_alloc | apply Kd.R_drewN | apply Kd.R_drew)); exact HO_6.out))) (below_size (by repeat (first | (with_reducible first | exact HB.out | apply below_alloc | apply pw_below_drewN | apply below_drew1 | refine below_set ?_ GE563.out) | exact HB.out))))
                    have n4_ := Aside0.mk (blk_below (g := gb563) (o := .cells #[.slice A0_0 l0_0.length c0_0, .slice (some ad573) l0_1.length c0_1, .slice A0_2 l0_2.length c0_2] 25 (0, 0)) (by (with_reducible repeat (first | refine blk_drewN ?_ _ | refine blk_drew ?_ | refine blk_alloc ?_ _)); exact BK563.out) hb)
                    have n5_ := Aside0.mk (below_step (by repeat (first | (with_reducible first | exact HB.out | apply below_alloc | apply pw_below_drewN | apply below_drew1 | refine below_set ?_ GE563.out) | exact HB.out)) hb)
                    clear HO_6
                    clear HO569
                    clear HO572
                    clear BK563
                    clear HB
                    have HO_6 := n0_
                    have HO569 := n1_
                    have HO572 := n2_
                    have HO576 := n3_
                    have BK563 := n4_
                    have HB := n5_
                    clear n0_ n1_ n2_ n3_ n4_ n5_
                    clear hb ho32
                    refine hK.out _ _ ⟨(blk_cell BK563.out 0).trans rfl, (blk_cell BK563.out 1).trans rfl, (blk_cell BK563.out 2).trans rfl, ((HB.out.cell (World.block_lt_of_cell? w _ hw573_0)).trans hw573_0), ((HB.out.cell (World.block_lt_of_cell? w _ hw573_1)).trans hw573_1)⟩ (fun hHeld => ?_)
                    clear hK K
                    refine norm_ (a' := ?_) ?_ ?_
                    rotate_left
                    · show Act.put _ (some 55) _ = _
                      simp only [Act.put, List.setIfInBounds_toArray, List.set_cons_zero, List.set_cons_succ, i64_w, i32_w]
                      rfl
                    exact norm_ (by simp only [putAll, Act.put, List.setIfInBounds_toArray, List.set_cons_zero, List.set_cons_succ]) (hCont (.slice Ao30 y567.length co30, v571, v575) _ ⟨hHeld, (by (with_reducible repeat (first | apply Kd.R_alloc | apply Kd.R_drewN | apply Kd.R_drew)); exact Kd.R_mono HO569.out (fun _ hk => hk.2)), (by (with_reducible repeat (first | apply Kd.R_alloc | apply Kd.R_drewN | apply Kd.R_drew)); exact HO572.out), (by (with_reducible repeat (first | apply Kd.R_alloc | apply Kd.R_drewN | apply Kd.R_drew)); exact Kd.R_mono HO576.out (fun _ hk => hk.2)), (by (with_reducible repeat (first | apply Kd.R_alloc | apply Kd.R_drewN | apply Kd.R_drew)); exact Kd.R_mono HO_6.out (fun _ hk => hk.2)), (by (with_reducible repeat (first | refine blk_drewN ?_ _ | refine blk_drew ?_ | refine blk_alloc ?_ _)); exact BK563.out), (by repeat (first | (with_reducible first | exact HB.out | apply below_alloc | apply pw_below_drewN | apply below_drew1 | refine below_set ?_ GE563.out) | exact HB.out))⟩)
                  · skip
                    refine Kd.R_lit_step k39 _ 39 ?hg (N := 55) ?hd (xs := ([(⟨(rd_T39 l0_1 x7_2).f0, (rd_T39 l0_1 x7_2).f1⟩ : S39)] : List (S39))) (inner := [.int .i64 ((rd_T39 l0_1 x7_2).f0), .int .i64 ((rd_T39 l0_1 x7_2).f1)]) (ok := fun _ => True) (okp := fun _ => True) ?hr ?hp (fun _ hk => hk) trivial (Below.refl _ _) (Nat.le_refl _) (by simp) ?_; (case hd => rfl); (case hg => rfl); (case hr => first | (go_simp; done) | (go_simp; rfl)); (case hp => exact (Reps.c2 (show Kd.M k39 _ _ _ (⟨(rd_T39 l0_1 x7_2).f0, (rd_T39 l0_1 x7_2).f1⟩ : S39) [.int .i64 ((rd_T39 l0_1 x7_2).f0), .int .i64 ((rd_T39 l0_1 x7_2).f1)] from (k39_mkM _ _ _ (⟨(rd_T39 l0_1 x7_2).f0, (rd_T39 l0_1 x7_2).f1⟩ : S39) )) (Reps.none _ _)))
                    intro v575 w29 ho30 hb hg_ hnew_
                    clear hg_ hnew_
                    (first | rw [← Ny574.out] at ho30 | (simp only [Int.reduceToNat] at ho30; rw [← Ny574.out] at ho30))
                    have n0_ := Aside0.mk (Kd.R_below (by (with_reducible repeat (first | apply Kd.R_alloc | apply Kd.R_drewN | apply Kd.R_drew)); exact HO_5.out) hb)
                    have n1_ := Aside0.mk (Kd.R_elder' (by (with_reducible repeat (first | apply Kd.R_alloc | apply Kd.R_drewN | apply Kd.R_drew)); exact HO_6.out) (Kd.R_base ho30) hb)
                    have n2_ := Aside0.mk (Kd.R_below (by (with_reducible repeat (first | apply Kd.R_alloc | apply Kd.R_drewN | apply Kd.R_drew)); exact HO569.out) hb)
                    have n3_ := Aside0.mk (Kd.R_lower (Kd.R_new' ho30 (Kd.R_lt (by (with_reducible repeat (first | apply Kd.R_alloc | apply Kd.R_drewN | apply Kd.R_drew)); exact HO_6.out))) (below_size (by repeat (first | (with_reducible first | exact HB.out | apply below_alloc | apply pw_below_drewN | apply below_drew1 | refine below_set ?_ GE563.out) | exact HB.out))))
                    have n4_ := Aside0.mk (blk_below (g := gb563) (o := .cells #[.slice A0_0 l0_0.length c0_0, .slice (some ad573) l0_1.length c0_1, .slice A0_2 l0_2.length c0_2] 25 (0, 0)) (by (with_reducible repeat (first | refine blk_drewN ?_ _ | refine blk_drew ?_ | refine blk_alloc ?_ _)); exact BK563.out) hb)
                    have n5_ := Aside0.mk (below_step (by repeat (first | (with_reducible first | exact HB.out | apply below_alloc | apply pw_below_drewN | apply below_drew1 | refine below_set ?_ GE563.out) | exact HB.out)) hb)
                    clear HO_5
                    clear HO_6
                    clear HO569
                    clear BK563
                    clear HB
                    have HO_5 := n0_
                    have HO_6 := n1_
                    have HO569 := n2_
                    have HO576 := n3_
                    have BK563 := n4_
                    have HB := n5_
                    clear n0_ n1_ n2_ n3_ n4_ n5_
                    clear hb ho30
                    obtain ⟨Ao32, co32, eo32⟩ := Kd.R_slice HO569.out
                    (first | subst eo32 | (injection eo32 with f1_ f2_ f3_; have f4_ := f1_.symm; have f5_ := f3_.symm; clear f1_ f2_ f3_; subst f4_; subst f5_))
                    refine hK.out _ _ ⟨(blk_cell BK563.out 0).trans rfl, (blk_cell BK563.out 1).trans rfl, (blk_cell BK563.out 2).trans rfl, ((HB.out.cell (World.block_lt_of_cell? w _ hw573_0)).trans hw573_0), ((HB.out.cell (World.block_lt_of_cell? w _ hw573_1)).trans hw573_1)⟩ (fun hHeld => ?_)
                    clear hK K
                    refine norm_ (a' := ?_) ?_ ?_
                    rotate_left
                    · show Act.put _ (some 55) _ = _
                      simp only [Act.put, List.setIfInBounds_toArray, List.set_cons_zero, List.set_cons_succ, i64_w, i32_w]
                      rfl
                    refine one_ (i := 3) (N := some 48) #[true, true, true, true, true, true, true, true, true, true, true, false, false, false] rfl rfl (one_of HT_.out (by kernel_rfl)) (by decide) (fun K hK => ?_)
                    refine Kd.R_append_rows_step (Kd.int .i64) (w0 := w) w.heap.size (by rfl) (.tmp 45) (.tmp 47) 22 3 (.int .i64 0) 8 rfl Try.underlying22 info3 rfl (by decide) (by omega) (.slice Ao24 x5_3.length co24) x5_3 y567 _ _ _ (fun k_ => some k_ ≠ (.slice Ao32 y567.length co32 : Value).ownBlock) (fun _ => False) rfl rfl ?aO ?aR (fun _ _ h => h) (fun _ h => h.elim) ?aF ?aB ?aS ?aL ?_
                    (case aR => repeat (first | exact (Kd.R_reads' HO569.out).2.2 | (with_reducible refine Kd.C_alloc ?_ _) | (with_reducible refine Kd.C_drewN ?_ _) | (with_reducible refine Kd.C_drew ?_)))
                    (case aB => exact (by repeat (first | (with_reducible first | exact HB.out | apply below_alloc | apply pw_below_drewN | apply below_drew1 | refine below_set ?_ GE563.out) | exact HB.out)))
                    (case aF => exact (fun k_ hk => Kd.fresh' (Kd.R_lt (by (with_reducible repeat (first | apply Kd.R_alloc | apply Kd.R_drewN | apply Kd.R_drew)); exact HO569.out)) k_ hk))
                    (case aO => exact (by (with_reducible repeat (first | apply Kd.R_alloc | apply Kd.R_drewN | apply Kd.R_drew)); exact Kd.R_mono HO_5.out (fun _ hk => hk.2)))
                    (case aS => exact (below_size (by repeat (first | (with_reducible first | exact HB.out | apply below_alloc | apply pw_below_drewN | apply below_drew1 | refine below_set ?_ GE563.out) | exact HB.out))))
                    (case aL => have := LMc20.out; omega)
                    intro v571 w31 ho hb hg hat
                    rw [← Ny570.out] at ho
                    have n0_ := Aside0.mk (Kd.R_over' (by (with_reducible repeat (first | apply Kd.R_alloc | apply Kd.R_drewN | apply Kd.R_drew)); exact HO_6.out) (Kd.R_typed (by (with_reducible repeat (first | apply Kd.R_alloc | apply Kd.R_drewN | apply Kd.R_drew)); exact HO_5.out)) (by decide) hg)
                    have n1_ := Aside0.mk (blk_grown (g := gb563) (o := .cells #[.slice A0_0 l0_0.length c0_0, .slice (some ad573) l0_1.length c0_1, .slice A0_2 l0_2.length c0_2] 25 (0, 0)) (by (with_reducible repeat (first | refine blk_drewN ?_ _ | refine blk_drew ?_ | refine blk_alloc ?_ _)); exact BK563.out) hg (Kd.R_ne HO_5.out BK563.out (by decide)))
                    have n2_ := Aside0.mk (Kd.R_after (ok := (fun _ => True)) (by (with_reducible repeat (first | apply Kd.R_alloc | apply Kd.R_drewN | apply Kd.R_drew)); exact HO569.out) hg hat)
                    have n3_ := Aside0.mk (Kd.R_over' (by (with_reducible repeat (first | apply Kd.R_alloc | apply Kd.R_drewN | apply Kd.R_drew)); exact HO576.out) (Kd.R_typed (by (with_reducible repeat (first | apply Kd.R_alloc | apply Kd.R_drewN | apply Kd.R_drew)); exact HO_5.out)) (by decide) hg)
                    have n4_ := Aside0.mk (hb)
                    have n5_ := Aside0.mk (ho)
                    clear HO_6
                    clear BK563
                    clear HO569
                    clear HO576
                    clear HB
                    clear HO_5
                    have HO_6 := n0_
                    have BK563 := n1_
                    have HO569 := n2_
                    have HO576 := n3_
                    have HB := n4_
                    have HO572 := n5_
                    clear n0_ n1_ n2_ n3_ n4_ n5_
                    clear ho hb hg hat
                    refine hK.out _ _ ⟨(blk_cell BK563.out 0).trans rfl, (blk_cell BK563.out 1).trans rfl, (blk_cell BK563.out 2).trans rfl, ((HB.out.cell (World.block_lt_of_cell? w _ hw573_0)).trans hw573_0), ((HB.out.cell (World.block_lt_of_cell? w _ hw573_1)).trans hw573_1)⟩ (fun hHeld => ?_)
                    clear hK K
                    refine norm_ (a' := ?_) ?_ ?_
                    rotate_left
                    · show Act.put _ (some 48) _ = _
                      simp only [Act.put, List.setIfInBounds_toArray, List.set_cons_zero, List.set_cons_succ, i64_w, i32_w]
                      rfl
                    exact norm_ (by simp only [putAll, Act.put, List.setIfInBounds_toArray, List.set_cons_zero, List.set_cons_succ]) (hCont (.slice Ao32 y567.length co32, v571, v575) _ ⟨hHeld, (by (with_reducible repeat (first | apply Kd.R_alloc | apply Kd.R_drewN | apply Kd.R_drew)); exact Kd.R_mono HO569.out (fun _ hk => hk.2)), (by (with_reducible repeat (first | apply Kd.R_alloc | apply Kd.R_drewN | apply Kd.R_drew)); exact HO572.out), (by (with_reducible repeat (first | apply Kd.R_alloc | apply Kd.R_drewN | apply Kd.R_drew)); exact Kd.R_mono HO576.out (fun _ hk => hk.2)), (by (with_reducible repeat (first | apply Kd.R_alloc | apply Kd.R_drewN | apply Kd.R_drew)); exact Kd.R_mono HO_6.out (fun _ hk => hk.2)), (by (with_reducible repeat (first | refine blk_drewN ?_ _ | refine blk_drew ?_ | refine blk_alloc ?_ _)); exact BK563.out), (by repeat (first | (with_reducible first | exact HB.out | apply below_alloc | apply pw_below_drewN | apply below_drew1 | refine below_set ?_ GE563.out) | exact HB.out))⟩)
                · skip
                  refine Kd.R_lit_step k39 _ 39 ?hg (N := 55) ?hd (xs := ([(⟨(rd_T39 l0_1 x7_2).f0, (rd_T39 l0_1 x7_2).f1⟩ : S39)] : List (S39))) (inner := [.int .i64 ((rd_T39 l0_1 x7_2).f0), .int .i64 ((rd_T39 l0_1 x7_2).f1)]) (ok := fun _ => True) (okp := fun _ => True) ?hr ?hp (fun _ hk => hk) trivial (Below.refl _ _) (Nat.le_refl _) (by simp) ?_; (case hd => rfl); (case hg => rfl); (case hr => first | (go_simp; done) | (go_simp; rfl)); (case hp => exact (Reps.c2 (show Kd.M k39 _ _ _ (⟨(rd_T39 l0_1 x7_2).f0, (rd_T39 l0_1 x7_2).f1⟩ : S39) [.int .i64 ((rd_T39 l0_1 x7_2).f0), .int .i64 ((rd_T39 l0_1 x7_2).f1)] from (k39_mkM _ _ _ (⟨(rd_T39 l0_1 x7_2).f0, (rd_T39 l0_1 x7_2).f1⟩ : S39) )) (Reps.none _ _)))
                  intro v575 w27 ho28 hb hg_ hnew_
                  clear hg_ hnew_
                  (first | rw [← Ny574.out] at ho28 | (simp only [Int.reduceToNat] at ho28; rw [← Ny574.out] at ho28))
                  have n0_ := Aside0.mk (Kd.R_below (by (with_reducible repeat (first | apply Kd.R_alloc | apply Kd.R_drewN | apply Kd.R_drew)); exact HO_5.out) hb)
                  have n1_ := Aside0.mk (Kd.R_elder' (by (with_reducible repeat (first | apply Kd.R_alloc | apply Kd.R_drewN | apply Kd.R_drew)); exact HO_6.out) (Kd.R_base ho28) hb)
                  have n2_ := Aside0.mk (Kd.R_lower (Kd.R_new' ho28 (Kd.R_lt (by (with_reducible repeat (first | apply Kd.R_alloc | apply Kd.R_drewN | apply Kd.R_drew)); exact HO_6.out))) (below_size (by repeat (first | (with_reducible first | exact HB.out | apply below_alloc | apply pw_below_drewN | apply below_drew1 | refine below_set ?_ GE563.out) | exact HB.out))))
                  have n3_ := Aside0.mk (blk_below (g := gb563) (o := .cells #[.slice A0_0 l0_0.length c0_0, .slice (some ad573) l0_1.length c0_1, .slice A0_2 l0_2.length c0_2] 25 (0, 0)) (by (with_reducible repeat (first | refine blk_drewN ?_ _ | refine blk_drew ?_ | refine blk_alloc ?_ _)); exact BK563.out) hb)
                  have n4_ := Aside0.mk (below_step (by repeat (first | (with_reducible first | exact HB.out | apply below_alloc | apply pw_below_drewN | apply below_drew1 | refine below_set ?_ GE563.out) | exact HB.out)) hb)
                  clear HO_5
                  clear HO_6
                  clear BK563
                  clear HB
                  have HO_5 := n0_
                  have HO_6 := n1_
                  have HO576 := n2_
                  have BK563 := n3_
                  have HB := n4_
                  clear n0_ n1_ n2_ n3_ n4_
                  clear hb ho28
                  refine hK.out _ _ ⟨(blk_cell BK563.out 0).trans rfl, (blk_cell BK563.out 1).trans rfl, (blk_cell BK563.out 2).trans rfl, ((HB.out.cell (World.block_lt_of_cell? w _ hw573_0)).trans hw573_0), ((HB.out.cell (World.block_lt_of_cell? w _ hw573_1)).trans hw573_1)⟩ (fun hHeld => ?_)
                  clear hK K
                  refine norm_ (a' := ?_) ?_ ?_
                  rotate_left
                  · show Act.put _ (some 55) _ = _
                    simp only [Act.put, List.setIfInBounds_toArray, List.set_cons_zero, List.set_cons_succ, i64_w, i32_w]
                    rfl
                  refine one_ (i := 2) (N := some 47) #[true, true, true, false, true, true, true, true, true, true, true, false, false, false] rfl rfl (one_of HT_.out (by kernel_rfl)) (by decide) (fun K hK => ?_)
                  refine Kd.R_lit_step (Kd.int .i64) _ 3 ?hg (N := 47) ?hd (xs := ([x7_2] : List Int)) (inner := [.int .i64 x7_2]) (ok := fun _ => True) (okp := fun _ => True) ?hr ?hp (fun _ hk => hk) trivial (Below.refl _ _) (Nat.le_refl _) (by simp) ?_; (case hd => rfl); (case hg => rfl); (case hr => first | (go_simp; done) | (go_simp; rfl)); (case hp => exact (Reps.one (show Kd.M (Kd.int .i64) _ _ _ x7_2 [.int .i64 x7_2] from rfl) (Reps.none _ _)))
                  intro v568 w29 ho30 hb hg_ hnew_
                  clear hg_ hnew_
                  (first | rw [← Ny567.out] at ho30 | (simp only [Int.reduceToNat] at ho30; rw [← Ny567.out] at ho30))
                  have n0_ := Aside0.mk (Kd.R_elder' (by (with_reducible repeat (first | apply Kd.R_alloc | apply Kd.R_drewN | apply Kd.R_drew)); exact HO_5.out) (Kd.R_base ho30) hb)
                  have n1_ := Aside0.mk (Kd.R_below (by (with_reducible repeat (first | apply Kd.R_alloc | apply Kd.R_drewN | apply Kd.R_drew)); exact HO_6.out) hb)
                  have n2_ := Aside0.mk (Kd.R_below (by (with_reducible repeat (first | apply Kd.R_alloc | apply Kd.R_drewN | apply Kd.R_drew)); exact HO576.out) hb)
                  have n3_ := Aside0.mk (Kd.R_lower (Kd.R_new' ho30 (Kd.R_lt (by (with_reducible repeat (first | apply Kd.R_alloc | apply Kd.R_drewN | apply Kd.R_drew)); exact HO_5.out))) (below_size (by repeat (first | (with_reducible first | exact HB.out | apply below_alloc | apply pw_below_drewN | apply below_drew1 | refine below_set ?_ GE563.out) | exact HB.out))))
                  have n4_ := Aside0.mk (blk_below (g := gb563) (o := .cells #[.slice A0_0 l0_0.length c0_0, .slice (some ad573) l0_1.length c0_1, .slice A0_2 l0_2.length c0_2] 25 (0, 0)) (by (with_reducible repeat (first | refine blk_drewN ?_ _ | refine blk_drew ?_ | refine blk_alloc ?_ _)); exact BK563.out) hb)
                  have n5_ := Aside0.mk (below_step (by repeat (first | (with_reducible first | exact HB.out | apply below_alloc | apply pw_below_drewN | apply below_drew1 | refine below_set ?_ GE563.out) | exact HB.out)) hb)
                  clear HO_5
                  clear HO_6
                  clear HO576
                  clear BK563
                  clear HB
                  have HO_5 := n0_
                  have HO_6 := n1_
                  have HO576 := n2_
                  have HO569 := n3_
                  have BK563 := n4_
                  have HB := n5_
                  clear n0_ n1_ n2_ n3_ n4_ n5_
                  clear hb ho30
                  obtain ⟨Ao32, co32, eo32⟩ := Kd.R_slice HO569.out
                  (first | subst eo32 | (injection eo32 with f1_ f2_ f3_; have f4_ := f1_.symm; have f5_ := f3_.symm; clear f1_ f2_ f3_; subst f4_; subst f5_))
                  refine hK.out _ _ ⟨(blk_cell BK563.out 0).trans rfl, (blk_cell BK563.out 1).trans rfl, (blk_cell BK563.out 2).trans rfl, ((HB.out.cell (World.block_lt_of_cell? w _ hw573_0)).trans hw573_0), ((HB.out.cell (World.block_lt_of_cell? w _ hw573_1)).trans hw573_1)⟩ (fun hHeld => ?_)
                  clear hK K
                  refine norm_ (a' := ?_) ?_ ?_
                  rotate_left
                  · show Act.put _ (some 47) _ = _
                    simp only [Act.put, List.setIfInBounds_toArray, List.set_cons_zero, List.set_cons_succ, i64_w, i32_w]
                    rfl
                  refine one_ (i := 3) (N := some 48) #[true, true, true, true, true, true, true, true, true, true, true, false, false, false] rfl rfl (one_of HT_.out (by kernel_rfl)) (by decide) (fun K hK => ?_)
                  refine Kd.R_append_rows_step (Kd.int .i64) (w0 := w) w.heap.size (by rfl) (.tmp 45) (.tmp 47) 22 3 (.int .i64 0) 8 rfl Try.underlying22 info3 rfl (by decide) (by omega) (.slice Ao24 x5_3.length co24) x5_3 y567 _ _ _ (fun k_ => some k_ ≠ (.slice Ao32 y567.length co32 : Value).ownBlock) (fun _ => False) rfl rfl ?aO ?aR (fun _ _ h => h) (fun _ h => h.elim) ?aF ?aB ?aS ?aL ?_
                  (case aR => repeat (first | exact (Kd.R_reads' HO569.out).2.2 | (with_reducible refine Kd.C_alloc ?_ _) | (with_reducible refine Kd.C_drewN ?_ _) | (with_reducible refine Kd.C_drew ?_)))
                  (case aB => exact (by repeat (first | (with_reducible first | exact HB.out | apply below_alloc | apply pw_below_drewN | apply below_drew1 | refine below_set ?_ GE563.out) | exact HB.out)))
                  (case aF => exact (fun k_ hk => Kd.fresh' (Kd.R_lt (by (with_reducible repeat (first | apply Kd.R_alloc | apply Kd.R_drewN | apply Kd.R_drew)); exact HO569.out)) k_ hk))
                  (case aO => exact (by (with_reducible repeat (first | apply Kd.R_alloc | apply Kd.R_drewN | apply Kd.R_drew)); exact Kd.R_mono HO_5.out (fun _ hk => hk.2)))
                  (case aS => exact (below_size (by repeat (first | (with_reducible first | exact HB.out | apply below_alloc | apply pw_below_drewN | apply below_drew1 | refine below_set ?_ GE563.out) | exact HB.out))))
                  (case aL => have := LMc20.out; omega)
                  intro v571 w31 ho hb hg hat
                  rw [← Ny570.out] at ho
                  have n0_ := Aside0.mk (Kd.R_over' (by (with_reducible repeat (first | apply Kd.R_alloc | apply Kd.R_drewN | apply Kd.R_drew)); exact HO_6.out) (Kd.R_typed (by (with_reducible repeat (first | apply Kd.R_alloc | apply Kd.R_drewN | apply Kd.R_drew)); exact HO_5.out)) (by decide) hg)
                  have n1_ := Aside0.mk (blk_grown (g := gb563) (o := .cells #[.slice A0_0 l0_0.length c0_0, .slice (some ad573) l0_1.length c0_1, .slice A0_2 l0_2.length c0_2] 25 (0, 0)) (by (with_reducible repeat (first | refine blk_drewN ?_ _ | refine blk_drew ?_ | refine blk_alloc ?_ _)); exact BK563.out) hg (Kd.R_ne HO_5.out BK563.out (by decide)))
                  have n2_ := Aside0.mk (Kd.R_over' (by (with_reducible repeat (first | apply Kd.R_alloc | apply Kd.R_drewN | apply Kd.R_drew)); exact HO576.out) (Kd.R_typed (by (with_reducible repeat (first | apply Kd.R_alloc | apply Kd.R_drewN | apply Kd.R_drew)); exact HO_5.out)) (by decide) hg)
                  have n3_ := Aside0.mk (Kd.R_after (ok := (fun _ => True)) (by (with_reducible repeat (first | apply Kd.R_alloc | apply Kd.R_drewN | apply Kd.R_drew)); exact HO569.out) hg hat)
                  have n4_ := Aside0.mk (hb)
                  have n5_ := Aside0.mk (ho)
                  clear HO_6
                  clear BK563
                  clear HO576
                  clear HO569
                  clear HB
                  clear HO_5
                  have HO_6 := n0_
                  have BK563 := n1_
                  have HO576 := n2_
                  have HO569 := n3_
                  have HB := n4_
                  have HO572 := n5_
                  clear n0_ n1_ n2_ n3_ n4_ n5_
                  clear ho hb hg hat
                  refine hK.out _ _ ⟨(blk_cell BK563.out 0).trans rfl, (blk_cell BK563.out 1).trans rfl, (blk_cell BK563.out 2).trans rfl, ((HB.out.cell (World.block_lt_of_cell? w _ hw573_0)).trans hw573_0), ((HB.out.cell (World.block_lt_of_cell? w _ hw573_1)).trans hw573_1)⟩ (fun hHeld => ?_)
                  clear hK K
                  refine norm_ (a' := ?_) ?_ ?_
                  rotate_left
                  · show Act.put _ (some 48) _ = _
                    simp only [Act.put, List.setIfInBounds_toArray, List.set_cons_zero, List.set_cons_succ, i64_w, i32_w]
                    rfl
                  exact norm_ (by simp only [putAll, Act.put, List.setIfInBounds_toArray, List.set_cons_zero, List.set_cons_succ]) (hCont (.slice Ao32 y567.length co32, v571, v575) _ ⟨hHeld, (by (with_reducible repeat (first | apply Kd.R_alloc | apply Kd.R_drewN | apply Kd.R_drew)); exact Kd.R_mono HO569.out (fun _ hk => hk.2)), (by (with_reducible repeat (first | apply Kd.R_alloc | apply Kd.R_drewN | apply Kd.R_drew)); exact HO572.out), (by (with_reducible repeat (first | apply Kd.R_alloc | apply Kd.R_drewN | apply Kd.R_drew)); exact Kd.R_mono HO576.out (fun _ hk => hk.2)), (by (with_reducible repeat (first | apply Kd.R_alloc | apply Kd.R_drewN | apply Kd.R_drew)); exact Kd.R_mono HO_6.out (fun _ hk => hk.2)), (by (with_reducible repeat (first | refine blk_drewN ?_ _ | refine blk_drew ?_ | refine blk_alloc ?_ _)); exact BK563.out), (by repeat (first | (with_reducible first | exact HB.out | apply below_alloc | apply pw_below_drewN | apply below_drew1 | refine below_set ?_ GE563.out) | exact HB.out))⟩)
              rintro ⟨v568, v571, v575⟩ w33 ⟨hS_, h0_, h1_, h2_, h3_, h4_, h5_⟩
              have n0_ : Aside0 (Kd.R (Kd.int .i64) 3 w33 w.heap.size (fun k_ => some k_ ≠ (v571 : Value).ownBlock) v568 y567) := ⟨h0_⟩
              have n1_ : Aside0 (Kd.R (Kd.int .i64) 3 w33 w.heap.size (fun k_ => some k_ ≠ (v568 : Value).ownBlock) v571 y570) := ⟨h1_⟩
              have n2_ : Aside0 (Kd.R k39 39 w33 w.heap.size (fun k_ => some k_ ≠ (.slice Ao25 x6_3.length co25 : Value).ownBlock) v575 y574) := ⟨h2_⟩
              have n3_ : Aside0 (Kd.R k39 39 w33 w.heap.size (fun k_ => some k_ ≠ (v575 : Value).ownBlock) (.slice Ao25 x6_3.length co25) x6_3) := ⟨h3_⟩
              have n4_ : Aside0 (w33.heap[gb563]? = some (.cells #[.slice A0_0 l0_0.length c0_0, .slice (some ad573) l0_1.length c0_1, .slice A0_2 l0_2.length c0_2] 25 (0, 0))) := ⟨h4_⟩
              have n5_ : Aside0 (Below w.heap.size w w33) := ⟨h5_⟩
              clear HO_5
              clear HO_6
              clear BK563
              clear HB
              clear h0_ h1_ h2_ h3_ h4_ h5_
              have HO569 := n0_
              have HO572 := n1_
              have HO576 := n2_
              have HO_6 := n3_
              have BK563 := n4_
              have HB := n5_
              clear n0_ n1_ n2_ n3_ n4_ n5_
              have hHeld : w33.cell? ⟨gb563, 0, none⟩ = some (.slice A0_0 l0_0.length c0_0) ∧ w33.cell? ⟨gb563, 1, none⟩ = some (.slice (some ad573) l0_1.length c0_1) ∧ w33.cell? ⟨gb563, 2, none⟩ = some (.slice A0_2 l0_2.length c0_2) ∧ w33.cell? (ad573.add ((x7_2).toNat * 2)) = some (.int .i64 ((rd_T39 l0_1 x7_2).f0)) ∧ w33.cell? ⟨(ad573.add ((x7_2).toNat * 2)).block, (ad573.add ((x7_2).toNat * 2)).off + 1, none⟩ = some (.int .i64 ((rd_T39 l0_1 x7_2).f1)) := hS_
              obtain ⟨Ao35, co35, eo35⟩ := Kd.R_slice HO576.out
              (first | subst eo35 | (injection eo35 with f1_ f2_ f3_; have f4_ := f1_.symm; have f5_ := f3_.symm; clear f1_ f2_ f3_; subst f4_; subst f5_))
              refine norm_ (a' := ?_) ?_ ?_
              rotate_left
              · simp only [putAll, Act.put, List.setIfInBounds_toArray, List.set_cons_zero, List.set_cons_succ]
                rfl
              refine one_ (i := 11) (N := some 56) #[true, true, true, true, true, true, true, true, true, true, true, true, false, false] rfl rfl (one_of HT_.out (by kernel_rfl)) (by decide) (fun K hK => ?_)
              refine Kd.R_append_rows_step k39 (w0 := w) w.heap.size (by rfl) (.tmp 49) (.tmp 55) 23 39 (.agg #[(.int .i64 0), (.int .i64 0)]) 16 rfl Try.underlying23 info39 rfl (by decide) (by omega) (.slice Ao25 x6_3.length co25) x6_3 y574 _ _ _ (fun k_ => some k_ ≠ (.slice Ao35 y574.length co35 : Value).ownBlock) (fun _ => False) rfl rfl ?aO ?aR (fun _ _ h => h) (fun _ h => h.elim) ?aF ?aB ?aS ?aL ?_
              (case aR => repeat (first | exact (Kd.R_reads' HO576.out).2.2 | (with_reducible refine Kd.C_alloc ?_ _) | (with_reducible refine Kd.C_drewN ?_ _) | (with_reducible refine Kd.C_drew ?_)))
              (case aB => exact (by repeat (first | (with_reducible first | exact HB.out | apply below_alloc | apply pw_below_drewN | apply below_drew1 | refine below_set ?_ GE563.out) | exact HB.out)))
              (case aF => exact (fun k_ hk => Kd.fresh' (Kd.R_lt (by (with_reducible repeat (first | apply Kd.R_alloc | apply Kd.R_drewN | apply Kd.R_drew)); exact HO576.out)) k_ hk))
              (case aO => exact (by (with_reducible repeat (first | apply Kd.R_alloc | apply Kd.R_drewN | apply Kd.R_drew)); exact HO_6.out))
              (case aS => exact (below_size (by repeat (first | (with_reducible first | exact HB.out | apply below_alloc | apply pw_below_drewN | apply below_drew1 | refine below_set ?_ GE563.out) | exact HB.out))))
              (case aL => have := LMc23.out; omega)
              intro v578 w34 ho hb hg hat
              rw [← Ny577.out] at ho
              have n0_ := Aside0.mk (blk_grown (g := gb563) (o := .cells #[.slice A0_0 l0_0.length c0_0, .slice (some ad573) l0_1.length c0_1, .slice A0_2 l0_2.length c0_2] 25 (0, 0)) (by (with_reducible repeat (first | refine blk_drewN ?_ _ | refine blk_drew ?_ | refine blk_alloc ?_ _)); exact BK563.out) hg (Kd.R_ne HO_6.out BK563.out (by decide)))
              have n1_ := Aside0.mk (Kd.R_over' (by (with_reducible repeat (first | apply Kd.R_alloc | apply Kd.R_drewN | apply Kd.R_drew)); exact HO569.out) (Kd.R_typed (by (with_reducible repeat (first | apply Kd.R_alloc | apply Kd.R_drewN | apply Kd.R_drew)); exact HO_6.out)) (by decide) hg)
              have n2_ := Aside0.mk (Kd.R_over' (by (with_reducible repeat (first | apply Kd.R_alloc | apply Kd.R_drewN | apply Kd.R_drew)); exact HO572.out) (Kd.R_typed (by (with_reducible repeat (first | apply Kd.R_alloc | apply Kd.R_drewN | apply Kd.R_drew)); exact HO_6.out)) (by decide) hg)
              have n3_ := Aside0.mk (Kd.R_after (ok := (fun _ => True)) (by (with_reducible repeat (first | apply Kd.R_alloc | apply Kd.R_drewN | apply Kd.R_drew)); exact Kd.R_mono HO576.out (fun _ hk => ⟨trivial, hk⟩)) hg hat)
              have n4_ := Aside0.mk (hb)
              have n5_ := Aside0.mk (ho)
              clear BK563
              clear HO569
              clear HO572
              clear HO576
              clear HB
              clear HO_6
              have BK563 := n0_
              have HO569 := n1_
              have HO572 := n2_
              have HO576 := n3_
              have HB := n4_
              have HO579 := n5_
              clear n0_ n1_ n2_ n3_ n4_ n5_
              clear ho hb hg hat
              refine hK.out _ _ ⟨(blk_cell BK563.out 0).trans rfl, (blk_cell BK563.out 1).trans rfl, (blk_cell BK563.out 2).trans rfl, ((HB.out.cell (World.block_lt_of_cell? w _ hw573_0)).trans hw573_0), ((HB.out.cell (World.block_lt_of_cell? w _ hw573_1)).trans hw573_1)⟩ (fun hHeld => ?_)
              clear hK K
              refine norm_ (a' := ?_) ?_ ?_
              rotate_left
              · show Act.put _ (some 56) _ = _
                simp only [Act.put, List.setIfInBounds_toArray, List.set_cons_zero, List.set_cons_succ, i64_w, i32_w]
                rfl
              refine pure_ (i := 12) (N := some 5) (v := ?_) (a' := ?_) #[true, true, true, true, true, true, true, true, true, true, true, true, true, false] rfl rfl (any_of HT_.out (by kernel_rfl)) (fun _ _ _ h => h) (Or.inl ⟨by rfl, ?_⟩) ?_ ?_
              rotate_left
              · intro w'
                go_simp
                with_reducible rfl
              rotate_left
              · simp only [Act.put, List.setIfInBounds_toArray, List.set_cons_zero, List.set_cons_succ, i64_w, i32_w]
                rfl
              refine pure_ (i := 13) (N := some 6) (v := ?_) (a' := ?_) #[true, true, true, true, true, true, true, true, true, true, true, true, true, true] rfl rfl (any_of HT_.out (by kernel_rfl)) (fun _ _ _ h => h) (Or.inl ⟨by rfl, ?_⟩) ?_ ?_
              rotate_left
              · intro w'
                go_simp
                with_reducible rfl
              rotate_left
              · simp only [Act.put, List.setIfInBounds_toArray, List.set_cons_zero, List.set_cons_succ, i64_w, i32_w]
                rfl
              refine done_ (done_of HT_.out (by kernel_rfl)) ?_
              try go_wp2
              go_roundg k3
              case measure => have := HJ4.out; have := HK2.out; have := HK3.out; omega
              case rel => exact ⟨(y570), (y577), (wrap64 (x7_2 + 1)), (by first | rfl | (simp; done) | (simp [*]; done)), H', ⟨by have := HJ4.out; have := HK2.out; have := HK3.out; omega⟩, ⟨by (with_reducible repeat (first | apply Kd.R_alloc | apply Kd.R_drewN | apply Kd.R_drew)); exact Kd.R_mono HO572.out (fun _ hk => trivial)⟩, ⟨by (with_reducible repeat (first | apply Kd.R_alloc | apply Kd.R_drewN | apply Kd.R_drew)); exact Kd.R_mono HO579.out (fun _ hk => trivial)⟩, ⟨by (with_reducible repeat (first | refine blk_drewN ?_ _ | refine blk_drew ?_ | refine blk_alloc ?_ _)); exact BK563.out⟩, ⟨by repeat (first | (with_reducible first | exact HB.out | apply below_alloc | apply pw_below_drewN | apply below_drew1 | refine below_set ?_ GE563.out) | exact HB.out)⟩⟩

end Go.Proofs.Ythgmkbghdobmlaa.P
