/- Texts of this claim put together by a program of its own (Px6, PCloser, SCtlB, SPair), what the law does not use left out: each part's statements bear their own conditions. -/
import Derived.Test.YthgmkbghdobmlaaC11
import Derived.Test.YthgmkbghdobmlaaC12
import Derived.Laws.IdiomRangeMap
import Derived.Maps.Own
import Derived.Maps.OwnOps
import Derived.Maps.RangeRun
namespace Go.Proofs.Ythgmkbghdobmlaa.P
open Go.RowKit Go.Proofs.YthgmkbghdobmlaaW.PrintWords Go.Proofs.YthgmkbghdobmlaaW.PrintLast Go.Proofs.YthgmkbghdobmlaaW.PrintMore
attribute [local go_sem] min2_int min_two
set_option linter.unusedVariables false
set_option linter.unusedSimpArgs false

-- BY HAND: function 17 (swap_Plain)

def norm_lies.f (a0_0 : Int) (a0_1 : Int) (a1 : Int) : Option (Bool) := if a0_0 ≥ 0 then (if a0_0 ≤ a0_1 then (some (decide (a0_1 < a1))) else (some false)) else (some false)
set_option maxHeartbeats 8000000 in
set_option maxRecDepth 100000 in
theorem norm_lies.calls (a0_0 : Int) (a0_1 : Int) (a1 : Int) (r : Bool) (w : World) (h : norm_lies.f a0_0 a0_1 a1 = some r) :
    Calls Try.prog 61 #[.agg #[.int .i64 a0_0, .int .i64 a0_1], .int .i64 a1] w fun e w' => e = .returned (.bool r) ∧ Below w.heap.size w w' := by
  have hu39 := Try.underlying39
  have HB := Aside0.mk (Below.refl w.heap.size w)
  have H : (if a0_0 ≥ 0 then (if a0_0 ≤ a0_1 then (some (decide (a0_1 < a1))) else (some false)) else (some false)) = some r := h
  clear h
  by_cases c3 : a0_0 ≥ 0
  rotate_left
  · rw [if_neg c3] at H
    have c3b0 : decide (0 ≤ a0_0) = false := decide_eq_false c3
    clear c3
    obtain rfl := Option.some.inj H
    go_enter Try.func61, Try.ntmps61
    go_wp2_with (first | ((with_reducible refine gate_dst (N := 2) rfl ?_); refine box_event ?hg (N := 2) ?hd (cs := #[.int .i64 a0_0, .int .i64 a0_1]) (t := 39) ?hr ?_; (case hd => rfl); (case hg => rfl); (case hr => first | (go_simp; done) | (go_simp; rfl)); intro gb196 hg w9 hbox hb; have n0_ := Aside0.mk (below_step (by repeat (first | (with_reducible first | exact HB.out | apply below_alloc | apply pw_below_drewN | apply below_drew1) | exact HB.out)) hb); have n1_ := Aside0.mk (hbox); have n2_ := Aside0.mk ((by rw [hg]; exact (below_size (by repeat (first | (with_reducible first | exact HB.out | apply below_alloc | apply pw_below_drewN | apply below_drew1) | exact HB.out))) : w.heap.size ≤ gb196)); have n3_ := Aside0.mk ((by rw [hg]; exact (below_size (by repeat (first | (with_reducible first | exact HB.out | apply below_alloc | apply pw_below_drewN | apply below_drew1) | exact HB.out))) : w.heap.size ≤ gb196)); clear HB; have HB := n0_; have BK196 := n1_; have GW196 := n2_; have GE196 := n3_; clear n0_ n1_ n2_ n3_; clear hb hbox hg; have hcz10_0 : w9.cell? ⟨gb196, 0, none⟩ = some (.int .i64 a0_0) := (blk_cell BK196.out 0).trans rfl; have hcz10_1 : w9.cell? ⟨gb196, 1, none⟩ = some (.int .i64 a0_1) := (blk_cell BK196.out 1).trans rfl; have hfz10_0 := blk_frozen BK196.out 0; have hfz10_1 := blk_frozen BK196.out 1))
    go_ret
    exact ⟨by first | rfl | (simp [errW_none, errW_some] <;> rfl) | (simp [*, errW_none, errW_some] <;> rfl), by repeat (first | (with_reducible first | exact HB.out | apply below_alloc | apply pw_below_drewN | apply below_drew1 | refine below_set ?_ GE196.out) | exact HB.out)⟩
  rw [if_pos c3] at H
  have c3b0 : decide (0 ≤ a0_0) = true := decide_eq_true c3
  clear c3
  by_cases c4 : a0_0 ≤ a0_1
  · rw [if_pos c4] at H
    have c4b0 : decide (a0_0 ≤ a0_1) = true := decide_eq_true c4
    clear c4
    obtain rfl := Option.some.inj H
    go_enter Try.func61, Try.ntmps61
    go_wp2_with (first | ((with_reducible refine gate_dst (N := 2) rfl ?_); refine box_event ?hg (N := 2) ?hd (cs := #[.int .i64 a0_0, .int .i64 a0_1]) (t := 39) ?hr ?_; (case hd => rfl); (case hg => rfl); (case hr => first | (go_simp; done) | (go_simp; rfl)); intro gb196 hg w5 hbox hb; have n0_ := Aside0.mk (below_step (by repeat (first | (with_reducible first | exact HB.out | apply below_alloc | apply pw_below_drewN | apply below_drew1) | exact HB.out)) hb); have n1_ := Aside0.mk (hbox); have n2_ := Aside0.mk ((by rw [hg]; exact (below_size (by repeat (first | (with_reducible first | exact HB.out | apply below_alloc | apply pw_below_drewN | apply below_drew1) | exact HB.out))) : w.heap.size ≤ gb196)); have n3_ := Aside0.mk ((by rw [hg]; exact (below_size (by repeat (first | (with_reducible first | exact HB.out | apply below_alloc | apply pw_below_drewN | apply below_drew1) | exact HB.out))) : w.heap.size ≤ gb196)); clear HB; have HB := n0_; have BK196 := n1_; have GW196 := n2_; have GE196 := n3_; clear n0_ n1_ n2_ n3_; clear hb hbox hg; have hcz6_0 : w5.cell? ⟨gb196, 0, none⟩ = some (.int .i64 a0_0) := (blk_cell BK196.out 0).trans rfl; have hcz6_1 : w5.cell? ⟨gb196, 1, none⟩ = some (.int .i64 a0_1) := (blk_cell BK196.out 1).trans rfl; have hfz6_0 := blk_frozen BK196.out 0; have hfz6_1 := blk_frozen BK196.out 1))
    go_ret
    exact ⟨by first | rfl | (simp [errW_none, errW_some] <;> rfl) | (simp [*, errW_none, errW_some] <;> rfl), by repeat (first | (with_reducible first | exact HB.out | apply below_alloc | apply pw_below_drewN | apply below_drew1 | refine below_set ?_ GE196.out) | exact HB.out)⟩
  rw [if_neg c4] at H
  have c4b0 : decide (a0_0 ≤ a0_1) = false := decide_eq_false c4
  clear c4
  obtain rfl := Option.some.inj H
  go_enter Try.func61, Try.ntmps61
  go_wp2_with (first | ((with_reducible refine gate_dst (N := 2) rfl ?_); refine box_event ?hg (N := 2) ?hd (cs := #[.int .i64 a0_0, .int .i64 a0_1]) (t := 39) ?hr ?_; (case hd => rfl); (case hg => rfl); (case hr => first | (go_simp; done) | (go_simp; rfl)); intro gb196 hg w7 hbox hb; have n0_ := Aside0.mk (below_step (by repeat (first | (with_reducible first | exact HB.out | apply below_alloc | apply pw_below_drewN | apply below_drew1) | exact HB.out)) hb); have n1_ := Aside0.mk (hbox); have n2_ := Aside0.mk ((by rw [hg]; exact (below_size (by repeat (first | (with_reducible first | exact HB.out | apply below_alloc | apply pw_below_drewN | apply below_drew1) | exact HB.out))) : w.heap.size ≤ gb196)); have n3_ := Aside0.mk ((by rw [hg]; exact (below_size (by repeat (first | (with_reducible first | exact HB.out | apply below_alloc | apply pw_below_drewN | apply below_drew1) | exact HB.out))) : w.heap.size ≤ gb196)); clear HB; have HB := n0_; have BK196 := n1_; have GW196 := n2_; have GE196 := n3_; clear n0_ n1_ n2_ n3_; clear hb hbox hg; have hcz8_0 : w7.cell? ⟨gb196, 0, none⟩ = some (.int .i64 a0_0) := (blk_cell BK196.out 0).trans rfl; have hcz8_1 : w7.cell? ⟨gb196, 1, none⟩ = some (.int .i64 a0_1) := (blk_cell BK196.out 1).trans rfl; have hfz8_0 := blk_frozen BK196.out 0; have hfz8_1 := blk_frozen BK196.out 1))
  go_ret
  exact ⟨by first | rfl | (simp [errW_none, errW_some] <;> rfl) | (simp [*, errW_none, errW_some] <;> rfl), by repeat (first | (with_reducible first | exact HB.out | apply below_alloc | apply pw_below_drewN | apply below_drew1 | refine below_set ?_ GE196.out) | exact HB.out)⟩

def norm_Back.f (l0 : List Int) (a1_0 : Int) (a1_1 : Int) : Option (Int × Int × Bool) := (norm_lies.f a1_0 a1_1 (l0.length : Int)).bind fun t199 => (if t199 = true then (if 0 ≤ a1_0 then (if a1_0 < (l0.length : Int) then (if a1_1 > a1_0 then (if 0 ≤ (wrap64 (a1_1 - 1)) then (if (wrap64 (a1_1 - 1)) < (l0.length : Int) then (some (rd l0 a1_0, wrap64 ((rd l0 (wrap64 (a1_1 - 1))) + 1), true)) else (none)) else (none)) else (some (rd l0 a1_0, rd l0 a1_0, true))) else (none)) else (none)) else (some (0, 0, false)))
def norm_Back.T3 : Bool × List (List Nat × List Nat) := (true, [([], []), ([], []), ([1], [1]), ([0, 2], [0, 2]), ([3], [3]), ([], []), ([], []), ([6], [6]), ([5, 7], [5, 7]), ([8], [8]), ([4, 9], [4, 9]), ([], []), ([11, 10, 0, 1, 2, 3, 4, 5, 6, 7, 8, 9, 10, 11], [10, 11])])
def norm_Back.B3 : List Nat := [0, 0, 2, 7, 15, 0, 0, 64, 224, 480, 1023, 0, 4095]
theorem norm_Back.tab3 : rtab .any (opsOf Try.f41 3) = norm_Back.T3 := by kernel_rfl
theorem norm_Back.bits3 : waitsOk norm_Back.T3.2 norm_Back.B3 = true := by kernel_rfl
set_option maxHeartbeats 8000000 in
set_option maxRecDepth 100000 in
theorem norm_Back.calls (A0 : Option Addr) (c0 : Nat) (l0 : List Int) (a1_0 : Int) (a1_1 : Int) (r1 : Int) (r2 : Int) (r3 : Bool) (w : World) (hr0 : Kd.C (Kd.int .i64) w A0 l0.length l0) (hc0 : l0.length ≤ c0) (h : norm_Back.f l0 a1_0 a1_1 = some (r1, r2, r3)) :
    Calls Try.prog 41 #[.slice A0 l0.length c0, .agg #[.int .i64 a1_0, .int .i64 a1_1]] w fun e w' => e = .returned (.tuple #[.agg #[.int .i64 r1, .int .i64 r2], .bool r3]) ∧ Below w.heap.size w w' := by
  have hu39 := Try.underlying39
  have HR0 := Aside0.mk hr0
  have HC0 := Aside0.mk hc0
  clear hr0 hc0
  have HB := Aside0.mk (Below.refl w.heap.size w)
  have H : ((norm_lies.f a1_0 a1_1 (l0.length : Int)).bind fun t199 => (if t199 = true then (if 0 ≤ a1_0 then (if a1_0 < (l0.length : Int) then (if a1_1 > a1_0 then (if 0 ≤ (wrap64 (a1_1 - 1)) then (if (wrap64 (a1_1 - 1)) < (l0.length : Int) then (some (rd l0 a1_0, wrap64 ((rd l0 (wrap64 (a1_1 - 1))) + 1), true)) else (none)) else (none)) else (some (rd l0 a1_0, rd l0 a1_0, true))) else (none)) else (none)) else (some (0, 0, false)))) = some (r1, r2, r3) := h
  clear h
  replace H := Option.bind_eq_some_iff.mp H
  obtain ⟨t199, A30, H⟩ := H
  replace H : (if t199 = true then (if 0 ≤ a1_0 then (if a1_0 < (l0.length : Int) then (if a1_1 > a1_0 then (if 0 ≤ (wrap64 (a1_1 - 1)) then (if (wrap64 (a1_1 - 1)) < (l0.length : Int) then (some (rd l0 a1_0, wrap64 ((rd l0 (wrap64 (a1_1 - 1))) + 1), true)) else (none)) else (none)) else (some (rd l0 a1_0, rd l0 a1_0, true))) else (none)) else (none)) else (some (0, 0, false))) = some (r1, r2, r3) := H
  have A3 := Aside0.mk A30
  clear A30
  by_cases c4 : t199 = true
  rotate_left
  · replace c4 := Bool.eq_false_iff.mpr c4
    subst c4
    have H1 : (some (0, 0, false)) = some (r1, r2, r3) := by rw [if_neg (show ¬ (false = true) by decide)] at H; exact H
    clear H
    have H := H1
    clear H1
    simp only [Option.some.injEq, Prod.mk.injEq] at H
    obtain ⟨rfl, rfl, rfl⟩ := H
    go_enter Try.func41, Try.ntmps41
    go_wp2_with (first | ((with_reducible refine gate_dst (N := 3) rfl ?_); refine box_event ?hg (N := 3) ?hd (cs := #[.int .i64 a1_0, .int .i64 a1_1]) (t := 39) ?hr ?_; (case hd => rfl); (case hg => rfl); (case hr => first | (go_simp; done) | (go_simp; rfl)); intro gb197 hg w39 hbox hb; have n0_ := Aside0.mk (below_step (by repeat (first | (with_reducible first | exact HB.out | apply below_alloc | apply pw_below_drewN | apply below_drew1) | exact HB.out)) hb); have n1_ := Aside0.mk (hbox); have n2_ := Aside0.mk ((by rw [hg]; exact (below_size (by repeat (first | (with_reducible first | exact HB.out | apply below_alloc | apply pw_below_drewN | apply below_drew1) | exact HB.out))) : w.heap.size ≤ gb197)); have n3_ := Aside0.mk ((by rw [hg]; exact (below_size (by repeat (first | (with_reducible first | exact HB.out | apply below_alloc | apply pw_below_drewN | apply below_drew1) | exact HB.out))) : w.heap.size ≤ gb197)); clear HB; have HB := n0_; have BK197 := n1_; have GW197 := n2_; have GE197 := n3_; clear n0_ n1_ n2_ n3_; clear hb hbox hg) | ((with_reducible refine gate_dst (N := 4) rfl ?_); refine box_event ?hg (N := 4) ?hd (cs := #[.int .i64 0, .int .i64 0]) (t := 39) ?hr ?_; (case hd => rfl); (case hg => rfl); (case hr => first | (go_simp; done) | (go_simp; rfl)); intro gb198 hg w40 hbox hb; have n0_ := Aside0.mk (blk_below (g := gb197) (o := .cells #[.int .i64 a1_0, .int .i64 a1_1] 39 (0, 0)) (by (with_reducible repeat (first | refine blk_drewN ?_ _ | refine blk_drew ?_ | refine blk_alloc ?_ _)); exact BK197.out) hb); have n1_ := Aside0.mk (below_step (by repeat (first | (with_reducible first | exact HB.out | apply below_alloc | apply pw_below_drewN | apply below_drew1 | refine below_set ?_ GE197.out) | exact HB.out)) hb); have n2_ := Aside0.mk (hbox); have n3_ := Aside0.mk ((by rw [hg]; exact (below_size (by repeat (first | (with_reducible first | exact HB.out | apply below_alloc | apply pw_below_drewN | apply below_drew1 | refine below_set ?_ GE197.out) | exact HB.out))) : w.heap.size ≤ gb198)); have n4_ := Aside0.mk ((by rw [hg]; exact (below_size (by repeat (first | (with_reducible first | exact HB.out | apply below_alloc | apply pw_below_drewN | apply below_drew1 | refine below_set ?_ GE197.out) | exact HB.out))) : w.heap.size ≤ gb198)); have n5_ := Aside0.mk ((by rw [hg]; exact Nat.ne_of_lt (blk_lt (g := gb197) (o := .cells #[.int .i64 a1_0, .int .i64 a1_1] 39 (0, 0)) (by (with_reducible repeat (first | refine blk_drewN ?_ _ | refine blk_drew ?_ | refine blk_alloc ?_ _)); exact BK197.out)) : gb197 ≠ gb198)); have n6_ := Aside0.mk ((by rw [hg]; exact Nat.ne_of_gt (blk_lt (g := gb197) (o := .cells #[.int .i64 a1_0, .int .i64 a1_1] 39 (0, 0)) (by (with_reducible repeat (first | refine blk_drewN ?_ _ | refine blk_drew ?_ | refine blk_alloc ?_ _)); exact BK197.out)) : gb198 ≠ gb197)); clear BK197; clear HB; have BK197 := n0_; have HB := n1_; have BK198 := n2_; have GW198 := n3_; have GE198 := n4_; have NB197_198 := n5_; have NB198_197 := n6_; clear n0_ n1_ n2_ n3_ n4_ n5_ n6_; clear hb hbox hg; have hnb41 := NB197_198.out; have hnc41 := NB198_197.out; have hcz42_0 : w40.cell? ⟨gb197, 0, none⟩ = some (.int .i64 a1_0) := (blk_cell BK197.out 0).trans rfl; have hcz42_1 : w40.cell? ⟨gb197, 1, none⟩ = some (.int .i64 a1_1) := (blk_cell BK197.out 1).trans rfl; have hfz42_0 := blk_frozen BK197.out 0; have hfz42_1 := blk_frozen BK197.out 1) | ((with_reducible refine gate_callee (f := 61) rfl ?_); refine goesL_ (some 10) rfl rfl Try.func61 (by kernel_rfl) rfl #[.agg #[.int .i64 a1_0, .int .i64 a1_1], .int .i64 (l0.length : Int)] rfl (by (try simp only [List.map_toArray, List.map_cons, List.map_nil]); first | done | rfl | (simp only [List.length_drop, List.length_take]; rfl)) ?_; (with_reducible refine (norm_lies.calls a1_0 a1_1 (l0.length : Int) false _ A3.out).mono ?_); rintro e w43 ⟨rfl, hb⟩; refine ⟨_, rfl, ?_⟩; have n0_ := Aside0.mk (blk_below (g := gb197) (o := .cells #[.int .i64 a1_0, .int .i64 a1_1] 39 (0, 0)) (by (with_reducible repeat (first | refine blk_drewN ?_ _ | refine blk_drew ?_ | refine blk_alloc ?_ _)); exact BK197.out) hb); have n1_ := Aside0.mk (blk_below (g := gb198) (o := .cells #[.int .i64 0, .int .i64 0] 39 (0, 0)) (by (with_reducible repeat (first | refine blk_drewN ?_ _ | refine blk_drew ?_ | refine blk_alloc ?_ _)); exact BK198.out) hb); have n2_ := Aside0.mk (below_step (by repeat (first | (with_reducible first | exact HB.out | apply below_alloc | apply pw_below_drewN | apply below_drew1 | refine below_set ?_ GE197.out | refine below_set ?_ GE198.out) | exact HB.out)) hb); clear BK197; clear BK198; clear HB; have BK197 := n0_; have BK198 := n1_; have HB := n2_; clear n0_ n1_ n2_; (try clear hb); (try clear hb2); (try clear hk); (try clear hi); have hcz44_0 : w43.cell? ⟨gb198, 0, none⟩ = some (.int .i64 0) := (blk_cell BK198.out 0).trans rfl; have hcz44_1 : w43.cell? ⟨gb198, 1, none⟩ = some (.int .i64 0) := (blk_cell BK198.out 1).trans rfl; have hfz44_0 := blk_frozen BK198.out 0; have hfz44_1 := blk_frozen BK198.out 1))
    refine bodyPost_ret (results_ct rfl _ _ gb198 39 #[.int .i64 0, .int .i64 0] (0, 0) _ rfl (by (with_reducible repeat (first | refine blk_drewN ?_ _ | refine blk_drew ?_ | refine blk_alloc ?_ _)); refine blk_put (cs := #[.int .i64 0, .int .i64 0]) ?_ 1 _ rfl; (with_reducible repeat (first | refine blk_drewN ?_ _ | refine blk_drew ?_ | refine blk_alloc ?_ _)); refine blk_put (cs := #[.int .i64 0, .int .i64 0]) ?_ 0 _ rfl; (with_reducible repeat (first | refine blk_drewN ?_ _ | refine blk_drew ?_ | refine blk_alloc ?_ _)); exact BK198.out) Try.underlying39 rfl (by kernel_rfl)) rfl ?_
    exact ⟨by first | rfl | (simp [errW_none, errW_some] <;> rfl) | (simp [*, errW_none, errW_some] <;> rfl), by repeat (first | (with_reducible first | exact HB.out | apply below_alloc | apply pw_below_drewN | apply below_drew1 | refine below_set ?_ GE197.out | refine below_set ?_ GE198.out) | exact HB.out)⟩
  subst c4
  have H1 : (if 0 ≤ a1_0 then (if a1_0 < (l0.length : Int) then (if a1_1 > a1_0 then (if 0 ≤ (wrap64 (a1_1 - 1)) then (if (wrap64 (a1_1 - 1)) < (l0.length : Int) then (some (rd l0 a1_0, wrap64 ((rd l0 (wrap64 (a1_1 - 1))) + 1), true)) else (none)) else (none)) else (some (rd l0 a1_0, rd l0 a1_0, true))) else (none)) else (none)) = some (r1, r2, r3) := by rw [if_pos rfl] at H; exact H
  clear H
  have H := H1
  clear H1
  by_cases c5 : 0 ≤ a1_0
  rotate_left
  · rw [if_neg c5] at H
    exact absurd H (by simp)
  rw [if_pos c5] at H
  have c5b0 : decide (0 ≤ a1_0) = true := decide_eq_true c5
  clear c5
  by_cases c6 : a1_0 < (l0.length : Int)
  rotate_left
  · rw [if_neg c6] at H
    exact absurd H (by simp)
  rw [if_pos c6] at H
  have c6b0 : decide (a1_0 < (l0.length : Int)) = true := decide_eq_true c6
  clear c6
  by_cases c7 : a1_1 > a1_0
  rotate_left
  · rw [if_neg c7] at H
    have c7b0 : decide (a1_0 < a1_1) = false := decide_eq_false c7
    clear c7
    simp only [Option.some.injEq, Prod.mk.injEq] at H
    obtain ⟨rfl, rfl, rfl⟩ := H
    go_enter Try.func41, Try.ntmps41
    try go_wp2_with (first | ((with_reducible refine gate_dst (N := 3) rfl ?_); refine box_event ?hg (N := 3) ?hd (cs := #[.int .i64 a1_0, .int .i64 a1_1]) (t := 39) ?hr ?_; (case hd => rfl); (case hg => rfl); (case hr => first | (go_simp; done) | (go_simp; rfl)); intro gb197 hg w25 hbox hb; have n0_ := Aside0.mk (below_step (by repeat (first | (with_reducible first | exact HB.out | apply below_alloc | apply pw_below_drewN | apply below_drew1) | exact HB.out)) hb); have n1_ := Aside0.mk (hbox); have n2_ := Aside0.mk ((by rw [hg]; exact (below_size (by repeat (first | (with_reducible first | exact HB.out | apply below_alloc | apply pw_below_drewN | apply below_drew1) | exact HB.out))) : w.heap.size ≤ gb197)); have n3_ := Aside0.mk ((by rw [hg]; exact (below_size (by repeat (first | (with_reducible first | exact HB.out | apply below_alloc | apply pw_below_drewN | apply below_drew1) | exact HB.out))) : w.heap.size ≤ gb197)); clear HB; have HB := n0_; have BK197 := n1_; have GW197 := n2_; have GE197 := n3_; clear n0_ n1_ n2_ n3_; clear hb hbox hg) | ((with_reducible refine gate_dst (N := 4) rfl ?_); refine box_event ?hg (N := 4) ?hd (cs := #[.int .i64 0, .int .i64 0]) (t := 39) ?hr ?_; (case hd => rfl); (case hg => rfl); (case hr => first | (go_simp; done) | (go_simp; rfl)); intro gb198 hg w26 hbox hb; have n0_ := Aside0.mk (blk_below (g := gb197) (o := .cells #[.int .i64 a1_0, .int .i64 a1_1] 39 (0, 0)) (by (with_reducible repeat (first | refine blk_drewN ?_ _ | refine blk_drew ?_ | refine blk_alloc ?_ _)); exact BK197.out) hb); have n1_ := Aside0.mk (below_step (by repeat (first | (with_reducible first | exact HB.out | apply below_alloc | apply pw_below_drewN | apply below_drew1 | refine below_set ?_ GE197.out) | exact HB.out)) hb); have n2_ := Aside0.mk (hbox); have n3_ := Aside0.mk ((by rw [hg]; exact (below_size (by repeat (first | (with_reducible first | exact HB.out | apply below_alloc | apply pw_below_drewN | apply below_drew1 | refine below_set ?_ GE197.out) | exact HB.out))) : w.heap.size ≤ gb198)); have n4_ := Aside0.mk ((by rw [hg]; exact (below_size (by repeat (first | (with_reducible first | exact HB.out | apply below_alloc | apply pw_below_drewN | apply below_drew1 | refine below_set ?_ GE197.out) | exact HB.out))) : w.heap.size ≤ gb198)); have n5_ := Aside0.mk ((by rw [hg]; exact Nat.ne_of_lt (blk_lt (g := gb197) (o := .cells #[.int .i64 a1_0, .int .i64 a1_1] 39 (0, 0)) (by (with_reducible repeat (first | refine blk_drewN ?_ _ | refine blk_drew ?_ | refine blk_alloc ?_ _)); exact BK197.out)) : gb197 ≠ gb198)); have n6_ := Aside0.mk ((by rw [hg]; exact Nat.ne_of_gt (blk_lt (g := gb197) (o := .cells #[.int .i64 a1_0, .int .i64 a1_1] 39 (0, 0)) (by (with_reducible repeat (first | refine blk_drewN ?_ _ | refine blk_drew ?_ | refine blk_alloc ?_ _)); exact BK197.out)) : gb198 ≠ gb197)); clear BK197; clear HB; have BK197 := n0_; have HB := n1_; have BK198 := n2_; have GW198 := n3_; have GE198 := n4_; have NB197_198 := n5_; have NB198_197 := n6_; clear n0_ n1_ n2_ n3_ n4_ n5_ n6_; clear hb hbox hg; have hnb27 := NB197_198.out; have hnc27 := NB198_197.out; have hcz28_0 : w26.cell? ⟨gb197, 0, none⟩ = some (.int .i64 a1_0) := (blk_cell BK197.out 0).trans rfl; have hcz28_1 : w26.cell? ⟨gb197, 1, none⟩ = some (.int .i64 a1_1) := (blk_cell BK197.out 1).trans rfl; have hfz28_0 := blk_frozen BK197.out 0; have hfz28_1 := blk_frozen BK197.out 1) | ((with_reducible refine gate_callee (f := 61) rfl ?_); refine goesL_ (some 10) rfl rfl Try.func61 (by kernel_rfl) rfl #[.agg #[.int .i64 a1_0, .int .i64 a1_1], .int .i64 (l0.length : Int)] rfl (by (try simp only [List.map_toArray, List.map_cons, List.map_nil]); first | done | rfl | (simp only [List.length_drop, List.length_take]; rfl)) ?_; (with_reducible refine (norm_lies.calls a1_0 a1_1 (l0.length : Int) true _ A3.out).mono ?_); rintro e w29 ⟨rfl, hb⟩; refine ⟨_, rfl, ?_⟩; have n0_ := Aside0.mk (blk_below (g := gb197) (o := .cells #[.int .i64 a1_0, .int .i64 a1_1] 39 (0, 0)) (by (with_reducible repeat (first | refine blk_drewN ?_ _ | refine blk_drew ?_ | refine blk_alloc ?_ _)); exact BK197.out) hb); have n1_ := Aside0.mk (blk_below (g := gb198) (o := .cells #[.int .i64 0, .int .i64 0] 39 (0, 0)) (by (with_reducible repeat (first | refine blk_drewN ?_ _ | refine blk_drew ?_ | refine blk_alloc ?_ _)); exact BK198.out) hb); have n2_ := Aside0.mk (below_step (by repeat (first | (with_reducible first | exact HB.out | apply below_alloc | apply pw_below_drewN | apply below_drew1 | refine below_set ?_ GE197.out | refine below_set ?_ GE198.out) | exact HB.out)) hb); clear BK197; clear BK198; clear HB; have BK197 := n0_; have BK198 := n1_; have HB := n2_; clear n0_ n1_ n2_; (try clear hb); (try clear hb2); (try clear hk); (try clear hi)))
    have n0_ := Aside0.mk (blk_drew BK197.out)
    have n1_ := Aside0.mk (blk_drew BK198.out)
    have n2_ := Aside0.mk (below_drew1 HB.out)
    clear BK197
    clear BK198
    clear HB
    have BK197 := n0_
    have BK198 := n1_
    have HB := n2_
    clear n0_ n1_ n2_
    have p200 : 0 ≤ (a1_0 : Int) := of_decide_eq_true (by first | (with_reducible assumption) | assumption)
    have q200 : a1_0 < (l0.length : Int) := of_decide_eq_true (by first | (with_reducible assumption) | assumption)
    obtain ⟨ad200, e200, hx200_0⟩ := Kd.at_int HR0.out a1_0 p200 q200
    have hw200_0 := hx200_0
    cases e200
    replace hx200_0 := (HB.out.cell (World.block_lt_of_cell? w _ hx200_0)).trans hx200_0
    replace p200 := eq_true p200
    replace q200 := eq_true q200
    have p201 : 0 ≤ (a1_0 : Int) := of_decide_eq_true (by first | (with_reducible assumption) | assumption)
    have q201 : a1_0 < (l0.length : Int) := of_decide_eq_true (by first | (with_reducible assumption) | assumption)
    obtain ⟨ad201, e201, hx201_0⟩ := Kd.at_int HR0.out a1_0 p201 q201
    have hw201_0 := hx201_0
    obtain rfl : ad200 = ad201 := (by injection e201)
    replace hx201_0 := (HB.out.cell (World.block_lt_of_cell? w _ hx201_0)).trans hx201_0
    replace p201 := eq_true p201
    replace q201 := eq_true q201
    refine start_ (n := 13) (S := fun w' => w'.cell? ⟨gb197, 0, none⟩ = some (.int .i64 a1_0) ∧ w'.cell? ⟨gb197, 1, none⟩ = some (.int .i64 a1_1) ∧ w'.cell? (ad200.add (a1_0).toNat) = some (.int .i64 (rd l0 a1_0)) ∧ w'.cell? (ad200.add (a1_0).toNat) = some (.int .i64 (rd l0 a1_0))) (ds := []) #[false, false, false, false, false, false, false, false, false, false, false, false, false] (by kernel_rfl) rfl rfl ⟨(blk_cell BK197.out 0).trans rfl, (blk_cell BK197.out 1).trans rfl, ((HB.out.cell (World.block_lt_of_cell? w _ hw200_0)).trans hw200_0), ((HB.out.cell (World.block_lt_of_cell? w _ hw201_0)).trans hw201_0)⟩ (fun hHeld => ?_); refine with_tabW norm_Back.tab3 norm_Back.bits3 (fun HT_ HW_ => ?_)
    generalize w29.drew = w30 at BK197 BK198 HB hx200_0 hx201_0 hHeld ⊢
    refine pure_ (i := 0) (N := some 13) (v := ?_) (a' := ?_) #[true, false, false, false, false, false, false, false, false, false, false, false, false] rfl rfl (any_of HT_.out (by kernel_rfl)) (fun _ _ _ h => h) (Or.inl ⟨by rfl, ?_⟩) ?_ ?_
    rotate_left
    · intro w'
      go_simp
      with_reducible rfl
    rotate_left
    · simp only [Act.put, List.setIfInBounds_toArray, List.set_cons_zero, List.set_cons_succ, i64_w, i32_w]
      rfl
    refine pure_ (i := 1) (N := some 14) (v := ?_) (a' := ?_) #[true, true, false, false, false, false, false, false, false, false, false, false, false] rfl rfl (any_of HT_.out (by kernel_rfl)) (fun _ _ _ h => h) (Or.inl ⟨by rfl, ?_⟩) ?_ ?_
    rotate_left
    · intro w'
      go_simp
      with_reducible rfl
    rotate_left
    · simp only [Act.put, List.setIfInBounds_toArray, List.set_cons_zero, List.set_cons_succ, i64_w, i32_w]
      rfl
    refine pure_ (i := 5) (N := some 18) (v := ?_) (a' := ?_) #[true, true, false, false, false, true, false, false, false, false, false, false, false] rfl rfl (any_of HT_.out (by kernel_rfl)) (fun _ _ _ h => h) (Or.inl ⟨by rfl, ?_⟩) ?_ ?_
    rotate_left
    · intro w'
      go_simp
      with_reducible rfl
    rotate_left
    · simp only [Act.put, List.setIfInBounds_toArray, List.set_cons_zero, List.set_cons_succ, i64_w, i32_w]
      rfl
    refine pure_ (i := 6) (N := some 19) (v := ?_) (a' := ?_) #[true, true, false, false, false, true, true, false, false, false, false, false, false] rfl rfl (any_of HT_.out (by kernel_rfl)) (fun _ _ _ h => h) (Or.inl ⟨by rfl, ?_⟩) ?_ ?_
    rotate_left
    · intro w'
      go_simp
      with_reducible rfl
    rotate_left
    · simp only [Act.put, List.setIfInBounds_toArray, List.set_cons_zero, List.set_cons_succ, i64_w, i32_w]
      rfl
    refine take_ (i := 2) (N := some 15) (v := ?_) (a' := ?_) #[true, true, true, false, false, true, true, false, false, false, false, false, false] rfl rfl (take_ofW HT_.out HW_.out (by kernel_rfl)) (fun _ _ _ h => h) (Or.inl ⟨by rfl, ?_⟩) hHeld ?_ ?_
    rotate_left
    · rintro w' ⟨s0, s1, s2, s3⟩
      go_simp
      with_reducible rfl
    rotate_left
    · simp only [Act.put, List.setIfInBounds_toArray, List.set_cons_zero, List.set_cons_succ, i64_w, i32_w]
      rfl
    refine pure_ (i := 3) (N := some 16) (v := ?_) (a' := ?_) #[true, true, true, true, false, true, true, false, false, false, false, false, false] rfl rfl (any_of HT_.out (by kernel_rfl)) (fun _ _ _ h => h) (Or.inl ⟨by rfl, ?_⟩) ?_ ?_
    rotate_left
    · intro w'
      go_simp
      with_reducible rfl
    rotate_left
    · simp only [Act.put, List.setIfInBounds_toArray, List.set_cons_zero, List.set_cons_succ, i64_w, i32_w]
      rfl
    refine take_ (i := 4) (N := some 17) (v := ?_) (a' := ?_) #[true, true, true, true, true, true, true, false, false, false, false, false, false] rfl rfl (take_ofW HT_.out HW_.out (by kernel_rfl)) (fun _ _ _ h => h) (Or.inl ⟨by rfl, ?_⟩) hHeld ?_ ?_
    rotate_left
    · rintro w' ⟨s0, s1, s2, s3⟩
      go_simp
      with_reducible rfl
    rotate_left
    · simp only [Act.put, List.setIfInBounds_toArray, List.set_cons_zero, List.set_cons_succ, i64_w, i32_w]
      rfl
    refine take_ (i := 7) (N := some 20) (v := ?_) (a' := ?_) #[true, true, true, true, true, true, true, true, false, false, false, false, false] rfl rfl (take_ofW HT_.out HW_.out (by kernel_rfl)) (fun _ _ _ h => h) (Or.inl ⟨by rfl, ?_⟩) hHeld ?_ ?_
    rotate_left
    · rintro w' ⟨s0, s1, s2, s3⟩
      go_simp
      with_reducible rfl
    rotate_left
    · simp only [Act.put, List.setIfInBounds_toArray, List.set_cons_zero, List.set_cons_succ, i64_w, i32_w]
      rfl
    refine pure_ (i := 8) (N := some 21) (v := ?_) (a' := ?_) #[true, true, true, true, true, true, true, true, true, false, false, false, false] rfl rfl (any_of HT_.out (by kernel_rfl)) (fun _ _ _ h => h) (Or.inl ⟨by rfl, ?_⟩) ?_ ?_
    rotate_left
    · intro w'
      go_simp
      with_reducible rfl
    rotate_left
    · simp only [Act.put, List.setIfInBounds_toArray, List.set_cons_zero, List.set_cons_succ, i64_w, i32_w]
      rfl
    refine take_ (i := 9) (N := some 22) (v := ?_) (a' := ?_) #[true, true, true, true, true, true, true, true, true, true, false, false, false] rfl rfl (take_ofW HT_.out HW_.out (by kernel_rfl)) (fun _ _ _ h => h) (Or.inl ⟨by rfl, ?_⟩) hHeld ?_ ?_
    rotate_left
    · rintro w' ⟨s0, s1, s2, s3⟩
      go_simp
      with_reducible rfl
    rotate_left
    · simp only [Act.put, List.setIfInBounds_toArray, List.set_cons_zero, List.set_cons_succ, i64_w, i32_w]
      rfl
    refine pure_ (i := 10) (N := some 23) (v := ?_) (a' := ?_) #[true, true, true, true, true, true, true, true, true, true, true, false, false] rfl rfl (any_of HT_.out (by kernel_rfl)) (fun _ _ _ h => h) (Or.inl ⟨by rfl, ?_⟩) ?_ ?_
    rotate_left
    · intro w'
      go_simp
      with_reducible rfl
    rotate_left
    · simp only [Act.put, List.setIfInBounds_toArray, List.set_cons_zero, List.set_cons_succ, i64_w, i32_w]
      rfl
    refine one_ (i := 11) (N := some 6) #[true, true, true, true, true, true, true, true, true, true, true, true, false] rfl rfl (one_of HT_.out (by kernel_rfl)) (by decide) (fun K hK => ?_)
    refine box_step ?hg (N := 6) ?hd (cs := #[.int .i64 0, .int .i64 0]) (t := 39) ?hr ?_; (case hd => rfl); (case hg => rfl); (case hr => first | (go_simp; done) | (go_simp; rfl))
    intro gb202 hg w31 hbox hb
    have n0_ := Aside0.mk (blk_below (g := gb197) (o := .cells #[.int .i64 a1_0, .int .i64 a1_1] 39 (0, 0)) (by (with_reducible repeat (first | refine blk_drewN ?_ _ | refine blk_drew ?_ | refine blk_alloc ?_ _)); exact BK197.out) hb)
    have n1_ := Aside0.mk (blk_below (g := gb198) (o := .cells #[.int .i64 0, .int .i64 0] 39 (0, 0)) (by (with_reducible repeat (first | refine blk_drewN ?_ _ | refine blk_drew ?_ | refine blk_alloc ?_ _)); exact BK198.out) hb)
    have n2_ := Aside0.mk (below_step (by repeat (first | (with_reducible first | exact HB.out | apply below_alloc | apply pw_below_drewN | apply below_drew1 | refine below_set ?_ GE197.out | refine below_set ?_ GE198.out) | exact HB.out)) hb)
    have n3_ := Aside0.mk (hbox)
    have n4_ := Aside0.mk ((by rw [hg]; exact (below_size (by repeat (first | (with_reducible first | exact HB.out | apply below_alloc | apply pw_below_drewN | apply below_drew1 | refine below_set ?_ GE197.out | refine below_set ?_ GE198.out) | exact HB.out))) : w.heap.size ≤ gb202))
    have n5_ := Aside0.mk ((by rw [hg]; exact (below_size (by repeat (first | (with_reducible first | exact HB.out | apply below_alloc | apply pw_below_drewN | apply below_drew1 | refine below_set ?_ GE197.out | refine below_set ?_ GE198.out) | exact HB.out))) : w.heap.size ≤ gb202))
    have n6_ := Aside0.mk ((by rw [hg]; exact Nat.ne_of_lt (blk_lt (g := gb197) (o := .cells #[.int .i64 a1_0, .int .i64 a1_1] 39 (0, 0)) (by (with_reducible repeat (first | refine blk_drewN ?_ _ | refine blk_drew ?_ | refine blk_alloc ?_ _)); exact BK197.out)) : gb197 ≠ gb202))
    have n7_ := Aside0.mk ((by rw [hg]; exact Nat.ne_of_gt (blk_lt (g := gb197) (o := .cells #[.int .i64 a1_0, .int .i64 a1_1] 39 (0, 0)) (by (with_reducible repeat (first | refine blk_drewN ?_ _ | refine blk_drew ?_ | refine blk_alloc ?_ _)); exact BK197.out)) : gb202 ≠ gb197))
    have n8_ := Aside0.mk ((by rw [hg]; exact Nat.ne_of_lt (blk_lt (g := gb198) (o := .cells #[.int .i64 0, .int .i64 0] 39 (0, 0)) (by (with_reducible repeat (first | refine blk_drewN ?_ _ | refine blk_drew ?_ | refine blk_alloc ?_ _)); exact BK198.out)) : gb198 ≠ gb202))
    have n9_ := Aside0.mk ((by rw [hg]; exact Nat.ne_of_gt (blk_lt (g := gb198) (o := .cells #[.int .i64 0, .int .i64 0] 39 (0, 0)) (by (with_reducible repeat (first | refine blk_drewN ?_ _ | refine blk_drew ?_ | refine blk_alloc ?_ _)); exact BK198.out)) : gb202 ≠ gb198))
    clear BK197
    clear BK198
    clear HB
    have BK197 := n0_
    have BK198 := n1_
    have HB := n2_
    have BK202 := n3_
    have GW202 := n4_
    have GE202 := n5_
    have NB197_202 := n6_
    have NB202_197 := n7_
    have NB198_202 := n8_
    have NB202_198 := n9_
    clear n0_ n1_ n2_ n3_ n4_ n5_ n6_ n7_ n8_ n9_
    clear hb hbox hg
    refine hK.out _ _ ⟨(blk_cell BK197.out 0).trans rfl, (blk_cell BK197.out 1).trans rfl, ((HB.out.cell (World.block_lt_of_cell? w _ hw200_0)).trans hw200_0), ((HB.out.cell (World.block_lt_of_cell? w _ hw201_0)).trans hw201_0)⟩ (fun hHeld => ?_)
    clear hK K
    refine norm_ (a' := ?_) ?_ ?_
    rotate_left
    · show Act.put _ (some 6) _ = _
      simp only [Act.put, List.setIfInBounds_toArray, List.set_cons_zero, List.set_cons_succ, i64_w, i32_w]
      rfl
    refine one_ (i := 12) (N := none) #[true, true, true, true, true, true, true, true, true, true, true, true, true] rfl rfl (one_of HT_.out (by kernel_rfl)) (by decide) (fun K hK => ?_)
    have hs32 : w31.cell? ⟨gb202, 0, none⟩ = some (.int .i64 0) := (blk_cell BK202.out 0).trans rfl
    have hfs32 := blk_frozen BK202.out 0
    have hns32_0 := NB197_202.out
    have hns32_1 := NB198_202.out
    have hms32_0 := NB202_197.out
    have hms32_1 := NB202_198.out
    have hs33 : w31.cell? ⟨gb202, 1, none⟩ = some (.int .i64 0) := (blk_cell BK202.out 1).trans rfl
    have hfs33 := blk_frozen BK202.out 1
    have hns33_0 := NB197_202.out
    have hns33_1 := NB198_202.out
    have hms33_0 := NB202_197.out
    have hms33_1 := NB202_198.out
    refine skip_ (w1 := ?_) (by rfl) rfl ?_ ?_
    rotate_left
    · go_simp
      rfl
    refine hK.out _ _ ⟨((cell_far (p := ⟨gb202, _, none⟩) NB197_202.out _).trans (((cell_far (p := ⟨gb202, _, none⟩) NB197_202.out _).trans (hHeld.1)))), ((cell_far (p := ⟨gb202, _, none⟩) NB197_202.out _).trans (((cell_far (p := ⟨gb202, _, none⟩) NB197_202.out _).trans (hHeld.2.1)))), ((cell_far (p := ⟨gb202, _, none⟩) (by first | exact Nat.ne_of_lt (Nat.lt_of_lt_of_le (by have := World.block_lt_of_cell? _ _ hw200_0; first | rwa [add_block] at this | exact this) GW202.out) | (rw [add_block]; exact Nat.ne_of_lt (Nat.lt_of_lt_of_le (by have := World.block_lt_of_cell? _ _ hw200_0; first | rwa [add_block] at this | exact this) GW202.out)) | (show (Addr.add _ _).block ≠ _; rw [add_block]; exact Nat.ne_of_lt (Nat.lt_of_lt_of_le (by have := World.block_lt_of_cell? _ _ hw200_0; first | rwa [add_block] at this | exact this) GW202.out)) | (dsimp only; exact Nat.ne_of_lt (Nat.lt_of_lt_of_le (by have := World.block_lt_of_cell? _ _ hw200_0; first | rwa [add_block] at this | exact this) GW202.out))) _).trans (((cell_far (p := ⟨gb202, _, none⟩) (by first | exact Nat.ne_of_lt (Nat.lt_of_lt_of_le (by have := World.block_lt_of_cell? _ _ hw200_0; first | rwa [add_block] at this | exact this) GW202.out) | (rw [add_block]; exact Nat.ne_of_lt (Nat.lt_of_lt_of_le (by have := World.block_lt_of_cell? _ _ hw200_0; first | rwa [add_block] at this | exact this) GW202.out)) | (show (Addr.add _ _).block ≠ _; rw [add_block]; exact Nat.ne_of_lt (Nat.lt_of_lt_of_le (by have := World.block_lt_of_cell? _ _ hw200_0; first | rwa [add_block] at this | exact this) GW202.out)) | (dsimp only; exact Nat.ne_of_lt (Nat.lt_of_lt_of_le (by have := World.block_lt_of_cell? _ _ hw200_0; first | rwa [add_block] at this | exact this) GW202.out))) _).trans (hHeld.2.2.1)))), ((cell_far (p := ⟨gb202, _, none⟩) (by first | exact Nat.ne_of_lt (Nat.lt_of_lt_of_le (by have := World.block_lt_of_cell? _ _ hw201_0; first | rwa [add_block] at this | exact this) GW202.out) | (rw [add_block]; exact Nat.ne_of_lt (Nat.lt_of_lt_of_le (by have := World.block_lt_of_cell? _ _ hw201_0; first | rwa [add_block] at this | exact this) GW202.out)) | (show (Addr.add _ _).block ≠ _; rw [add_block]; exact Nat.ne_of_lt (Nat.lt_of_lt_of_le (by have := World.block_lt_of_cell? _ _ hw201_0; first | rwa [add_block] at this | exact this) GW202.out)) | (dsimp only; exact Nat.ne_of_lt (Nat.lt_of_lt_of_le (by have := World.block_lt_of_cell? _ _ hw201_0; first | rwa [add_block] at this | exact this) GW202.out))) _).trans (((cell_far (p := ⟨gb202, _, none⟩) (by first | exact Nat.ne_of_lt (Nat.lt_of_lt_of_le (by have := World.block_lt_of_cell? _ _ hw201_0; first | rwa [add_block] at this | exact this) GW202.out) | (rw [add_block]; exact Nat.ne_of_lt (Nat.lt_of_lt_of_le (by have := World.block_lt_of_cell? _ _ hw201_0; first | rwa [add_block] at this | exact this) GW202.out)) | (show (Addr.add _ _).block ≠ _; rw [add_block]; exact Nat.ne_of_lt (Nat.lt_of_lt_of_le (by have := World.block_lt_of_cell? _ _ hw201_0; first | rwa [add_block] at this | exact this) GW202.out)) | (dsimp only; exact Nat.ne_of_lt (Nat.lt_of_lt_of_le (by have := World.block_lt_of_cell? _ _ hw201_0; first | rwa [add_block] at this | exact this) GW202.out))) _).trans (hHeld.2.2.2))))⟩ (fun hHeld => ?_)
    clear hK K
    refine done_ (done_of HT_.out (by kernel_rfl)) ?_
    have hnb34 := NB197_202.out
    have hnc34 := NB202_197.out
    have hcz35_0 : w31.cell? ⟨gb197, 0, none⟩ = some (.int .i64 a1_0) := (blk_cell BK197.out 0).trans rfl
    have hcz35_1 : w31.cell? ⟨gb197, 1, none⟩ = some (.int .i64 a1_1) := (blk_cell BK197.out 1).trans rfl
    have hfz35_0 := blk_frozen BK197.out 0
    have hfz35_1 := blk_frozen BK197.out 1
    have hnb36 := NB202_198.out
    have hnc36 := NB198_202.out
    have hcz37_0 : w31.cell? ⟨gb202, 0, none⟩ = some (.int .i64 0) := (blk_cell BK202.out 0).trans rfl
    have hcz37_1 : w31.cell? ⟨gb202, 1, none⟩ = some (.int .i64 0) := (blk_cell BK202.out 1).trans rfl
    have hfz37_0 := blk_frozen BK202.out 0
    have hfz37_1 := blk_frozen BK202.out 1
    have hcz38_0 : w31.cell? ⟨gb198, 0, none⟩ = some (.int .i64 0) := (blk_cell BK198.out 0).trans rfl
    have hcz38_1 : w31.cell? ⟨gb198, 1, none⟩ = some (.int .i64 0) := (blk_cell BK198.out 1).trans rfl
    have hfz38_0 := blk_frozen BK198.out 0
    have hfz38_1 := blk_frozen BK198.out 1
    try go_wp2
    refine bodyPost_ret (results_ct rfl _ _ gb198 39 #[.int .i64 (rd l0 a1_0), .int .i64 (rd l0 a1_0)] (0, 0) _ rfl (by (with_reducible repeat (first | refine blk_drewN ?_ _ | refine blk_drew ?_ | refine blk_alloc ?_ _)); refine blk_put (cs := #[.int .i64 (rd l0 a1_0), .int .i64 0]) ?_ 1 _ rfl; (with_reducible repeat (first | refine blk_drewN ?_ _ | refine blk_drew ?_ | refine blk_alloc ?_ _)); refine blk_put (cs := #[.int .i64 0, .int .i64 0]) ?_ 0 _ rfl; (with_reducible repeat (first | refine blk_drewN ?_ _ | refine blk_drew ?_ | refine blk_alloc ?_ _)); refine blk_far ?_ NB198_202.out _; (with_reducible repeat (first | refine blk_drewN ?_ _ | refine blk_drew ?_ | refine blk_alloc ?_ _)); refine blk_far ?_ NB198_202.out _; (with_reducible repeat (first | refine blk_drewN ?_ _ | refine blk_drew ?_ | refine blk_alloc ?_ _)); exact BK198.out) Try.underlying39 rfl (by kernel_rfl)) rfl ?_
    exact ⟨by first | rfl | (simp [errW_none, errW_some] <;> rfl) | (simp [*, errW_none, errW_some] <;> rfl), by repeat (first | (with_reducible first | exact HB.out | apply below_alloc | apply pw_below_drewN | apply below_drew1 | refine below_set ?_ GE197.out | refine below_set ?_ GE198.out | refine below_set ?_ GE202.out) | exact HB.out)⟩
  rw [if_pos c7] at H
  have c7b0 : decide (a1_0 < a1_1) = true := decide_eq_true c7
  clear c7
  obtain ⟨ji8, hji8⟩ : ∃ j_ : Int, (wrap64 (a1_1 - 1)) = j_ := ⟨_, rfl⟩
  replace H : (if 0 ≤ (ji8) then (if (ji8) < (l0.length : Int) then (some (rd l0 a1_0, wrap64 ((rd l0 (ji8)) + 1), true)) else (none)) else (none)) = some (r1, r2, r3) := by first | (rw [hji8] at H; exact H) | (simp only [hji8] at H ⊢; exact H)
  (try rw [hji8] at A3)
  have hji8w : (IntKind.i64.wrap (a1_1 - 1)) = ji8 := (i64_w _).trans hji8
  by_cases c9 : 0 ≤ (ji8)
  rotate_left
  · rw [if_neg c9] at H
    exact absurd H (by simp)
  rw [if_pos c9] at H
  have c9b0 : decide (0 ≤ (ji8)) = true := decide_eq_true c9
  clear c9
  by_cases c10 : (ji8) < (l0.length : Int)
  rotate_left
  · rw [if_neg c10] at H
    exact absurd H (by simp)
  rw [if_pos c10] at H
  have c10b0 : decide ((ji8) < (l0.length : Int)) = true := decide_eq_true c10
  clear c10
  simp only [Option.some.injEq, Prod.mk.injEq] at H
  obtain ⟨rfl, rfl, rfl⟩ := H
  go_enter Try.func41, Try.ntmps41
  try go_wp2_with (first | ((with_reducible refine gate_dst (N := 3) rfl ?_); refine box_event ?hg (N := 3) ?hd (cs := #[.int .i64 a1_0, .int .i64 a1_1]) (t := 39) ?hr ?_; (case hd => rfl); (case hg => rfl); (case hr => first | (go_simp; done) | (go_simp; rfl)); intro gb197 hg w11 hbox hb; have n0_ := Aside0.mk (below_step (by repeat (first | (with_reducible first | exact HB.out | apply below_alloc | apply pw_below_drewN | apply below_drew1) | exact HB.out)) hb); have n1_ := Aside0.mk (hbox); have n2_ := Aside0.mk ((by rw [hg]; exact (below_size (by repeat (first | (with_reducible first | exact HB.out | apply below_alloc | apply pw_below_drewN | apply below_drew1) | exact HB.out))) : w.heap.size ≤ gb197)); have n3_ := Aside0.mk ((by rw [hg]; exact (below_size (by repeat (first | (with_reducible first | exact HB.out | apply below_alloc | apply pw_below_drewN | apply below_drew1) | exact HB.out))) : w.heap.size ≤ gb197)); clear HB; have HB := n0_; have BK197 := n1_; have GW197 := n2_; have GE197 := n3_; clear n0_ n1_ n2_ n3_; clear hb hbox hg) | ((with_reducible refine gate_dst (N := 4) rfl ?_); refine box_event ?hg (N := 4) ?hd (cs := #[.int .i64 0, .int .i64 0]) (t := 39) ?hr ?_; (case hd => rfl); (case hg => rfl); (case hr => first | (go_simp; done) | (go_simp; rfl)); intro gb198 hg w12 hbox hb; have n0_ := Aside0.mk (blk_below (g := gb197) (o := .cells #[.int .i64 a1_0, .int .i64 a1_1] 39 (0, 0)) (by (with_reducible repeat (first | refine blk_drewN ?_ _ | refine blk_drew ?_ | refine blk_alloc ?_ _)); exact BK197.out) hb); have n1_ := Aside0.mk (below_step (by repeat (first | (with_reducible first | exact HB.out | apply below_alloc | apply pw_below_drewN | apply below_drew1 | refine below_set ?_ GE197.out) | exact HB.out)) hb); have n2_ := Aside0.mk (hbox); have n3_ := Aside0.mk ((by rw [hg]; exact (below_size (by repeat (first | (with_reducible first | exact HB.out | apply below_alloc | apply pw_below_drewN | apply below_drew1 | refine below_set ?_ GE197.out) | exact HB.out))) : w.heap.size ≤ gb198)); have n4_ := Aside0.mk ((by rw [hg]; exact (below_size (by repeat (first | (with_reducible first | exact HB.out | apply below_alloc | apply pw_below_drewN | apply below_drew1 | refine below_set ?_ GE197.out) | exact HB.out))) : w.heap.size ≤ gb198)); have n5_ := Aside0.mk ((by rw [hg]; exact Nat.ne_of_lt (blk_lt (g := gb197) (o := .cells #[.int .i64 a1_0, .int .i64 a1_1] 39 (0, 0)) (by (with_reducible repeat (first | refine blk_drewN ?_ _ | refine blk_drew ?_ | refine blk_alloc ?_ _)); exact BK197.out)) : gb197 ≠ gb198)); have n6_ := Aside0.mk ((by rw [hg]; exact Nat.ne_of_gt (blk_lt (g := gb197) (o := .cells #[.int .i64 a1_0, .int .i64 a1_1] 39 (0, 0)) (by (with_reducible repeat (first | refine blk_drewN ?_ _ | refine blk_drew ?_ | refine blk_alloc ?_ _)); exact BK197.out)) : gb198 ≠ gb197)); clear BK197; clear HB; have BK197 := n0_; have HB := n1_; have BK198 := n2_; have GW198 := n3_; have GE198 := n4_; have NB197_198 := n5_; have NB198_197 := n6_; clear n0_ n1_ n2_ n3_ n4_ n5_ n6_; clear hb hbox hg; have hnb13 := NB197_198.out; have hnc13 := NB198_197.out; have hcz14_0 : w12.cell? ⟨gb197, 0, none⟩ = some (.int .i64 a1_0) := (blk_cell BK197.out 0).trans rfl; have hcz14_1 : w12.cell? ⟨gb197, 1, none⟩ = some (.int .i64 a1_1) := (blk_cell BK197.out 1).trans rfl; have hfz14_0 := blk_frozen BK197.out 0; have hfz14_1 := blk_frozen BK197.out 1) | ((with_reducible refine gate_callee (f := 61) rfl ?_); refine goesL_ (some 10) rfl rfl Try.func61 (by kernel_rfl) rfl #[.agg #[.int .i64 a1_0, .int .i64 a1_1], .int .i64 (l0.length : Int)] rfl (by (try simp only [List.map_toArray, List.map_cons, List.map_nil]); first | done | rfl | (simp only [List.length_drop, List.length_take]; rfl)) ?_; (with_reducible refine (norm_lies.calls a1_0 a1_1 (l0.length : Int) true _ A3.out).mono ?_); rintro e w15 ⟨rfl, hb⟩; refine ⟨_, rfl, ?_⟩; have n0_ := Aside0.mk (blk_below (g := gb197) (o := .cells #[.int .i64 a1_0, .int .i64 a1_1] 39 (0, 0)) (by (with_reducible repeat (first | refine blk_drewN ?_ _ | refine blk_drew ?_ | refine blk_alloc ?_ _)); exact BK197.out) hb); have n1_ := Aside0.mk (blk_below (g := gb198) (o := .cells #[.int .i64 0, .int .i64 0] 39 (0, 0)) (by (with_reducible repeat (first | refine blk_drewN ?_ _ | refine blk_drew ?_ | refine blk_alloc ?_ _)); exact BK198.out) hb); have n2_ := Aside0.mk (below_step (by repeat (first | (with_reducible first | exact HB.out | apply below_alloc | apply pw_below_drewN | apply below_drew1 | refine below_set ?_ GE197.out | refine below_set ?_ GE198.out) | exact HB.out)) hb); clear BK197; clear BK198; clear HB; have BK197 := n0_; have BK198 := n1_; have HB := n2_; clear n0_ n1_ n2_; (try clear hb); (try clear hb2); (try clear hk); (try clear hi)))
  have n0_ := Aside0.mk (blk_drew BK197.out)
  have n1_ := Aside0.mk (blk_drew BK198.out)
  have n2_ := Aside0.mk (below_drew1 HB.out)
  clear BK197
  clear BK198
  clear HB
  have BK197 := n0_
  have BK198 := n1_
  have HB := n2_
  clear n0_ n1_ n2_
  have p200 : 0 ≤ (a1_0 : Int) := of_decide_eq_true (by first | (with_reducible assumption) | assumption)
  have q200 : a1_0 < (l0.length : Int) := of_decide_eq_true (by first | (with_reducible assumption) | assumption)
  obtain ⟨ad200, e200, hx200_0⟩ := Kd.at_int HR0.out a1_0 p200 q200
  have hw200_0 := hx200_0
  cases e200
  replace hx200_0 := (HB.out.cell (World.block_lt_of_cell? w _ hx200_0)).trans hx200_0
  replace p200 := eq_true p200
  replace q200 := eq_true q200
  have p201 : 0 ≤ (a1_0 : Int) := of_decide_eq_true (by first | (with_reducible assumption) | assumption)
  have q201 : a1_0 < (l0.length : Int) := of_decide_eq_true (by first | (with_reducible assumption) | assumption)
  obtain ⟨ad201, e201, hx201_0⟩ := Kd.at_int HR0.out a1_0 p201 q201
  have hw201_0 := hx201_0
  obtain rfl : ad200 = ad201 := (by injection e201)
  replace hx201_0 := (HB.out.cell (World.block_lt_of_cell? w _ hx201_0)).trans hx201_0
  replace p201 := eq_true p201
  replace q201 := eq_true q201
  refine start_ (n := 13) (S := fun w' => w'.cell? ⟨gb197, 0, none⟩ = some (.int .i64 a1_0) ∧ w'.cell? ⟨gb197, 1, none⟩ = some (.int .i64 a1_1) ∧ w'.cell? (ad200.add (a1_0).toNat) = some (.int .i64 (rd l0 a1_0)) ∧ w'.cell? (ad200.add (a1_0).toNat) = some (.int .i64 (rd l0 a1_0))) (ds := []) #[false, false, false, false, false, false, false, false, false, false, false, false, false] (by kernel_rfl) rfl rfl ⟨(blk_cell BK197.out 0).trans rfl, (blk_cell BK197.out 1).trans rfl, ((HB.out.cell (World.block_lt_of_cell? w _ hw200_0)).trans hw200_0), ((HB.out.cell (World.block_lt_of_cell? w _ hw201_0)).trans hw201_0)⟩ (fun hHeld => ?_); refine with_tabW norm_Back.tab3 norm_Back.bits3 (fun HT_ HW_ => ?_)
  generalize w15.drew = w16 at BK197 BK198 HB hx200_0 hx201_0 hHeld ⊢
  refine pure_ (i := 0) (N := some 13) (v := ?_) (a' := ?_) #[true, false, false, false, false, false, false, false, false, false, false, false, false] rfl rfl (any_of HT_.out (by kernel_rfl)) (fun _ _ _ h => h) (Or.inl ⟨by rfl, ?_⟩) ?_ ?_
  rotate_left
  · intro w'
    go_simp
    with_reducible rfl
  rotate_left
  · simp only [Act.put, List.setIfInBounds_toArray, List.set_cons_zero, List.set_cons_succ, i64_w, i32_w]
    rfl
  refine pure_ (i := 1) (N := some 14) (v := ?_) (a' := ?_) #[true, true, false, false, false, false, false, false, false, false, false, false, false] rfl rfl (any_of HT_.out (by kernel_rfl)) (fun _ _ _ h => h) (Or.inl ⟨by rfl, ?_⟩) ?_ ?_
  rotate_left
  · intro w'
    go_simp
    with_reducible rfl
  rotate_left
  · simp only [Act.put, List.setIfInBounds_toArray, List.set_cons_zero, List.set_cons_succ, i64_w, i32_w]
    rfl
  refine pure_ (i := 5) (N := some 18) (v := ?_) (a' := ?_) #[true, true, false, false, false, true, false, false, false, false, false, false, false] rfl rfl (any_of HT_.out (by kernel_rfl)) (fun _ _ _ h => h) (Or.inl ⟨by rfl, ?_⟩) ?_ ?_
  rotate_left
  · intro w'
    go_simp
    with_reducible rfl
  rotate_left
  · simp only [Act.put, List.setIfInBounds_toArray, List.set_cons_zero, List.set_cons_succ, i64_w, i32_w]
    rfl
  refine pure_ (i := 6) (N := some 19) (v := ?_) (a' := ?_) #[true, true, false, false, false, true, true, false, false, false, false, false, false] rfl rfl (any_of HT_.out (by kernel_rfl)) (fun _ _ _ h => h) (Or.inl ⟨by rfl, ?_⟩) ?_ ?_
  rotate_left
  · intro w'
    go_simp
    with_reducible rfl
  rotate_left
  · simp only [Act.put, List.setIfInBounds_toArray, List.set_cons_zero, List.set_cons_succ, i64_w, i32_w]
    rfl
  refine take_ (i := 2) (N := some 15) (v := ?_) (a' := ?_) #[true, true, true, false, false, true, true, false, false, false, false, false, false] rfl rfl (take_ofW HT_.out HW_.out (by kernel_rfl)) (fun _ _ _ h => h) (Or.inl ⟨by rfl, ?_⟩) hHeld ?_ ?_
  rotate_left
  · rintro w' ⟨s0, s1, s2, s3⟩
    go_simp
    with_reducible rfl
  rotate_left
  · simp only [Act.put, List.setIfInBounds_toArray, List.set_cons_zero, List.set_cons_succ, i64_w, i32_w]
    rfl
  refine pure_ (i := 3) (N := some 16) (v := ?_) (a' := ?_) #[true, true, true, true, false, true, true, false, false, false, false, false, false] rfl rfl (any_of HT_.out (by kernel_rfl)) (fun _ _ _ h => h) (Or.inl ⟨by rfl, ?_⟩) ?_ ?_
  rotate_left
  · intro w'
    go_simp
    with_reducible rfl
  rotate_left
  · simp only [Act.put, List.setIfInBounds_toArray, List.set_cons_zero, List.set_cons_succ, i64_w, i32_w]
    rfl
  refine take_ (i := 4) (N := some 17) (v := ?_) (a' := ?_) #[true, true, true, true, true, true, true, false, false, false, false, false, false] rfl rfl (take_ofW HT_.out HW_.out (by kernel_rfl)) (fun _ _ _ h => h) (Or.inl ⟨by rfl, ?_⟩) hHeld ?_ ?_
  rotate_left
  · rintro w' ⟨s0, s1, s2, s3⟩
    go_simp
    with_reducible rfl
  rotate_left
  · simp only [Act.put, List.setIfInBounds_toArray, List.set_cons_zero, List.set_cons_succ, i64_w, i32_w]
    rfl
  refine take_ (i := 7) (N := some 20) (v := ?_) (a' := ?_) #[true, true, true, true, true, true, true, true, false, false, false, false, false] rfl rfl (take_ofW HT_.out HW_.out (by kernel_rfl)) (fun _ _ _ h => h) (Or.inl ⟨by rfl, ?_⟩) hHeld ?_ ?_
  rotate_left
  · rintro w' ⟨s0, s1, s2, s3⟩
    go_simp
    with_reducible rfl
  rotate_left
  · simp only [Act.put, List.setIfInBounds_toArray, List.set_cons_zero, List.set_cons_succ, i64_w, i32_w]
    rfl
  refine pure_ (i := 8) (N := some 21) (v := ?_) (a' := ?_) #[true, true, true, true, true, true, true, true, true, false, false, false, false] rfl rfl (any_of HT_.out (by kernel_rfl)) (fun _ _ _ h => h) (Or.inl ⟨by rfl, ?_⟩) ?_ ?_
  rotate_left
  · intro w'
    go_simp
    with_reducible rfl
  rotate_left
  · simp only [Act.put, List.setIfInBounds_toArray, List.set_cons_zero, List.set_cons_succ, i64_w, i32_w]
    rfl
  refine take_ (i := 9) (N := some 22) (v := ?_) (a' := ?_) #[true, true, true, true, true, true, true, true, true, true, false, false, false] rfl rfl (take_ofW HT_.out HW_.out (by kernel_rfl)) (fun _ _ _ h => h) (Or.inl ⟨by rfl, ?_⟩) hHeld ?_ ?_
  rotate_left
  · rintro w' ⟨s0, s1, s2, s3⟩
    go_simp
    with_reducible rfl
  rotate_left
  · simp only [Act.put, List.setIfInBounds_toArray, List.set_cons_zero, List.set_cons_succ, i64_w, i32_w]
    rfl
  refine pure_ (i := 10) (N := some 23) (v := ?_) (a' := ?_) #[true, true, true, true, true, true, true, true, true, true, true, false, false] rfl rfl (any_of HT_.out (by kernel_rfl)) (fun _ _ _ h => h) (Or.inl ⟨by rfl, ?_⟩) ?_ ?_
  rotate_left
  · intro w'
    go_simp
    with_reducible rfl
  rotate_left
  · simp only [Act.put, List.setIfInBounds_toArray, List.set_cons_zero, List.set_cons_succ, i64_w, i32_w]
    rfl
  refine one_ (i := 11) (N := some 6) #[true, true, true, true, true, true, true, true, true, true, true, true, false] rfl rfl (one_of HT_.out (by kernel_rfl)) (by decide) (fun K hK => ?_)
  refine box_step ?hg (N := 6) ?hd (cs := #[.int .i64 0, .int .i64 0]) (t := 39) ?hr ?_; (case hd => rfl); (case hg => rfl); (case hr => first | (go_simp; done) | (go_simp; rfl))
  intro gb202 hg w17 hbox hb
  have n0_ := Aside0.mk (blk_below (g := gb197) (o := .cells #[.int .i64 a1_0, .int .i64 a1_1] 39 (0, 0)) (by (with_reducible repeat (first | refine blk_drewN ?_ _ | refine blk_drew ?_ | refine blk_alloc ?_ _)); exact BK197.out) hb)
  have n1_ := Aside0.mk (blk_below (g := gb198) (o := .cells #[.int .i64 0, .int .i64 0] 39 (0, 0)) (by (with_reducible repeat (first | refine blk_drewN ?_ _ | refine blk_drew ?_ | refine blk_alloc ?_ _)); exact BK198.out) hb)
  have n2_ := Aside0.mk (below_step (by repeat (first | (with_reducible first | exact HB.out | apply below_alloc | apply pw_below_drewN | apply below_drew1 | refine below_set ?_ GE197.out | refine below_set ?_ GE198.out) | exact HB.out)) hb)
  have n3_ := Aside0.mk (hbox)
  have n4_ := Aside0.mk ((by rw [hg]; exact (below_size (by repeat (first | (with_reducible first | exact HB.out | apply below_alloc | apply pw_below_drewN | apply below_drew1 | refine below_set ?_ GE197.out | refine below_set ?_ GE198.out) | exact HB.out))) : w.heap.size ≤ gb202))
  have n5_ := Aside0.mk ((by rw [hg]; exact (below_size (by repeat (first | (with_reducible first | exact HB.out | apply below_alloc | apply pw_below_drewN | apply below_drew1 | refine below_set ?_ GE197.out | refine below_set ?_ GE198.out) | exact HB.out))) : w.heap.size ≤ gb202))
  have n6_ := Aside0.mk ((by rw [hg]; exact Nat.ne_of_lt (blk_lt (g := gb197) (o := .cells #[.int .i64 a1_0, .int .i64 a1_1] 39 (0, 0)) (by (with_reducible repeat (first | refine blk_drewN ?_ _ | refine blk_drew ?_ | refine blk_alloc ?_ _)); exact BK197.out)) : gb197 ≠ gb202))
  have n7_ := Aside0.mk ((by rw [hg]; exact Nat.ne_of_gt (blk_lt (g := gb197) (o := .cells #[.int .i64 a1_0, .int .i64 a1_1] 39 (0, 0)) (by (with_reducible repeat (first | refine blk_drewN ?_ _ | refine blk_drew ?_ | refine blk_alloc ?_ _)); exact BK197.out)) : gb202 ≠ gb197))
  have n8_ := Aside0.mk ((by rw [hg]; exact Nat.ne_of_lt (blk_lt (g := gb198) (o := .cells #[.int .i64 0, .int .i64 0] 39 (0, 0)) (by (with_reducible repeat (first | refine blk_drewN ?_ _ | refine blk_drew ?_ | refine blk_alloc ?_ _)); exact BK198.out)) : gb198 ≠ gb202))
  have n9_ := Aside0.mk ((by rw [hg]; exact Nat.ne_of_gt (blk_lt (g := gb198) (o := .cells #[.int .i64 0, .int .i64 0] 39 (0, 0)) (by (with_reducible repeat (first | refine blk_drewN ?_ _ | refine blk_drew ?_ | refine blk_alloc ?_ _)); exact BK198.out)) : gb202 ≠ gb198))
  clear BK197
  clear BK198
  clear HB
  have BK197 := n0_
  have BK198 := n1_
  have HB := n2_
  have BK202 := n3_
  have GW202 := n4_
  have GE202 := n5_
  have NB197_202 := n6_
  have NB202_197 := n7_
  have NB198_202 := n8_
  have NB202_198 := n9_
  clear n0_ n1_ n2_ n3_ n4_ n5_ n6_ n7_ n8_ n9_
  clear hb hbox hg
  refine hK.out _ _ ⟨(blk_cell BK197.out 0).trans rfl, (blk_cell BK197.out 1).trans rfl, ((HB.out.cell (World.block_lt_of_cell? w _ hw200_0)).trans hw200_0), ((HB.out.cell (World.block_lt_of_cell? w _ hw201_0)).trans hw201_0)⟩ (fun hHeld => ?_)
  clear hK K
  refine norm_ (a' := ?_) ?_ ?_
  rotate_left
  · show Act.put _ (some 6) _ = _
    simp only [Act.put, List.setIfInBounds_toArray, List.set_cons_zero, List.set_cons_succ, i64_w, i32_w]
    rfl
  refine one_ (i := 12) (N := none) #[true, true, true, true, true, true, true, true, true, true, true, true, true] rfl rfl (one_of HT_.out (by kernel_rfl)) (by decide) (fun K hK => ?_)
  have hs18 : w17.cell? ⟨gb202, 0, none⟩ = some (.int .i64 0) := (blk_cell BK202.out 0).trans rfl
  have hfs18 := blk_frozen BK202.out 0
  have hns18_0 := NB197_202.out
  have hns18_1 := NB198_202.out
  have hms18_0 := NB202_197.out
  have hms18_1 := NB202_198.out
  have hs19 : w17.cell? ⟨gb202, 1, none⟩ = some (.int .i64 0) := (blk_cell BK202.out 1).trans rfl
  have hfs19 := blk_frozen BK202.out 1
  have hns19_0 := NB197_202.out
  have hns19_1 := NB198_202.out
  have hms19_0 := NB202_197.out
  have hms19_1 := NB202_198.out
  refine skip_ (w1 := ?_) (by rfl) rfl ?_ ?_
  rotate_left
  · go_simp
    rfl
  refine hK.out _ _ ⟨((cell_far (p := ⟨gb202, _, none⟩) NB197_202.out _).trans (((cell_far (p := ⟨gb202, _, none⟩) NB197_202.out _).trans (hHeld.1)))), ((cell_far (p := ⟨gb202, _, none⟩) NB197_202.out _).trans (((cell_far (p := ⟨gb202, _, none⟩) NB197_202.out _).trans (hHeld.2.1)))), ((cell_far (p := ⟨gb202, _, none⟩) (by first | exact Nat.ne_of_lt (Nat.lt_of_lt_of_le (by have := World.block_lt_of_cell? _ _ hw200_0; first | rwa [add_block] at this | exact this) GW202.out) | (rw [add_block]; exact Nat.ne_of_lt (Nat.lt_of_lt_of_le (by have := World.block_lt_of_cell? _ _ hw200_0; first | rwa [add_block] at this | exact this) GW202.out)) | (show (Addr.add _ _).block ≠ _; rw [add_block]; exact Nat.ne_of_lt (Nat.lt_of_lt_of_le (by have := World.block_lt_of_cell? _ _ hw200_0; first | rwa [add_block] at this | exact this) GW202.out)) | (dsimp only; exact Nat.ne_of_lt (Nat.lt_of_lt_of_le (by have := World.block_lt_of_cell? _ _ hw200_0; first | rwa [add_block] at this | exact this) GW202.out))) _).trans (((cell_far (p := ⟨gb202, _, none⟩) (by first | exact Nat.ne_of_lt (Nat.lt_of_lt_of_le (by have := World.block_lt_of_cell? _ _ hw200_0; first | rwa [add_block] at this | exact this) GW202.out) | (rw [add_block]; exact Nat.ne_of_lt (Nat.lt_of_lt_of_le (by have := World.block_lt_of_cell? _ _ hw200_0; first | rwa [add_block] at this | exact this) GW202.out)) | (show (Addr.add _ _).block ≠ _; rw [add_block]; exact Nat.ne_of_lt (Nat.lt_of_lt_of_le (by have := World.block_lt_of_cell? _ _ hw200_0; first | rwa [add_block] at this | exact this) GW202.out)) | (dsimp only; exact Nat.ne_of_lt (Nat.lt_of_lt_of_le (by have := World.block_lt_of_cell? _ _ hw200_0; first | rwa [add_block] at this | exact this) GW202.out))) _).trans (hHeld.2.2.1)))), ((cell_far (p := ⟨gb202, _, none⟩) (by first | exact Nat.ne_of_lt (Nat.lt_of_lt_of_le (by have := World.block_lt_of_cell? _ _ hw201_0; first | rwa [add_block] at this | exact this) GW202.out) | (rw [add_block]; exact Nat.ne_of_lt (Nat.lt_of_lt_of_le (by have := World.block_lt_of_cell? _ _ hw201_0; first | rwa [add_block] at this | exact this) GW202.out)) | (show (Addr.add _ _).block ≠ _; rw [add_block]; exact Nat.ne_of_lt (Nat.lt_of_lt_of_le (by have := World.block_lt_of_cell? _ _ hw201_0; first | rwa [add_block] at this | exact this) GW202.out)) | (dsimp only; exact Nat.ne_of_lt (Nat.lt_of_lt_of_le (by have := World.block_lt_of_cell? _ _ hw201_0; first | rwa [add_block] at this | exact this) GW202.out))) _).trans (((cell_far (p := ⟨gb202, _, none⟩) (by first | exact Nat.ne_of_lt (Nat.lt_of_lt_of_le (by have := World.block_lt_of_cell? _ _ hw201_0; first | rwa [add_block] at this | exact this) GW202.out) | (rw [add_block]; exact Nat.ne_of_lt (Nat.lt_of_lt_of_le (by have := World.block_lt_of_cell? _ _ hw201_0; first | rwa [add_block] at this | exact this) GW202.out)) | (show (Addr.add _ _).block ≠ _; rw [add_block]; exact Nat.ne_of_lt (Nat.lt_of_lt_of_le (by have := World.block_lt_of_cell? _ _ hw201_0; first | rwa [add_block] at this | exact this) GW202.out)) | (dsimp only; exact Nat.ne_of_lt (Nat.lt_of_lt_of_le (by have := World.block_lt_of_cell? _ _ hw201_0; first | rwa [add_block] at this | exact this) GW202.out))) _).trans (hHeld.2.2.2))))⟩ (fun hHeld => ?_)
  clear hK K
  refine done_ (done_of HT_.out (by kernel_rfl)) ?_
  have hnb20 := NB197_202.out
  have hnc20 := NB202_197.out
  have hcz21_0 : w17.cell? ⟨gb197, 0, none⟩ = some (.int .i64 a1_0) := (blk_cell BK197.out 0).trans rfl
  have hcz21_1 : w17.cell? ⟨gb197, 1, none⟩ = some (.int .i64 a1_1) := (blk_cell BK197.out 1).trans rfl
  have hfz21_0 := blk_frozen BK197.out 0
  have hfz21_1 := blk_frozen BK197.out 1
  have p203 : 0 ≤ ((ji8) : Int) := of_decide_eq_true (by first | (with_reducible assumption) | assumption)
  have q203 : (ji8) < (l0.length : Int) := of_decide_eq_true (by first | (with_reducible assumption) | assumption)
  obtain ⟨ad203, e203, hx203_0⟩ := Kd.at_int HR0.out (ji8) p203 q203
  obtain rfl : ad200 = ad203 := (by injection e203)
  have hn203_0 : ad200.block ≠ gb202 := Nat.ne_of_lt (Nat.lt_of_lt_of_le (by have := World.block_lt_of_cell? _ _ hx203_0; first | rwa [add_block] at this | exact this) GW202.out)
  have hn203_1 : ad200.block ≠ gb202 := Nat.ne_of_lt (Nat.lt_of_lt_of_le (by have := World.block_lt_of_cell? _ _ hx203_0; first | rwa [add_block] at this | exact this) GW202.out)
  replace hx203_0 := (HB.out.cell (World.block_lt_of_cell? w _ hx203_0)).trans hx203_0
  replace hx203_0 := (cell_far (p := ⟨gb202, 0, none⟩) (by first | (rw [add_block]; exact hn203_0) | (show (Addr.add _ _).block ≠ _; rw [add_block]; exact hn203_0) | exact hn203_0) (.int .i64 (rd l0 a1_0))).trans hx203_0
  replace hx203_0 := (cell_far (p := ⟨gb202, 1, none⟩) (by first | (rw [add_block]; exact hn203_1) | (show (Addr.add _ _).block ≠ _; rw [add_block]; exact hn203_1) | exact hn203_1) (.int .i64 (rd l0 a1_0))).trans hx203_0
  clear hn203_0
  clear hn203_1
  replace p203 := eq_true p203
  replace q203 := eq_true q203
  have hnb22 := NB202_198.out
  have hnc22 := NB198_202.out
  have hcz23_0 : w17.cell? ⟨gb202, 0, none⟩ = some (.int .i64 0) := (blk_cell BK202.out 0).trans rfl
  have hcz23_1 : w17.cell? ⟨gb202, 1, none⟩ = some (.int .i64 0) := (blk_cell BK202.out 1).trans rfl
  have hfz23_0 := blk_frozen BK202.out 0
  have hfz23_1 := blk_frozen BK202.out 1
  have hcz24_0 : w17.cell? ⟨gb198, 0, none⟩ = some (.int .i64 0) := (blk_cell BK198.out 0).trans rfl
  have hcz24_1 : w17.cell? ⟨gb198, 1, none⟩ = some (.int .i64 0) := (blk_cell BK198.out 1).trans rfl
  have hfz24_0 := blk_frozen BK198.out 0
  have hfz24_1 := blk_frozen BK198.out 1
  have hq1 := World.cell?_setCell_same (w17.setCell ⟨gb202, 0, none⟩ (.int .i64 (rd l0 a1_0))) ⟨gb202, 1, none⟩ (.int .i64 (rd l0 a1_0)) ((World.cell?_setCell_other w17 ⟨gb202, 0, none⟩ ⟨gb202, 1, none⟩ (.int .i64 (rd l0 a1_0)) (by simp)).trans ((blk_cell BK202.out 1).trans rfl : w17.cell? ⟨gb202, 1, none⟩ = some (.int .i64 0)))
  have hq2 := World.cell?_setCell_same ((w17.setCell ⟨gb202, 0, none⟩ (.int .i64 (rd l0 a1_0))).setCell ⟨gb202, 1, none⟩ (.int .i64 (rd l0 a1_0))) ⟨gb202, 1, none⟩ (.int .i64 (wrap64 ((rd l0 (ji8)) + 1))) hq1
  go_wp2
  refine bodyPost_ret (results_ct rfl _ _ gb198 39 #[.int .i64 (rd l0 a1_0), .int .i64 (wrap64 ((rd l0 (ji8)) + 1))] (0, 0) _ rfl (by (with_reducible repeat (first | refine blk_drewN ?_ _ | refine blk_drew ?_ | refine blk_alloc ?_ _)); refine blk_put (cs := #[.int .i64 (rd l0 a1_0), .int .i64 0]) ?_ 1 _ rfl; (with_reducible repeat (first | refine blk_drewN ?_ _ | refine blk_drew ?_ | refine blk_alloc ?_ _)); refine blk_put (cs := #[.int .i64 0, .int .i64 0]) ?_ 0 _ rfl; (with_reducible repeat (first | refine blk_drewN ?_ _ | refine blk_drew ?_ | refine blk_alloc ?_ _)); refine blk_far ?_ NB198_202.out _; (with_reducible repeat (first | refine blk_drewN ?_ _ | refine blk_drew ?_ | refine blk_alloc ?_ _)); refine blk_far ?_ NB198_202.out _; (with_reducible repeat (first | refine blk_drewN ?_ _ | refine blk_drew ?_ | refine blk_alloc ?_ _)); refine blk_far ?_ NB198_202.out _; (with_reducible repeat (first | refine blk_drewN ?_ _ | refine blk_drew ?_ | refine blk_alloc ?_ _)); exact BK198.out) Try.underlying39 rfl (by kernel_rfl)) rfl ?_
  exact ⟨by first | rfl | (simp [errW_none, errW_some] <;> rfl) | (simp only [← hji8]; first | rfl | (simp [errW_none, errW_some] <;> rfl)) | (simp [*, errW_none, errW_some] <;> rfl), by repeat (first | (with_reducible first | exact HB.out | apply below_alloc | apply pw_below_drewN | apply below_drew1 | refine below_set ?_ GE197.out | refine below_set ?_ GE198.out | refine below_set ?_ GE202.out) | exact HB.out)⟩

-- NOT PRINTED: function 62 (slices_Grow_int)

-- NOT PRINTED: function 42 (slices_Concat_int)

def balance_closer.j0 : Nat → Int → Bool → Option (Int)
  | 0, _, _ => none
  | k + 1, x3, x4 => if x4 = true then (some 18) else (if x3 = 19 then (some 22) else (if x3 = 20 then (some 22) else (if x3 = 21 then (some 22) else (some (-1)))))
def balance_closer.f (k : Nat) (a0 : Int) : Option (Int) := if a0 = 14 then (balance_closer.j0 k a0 (a0 == 14)) else (if a0 = 16 then (balance_closer.j0 k a0 (a0 == 16)) else (if a0 = 15 then (balance_closer.j0 k a0 (a0 == 15)) else (balance_closer.j0 k a0 (a0 == 17))))
theorem balance_closer.mono_l : ∀ k, (∀ y0 y1, LeO (balance_closer.j0 k y0 y1) (balance_closer.j0 (k + 1) y0 y1))
  | 0 => fun _ _ r h => by simp [balance_closer.j0] at h
  | k + 1 => by
    have ih0 := balance_closer.mono_l k
    · intro y0 y1
      unfold balance_closer.j0
      repeat' first
      | (with_reducible exact ih0 _ _)
      | (with_reducible exact LeO.refl _)
      | (with_reducible exact LeO.none _)
      | (with_reducible refine LeO.ite ?_ ?_)
      | (with_reducible refine LeO.bind ?_ (fun _ => ?_))
      | exact ih0 _ _
      | exact LeO.none _
      | refine LeO.ite ?_ ?_
      | refine LeO.bind ?_ (fun _ => ?_)
theorem balance_closer.mono : ∀ a0 k, LeO (balance_closer.f k a0) (balance_closer.f (k + 1) a0) := by
  intro a0 k
  have ih0 := balance_closer.mono_l k
  unfold balance_closer.f
  repeat' first
      | (with_reducible exact ih0 _ _)
      | (with_reducible exact LeO.refl _)
      | (with_reducible exact LeO.none _)
      | (with_reducible refine LeO.ite ?_ ?_)
      | (with_reducible refine LeO.bind ?_ (fun _ => ?_))
      | exact ih0 _ _
      | exact LeO.none _
      | refine LeO.ite ?_ ?_
      | refine LeO.bind ?_ (fun _ => ?_)
set_option maxHeartbeats 8000000 in
set_option maxRecDepth 100000 in
theorem balance_closer.calls (k : Nat) (a0 : Int) (r : Int) (w : World) (h : balance_closer.f k a0 = some r) :
    Calls Try.prog 64 #[.int .i64 a0] w fun e w' => e = .returned (.int .i64 r) ∧ Drawn0 w w' := by
  have H : (if a0 = 14 then (balance_closer.j0 k a0 (a0 == 14)) else (if a0 = 16 then (balance_closer.j0 k a0 (a0 == 16)) else (if a0 = 15 then (balance_closer.j0 k a0 (a0 == 15)) else (balance_closer.j0 k a0 (a0 == 17))))) = some r := h
  clear h
  have HC2 := Aside0.mk H
  clear H
  go_enter Try.func64, Try.ntmps64
  go_upto_if 4 with (fail)
  go_cut [4] (fun v4 wc => ∃ (kq : Nat) (x4_1 : Bool), v4 = .bool x4_1 ∧ Aside0 (balance_closer.j0 kq a0 x4_1 = some r) ∧ Aside0 (kq ≤ k) ∧ Drawn0 w wc)
  case first =>
    have H := HC2.out
    clear HC2
    by_cases c3 : a0 = 14
    · rw [if_pos c3] at H
      have c3b0 : (a0 == 14) = true := beq_iff_eq.mpr c3
      have c3b1 : (a0 != 14) = false := bne_eq_false_iff_eq.mpr c3
      clear c3
      (first | rw [c3b0] | (simp only [i64_w, i32_w]; rw [c3b0]) | skip)
      have H' := Aside0.mk H
      clear H
      go_wp2
      go_meet
      case rel => exact ⟨_, ((a0 == 14)), (by first | rfl | (simp; done) | (simp [*]; done)), H', ⟨by first | omega | exact Nat.le_refl _⟩, by repeat (first | exact Drawn0.refl _ | apply Drawn0.step)⟩
    rw [if_neg c3] at H
    have c3b0 : (a0 == 14) = false := beq_eq_false_iff_ne.mpr c3
    have c3b1 : (a0 != 14) = true := bne_iff_ne.mpr c3
    (first | rw [c3b0] | (simp only [i64_w, i32_w]; rw [c3b0]) | skip)
    by_cases c4 : a0 = 16
    · rw [if_pos c4] at H
      have c4b0 : (a0 == 16) = true := beq_iff_eq.mpr c4
      have c4b1 : (a0 != 16) = false := bne_eq_false_iff_eq.mpr c4
      clear c4
      have H' := Aside0.mk H
      clear H
      go_wp2
      go_meet
      case rel => exact ⟨_, ((a0 == 16)), (by first | rfl | (simp; done) | (simp [*]; done)), H', ⟨by first | omega | exact Nat.le_refl _⟩, by repeat (first | exact Drawn0.refl _ | apply Drawn0.step)⟩
    rw [if_neg c4] at H
    have c4b0 : (a0 == 16) = false := beq_eq_false_iff_ne.mpr c4
    have c4b1 : (a0 != 16) = true := bne_iff_ne.mpr c4
    by_cases c5 : a0 = 15
    rotate_left
    · rw [if_neg c5] at H
      have c5b0 : (a0 == 15) = false := beq_eq_false_iff_ne.mpr c5
      have c5b1 : (a0 != 15) = true := bne_iff_ne.mpr c5
      have H' := Aside0.mk H
      clear H
      go_wp2
      go_meet
      case rel => exact ⟨_, ((a0 == 17)), (by first | rfl | (simp; done) | (simp [*]; done)), H', ⟨by first | omega | exact Nat.le_refl _⟩, by repeat (first | exact Drawn0.refl _ | apply Drawn0.step)⟩
    rw [if_pos c5] at H
    have c5b0 : (a0 == 15) = true := beq_iff_eq.mpr c5
    have c5b1 : (a0 != 15) = false := bne_eq_false_iff_eq.mpr c5
    clear c5
    have H' := Aside0.mk H
    clear H
    go_wp2
    go_meet
    case rel => exact ⟨_, ((a0 == 15)), (by first | rfl | (simp; done) | (simp [*]; done)), H', ⟨by first | omega | exact Nat.le_refl _⟩, by repeat (first | exact Drawn0.refl _ | apply Drawn0.step)⟩
  case rest =>
    clear HC2
    try clear p2
    try clear c3
    try clear c3b0
    try clear c3b1
    try clear c4
    try clear c4b0
    try clear c4b1
    try clear c5
    try clear c5b0
    try clear c5b1
    obtain ⟨kq, x4_1, rfl, HA, HJ1, ⟨mc1, rfl⟩⟩ := hcut
    cases kq with
    | zero => exact absurd HA.out (by simp [balance_closer.j0])
    | succ kj1 =>
      have H := HA.out
      clear HA
      simp only [balance_closer.j0] at H
      by_cases c6 : x4_1 = true
      · subst c6
        have H1 : (some 18) = some r := by rw [if_pos rfl] at H; exact H
        clear H
        have H := H1
        clear H1
        obtain rfl := Option.some.inj H
        go_wp2
        go_ret
        exact ⟨by first | rfl | (simp; done) | (simp [*]; done), by repeat (first | exact Drawn0.refl _ | apply Drawn0.step)⟩
      replace c6 := Bool.eq_false_iff.mpr c6
      subst c6
      have H1 : (if a0 = 19 then (some 22) else (if a0 = 20 then (some 22) else (if a0 = 21 then (some 22) else (some (-1))))) = some r := by rw [if_neg (show ¬ (false = true) by decide)] at H; exact H
      clear H
      have H := H1
      clear H1
      by_cases c7 : a0 = 19
      · rw [if_pos c7] at H
        have c7b0 : (a0 == 19) = true := beq_iff_eq.mpr c7
        have c7b1 : (a0 != 19) = false := bne_eq_false_iff_eq.mpr c7
        clear c7
        obtain rfl := Option.some.inj H
        go_wp2
        go_ret
        exact ⟨by first | rfl | (simp; done) | (simp [*]; done), by repeat (first | exact Drawn0.refl _ | apply Drawn0.step)⟩
      rw [if_neg c7] at H
      have c7b0 : (a0 == 19) = false := beq_eq_false_iff_ne.mpr c7
      have c7b1 : (a0 != 19) = true := bne_iff_ne.mpr c7
      by_cases c8 : a0 = 20
      · rw [if_pos c8] at H
        have c8b0 : (a0 == 20) = true := beq_iff_eq.mpr c8
        have c8b1 : (a0 != 20) = false := bne_eq_false_iff_eq.mpr c8
        clear c8
        obtain rfl := Option.some.inj H
        go_wp2
        go_ret
        exact ⟨by first | rfl | (simp; done) | (simp [*]; done), by repeat (first | exact Drawn0.refl _ | apply Drawn0.step)⟩
      rw [if_neg c8] at H
      have c8b0 : (a0 == 20) = false := beq_eq_false_iff_ne.mpr c8
      have c8b1 : (a0 != 20) = true := bne_iff_ne.mpr c8
      by_cases c9 : a0 = 21
      rotate_left
      · rw [if_neg c9] at H
        have c9b0 : (a0 == 21) = false := beq_eq_false_iff_ne.mpr c9
        have c9b1 : (a0 != 21) = true := bne_iff_ne.mpr c9
        obtain rfl := Option.some.inj H
        go_wp2
        go_ret
        exact ⟨by first | rfl | (simp; done) | (simp [*]; done), by repeat (first | exact Drawn0.refl _ | apply Drawn0.step)⟩
      rw [if_pos c9] at H
      have c9b0 : (a0 == 21) = true := beq_iff_eq.mpr c9
      have c9b1 : (a0 != 21) = false := bne_eq_false_iff_eq.mpr c9
      clear c9
      obtain rfl := Option.some.inj H
      go_wp2
      go_ret
      exact ⟨by first | rfl | (simp; done) | (simp [*]; done), by repeat (first | exact Drawn0.refl _ | apply Drawn0.step)⟩

def balance_closes.f (a0 : Int) : Option (Bool) := if a0 = 18 then (some true) else (some (a0 == 22))
set_option maxHeartbeats 8000000 in
set_option maxRecDepth 100000 in
theorem balance_closes.calls (a0 : Int) (r : Bool) (w : World) (h : balance_closes.f a0 = some r) :
    Calls Try.prog 65 #[.int .i64 a0] w fun e w' => e = .returned (.bool r) ∧ Drawn0 w w' := by
  have H : (if a0 = 18 then (some true) else (some (a0 == 22))) = some r := h
  clear h
  by_cases c2 : a0 = 18
  rotate_left
  · rw [if_neg c2] at H
    have c2b0 : (a0 == 18) = false := beq_eq_false_iff_ne.mpr c2
    have c2b1 : (a0 != 18) = true := bne_iff_ne.mpr c2
    obtain rfl := Option.some.inj H
    go_enter Try.func65, Try.ntmps65
    go_wp2
    go_ret
    exact ⟨by first | rfl | (simp; done) | (simp [*]; done), by repeat (first | exact Drawn0.refl _ | apply Drawn0.step)⟩
  rw [if_pos c2] at H
  have c2b0 : (a0 == 18) = true := beq_iff_eq.mpr c2
  have c2b1 : (a0 != 18) = false := bne_eq_false_iff_eq.mpr c2
  clear c2
  obtain rfl := Option.some.inj H
  go_enter Try.func65, Try.ntmps65
  go_wp2
  go_ret
  exact ⟨by first | rfl | (simp; done) | (simp [*]; done), by repeat (first | exact Drawn0.refl _ | apply Drawn0.step)⟩

def balance_Controls_1.f (k : Nat) (a0 : Int) : Option (Bool) := (class_Of.f k a0).bind fun t205 => ((balance_closer.f k t205).bind fun t206 => (if t206 = (-1) then ((balance_closes.f t205).bind fun t207 => (some (!t207))) else (some false)))
set_option maxHeartbeats 8000000 in
set_option maxRecDepth 100000 in
theorem balance_Controls_1.calls (k : Nat) (a0 : Int) (r : Bool) (w : World) (h : balance_Controls_1.f k a0 = some r) :
    Calls Try.prog 63 #[.int .i64 a0] w fun e w' => e = .returned (.bool r) ∧ Below w.heap.size w w' := by
  have HB := Aside0.mk (Below.refl w.heap.size w)
  have H : ((class_Of.f k a0).bind fun t205 => ((balance_closer.f k t205).bind fun t206 => (if t206 = (-1) then ((balance_closes.f t205).bind fun t207 => (some (!t207))) else (some false)))) = some r := h
  clear h
  replace H := Option.bind_eq_some_iff.mp H
  obtain ⟨t205, A20, H⟩ := H
  replace H : ((balance_closer.f k t205).bind fun t206 => (if t206 = (-1) then ((balance_closes.f t205).bind fun t207 => (some (!t207))) else (some false))) = some r := H
  have A2 := Aside0.mk A20
  clear A20
  replace H := Option.bind_eq_some_iff.mp H
  obtain ⟨t206, A30, H⟩ := H
  replace H : (if t206 = (-1) then ((balance_closes.f t205).bind fun t207 => (some (!t207))) else (some false)) = some r := H
  have A3 := Aside0.mk A30
  clear A30
  by_cases c4 : t206 = (-1)
  rotate_left
  · rw [if_neg c4] at H
    have c4b0 : (t206 == (-1)) = false := beq_eq_false_iff_ne.mpr c4
    have c4b1 : (t206 != (-1)) = true := bne_iff_ne.mpr c4
    obtain rfl := Option.some.inj H
    go_enter Try.func63, Try.ntmps63
    go_wp2_with (first | ((with_reducible refine gate_callee (f := 50) rfl ?_); refine goesL_ (some 5) rfl rfl Try.func50 (by kernel_rfl) rfl #[.int .i64 a0] rfl (by (try simp only [List.map_toArray, List.map_cons, List.map_nil]); first | done | rfl | (simp only [List.length_drop, List.length_take]; rfl)) ?_; (with_reducible refine (class_Of.calls k a0 t205 _ A2.out).mono ?_); rintro e w7 ⟨rfl, hb⟩; refine ⟨_, rfl, ?_⟩; have n0_ := Aside0.mk (below_step (by repeat (first | (with_reducible first | exact HB.out | apply below_alloc | apply pw_below_drewN | apply below_drew1) | exact HB.out)) hb); clear HB; have HB := n0_; clear n0_; (try clear hb); (try clear hb2); (try clear hk); (try clear hi)) | ((with_reducible refine gate_callee (f := 64) rfl ?_); refine goesL_ (some 7) rfl rfl Try.func64 (by kernel_rfl) rfl #[.int .i64 t205] rfl (by (try simp only [List.map_toArray, List.map_cons, List.map_nil]); first | done | rfl | (simp only [List.length_drop, List.length_take]; rfl)) ?_; (with_reducible refine (balance_closer.calls k t205 t206 _ A3.out).mono ?_); rintro e w' ⟨rfl, ⟨nd, rfl⟩⟩; refine ⟨_, rfl, ?_⟩))
    go_ret
    exact ⟨by first | rfl | (simp [errW_none, errW_some] <;> rfl) | (simp [*, errW_none, errW_some] <;> rfl), by repeat (first | (with_reducible first | exact HB.out | apply below_alloc | apply pw_below_drewN | apply below_drew1) | exact HB.out)⟩
  rw [if_pos c4] at H
  have c4b0 : (t206 == (-1)) = true := beq_iff_eq.mpr c4
  have c4b1 : (t206 != (-1)) = false := bne_eq_false_iff_eq.mpr c4
  clear c4
  replace H := Option.bind_eq_some_iff.mp H
  obtain ⟨t207, A50, H⟩ := H
  replace H : (some (!t207)) = some r := H
  have A5 := Aside0.mk A50
  clear A50
  obtain rfl := Option.some.inj H
  go_enter Try.func63, Try.ntmps63
  go_wp2_with (first | ((with_reducible refine gate_callee (f := 50) rfl ?_); refine goesL_ (some 5) rfl rfl Try.func50 (by kernel_rfl) rfl #[.int .i64 a0] rfl (by (try simp only [List.map_toArray, List.map_cons, List.map_nil]); first | done | rfl | (simp only [List.length_drop, List.length_take]; rfl)) ?_; (with_reducible refine (class_Of.calls k a0 t205 _ A2.out).mono ?_); rintro e w6 ⟨rfl, hb⟩; refine ⟨_, rfl, ?_⟩; have n0_ := Aside0.mk (below_step (by repeat (first | (with_reducible first | exact HB.out | apply below_alloc | apply pw_below_drewN | apply below_drew1) | exact HB.out)) hb); clear HB; have HB := n0_; clear n0_; (try clear hb); (try clear hb2); (try clear hk); (try clear hi)) | ((with_reducible refine gate_callee (f := 64) rfl ?_); refine goesL_ (some 7) rfl rfl Try.func64 (by kernel_rfl) rfl #[.int .i64 t205] rfl (by (try simp only [List.map_toArray, List.map_cons, List.map_nil]); first | done | rfl | (simp only [List.length_drop, List.length_take]; rfl)) ?_; (with_reducible refine (balance_closer.calls k t205 t206 _ A3.out).mono ?_); rintro e w' ⟨rfl, ⟨nd, rfl⟩⟩; refine ⟨_, rfl, ?_⟩) | (go_at_call 65; (with_reducible refine (balance_closes.calls t205 t207 _ A5.out).mono ?_); rintro e w' ⟨rfl, ⟨nd, rfl⟩⟩))
  go_ret
  exact ⟨by first | rfl | (simp [errW_none, errW_some] <;> rfl) | (simp [*, errW_none, errW_some] <;> rfl), by repeat (first | (with_reducible first | exact HB.out | apply below_alloc | apply pw_below_drewN | apply below_drew1) | exact HB.out)⟩

end Go.Proofs.Ythgmkbghdobmlaa.P
namespace Go.Proofs.Ythgmkbghdobmlaa.P
open Go.RowKit Go.Proofs.YthgmkbghdobmlaaW.PrintWords Go.Proofs.YthgmkbghdobmlaaW.PrintLast Go.Proofs.YthgmkbghdobmlaaW.PrintMore
set_option linter.unusedVariables false
set_option linter.unusedSimpArgs false

/-- The class that closes what a class opens; -1: it opens nothing. -/
def closerK (k : Int) : Int := if k = 14 ∨ k = 15 ∨ k = 16 ∨ k = 17 then 18 else if k = 19 ∨ k = 20 ∨ k = 21 then 22 else -1
theorem closer_eq0 (k : Int) : balance_closer.f 1 k = some (closerK k) := by
  unfold balance_closer.f closerK
  simp only [balance_closer.j0]
  by_cases h1 : k = 14
  · simp [h1]
  · by_cases h2 : k = 16
    · simp [h2]
    · by_cases h3 : k = 15
      · simp [h3]
      · by_cases h4 : k = 17
        · simp [h4]
        · by_cases h5 : k = 19
          · simp [h5]
          · by_cases h6 : k = 20
            · simp [h6]
            · by_cases h7 : k = 21
              · simp [h7]
              · simp [h1, h2, h3, h4, h5, h6, h7]
theorem closes_eq (k : Int) : balance_closes.f k = some (decide (k = 18 ∨ k = 22)) := by
  unfold balance_closes.f
  by_cases h : k = 18
  · simp [h]
  · rw [if_neg h]
    simp only [h, false_or]
    rfl
end Go.Proofs.Ythgmkbghdobmlaa.P
namespace Go.Proofs.Ythgmkbghdobmlaa.P
open Go.RowKit Go.Proofs.YthgmkbghdobmlaaW.PrintWords Go.Proofs.YthgmkbghdobmlaaW.PrintLast Go.Proofs.YthgmkbghdobmlaaW.PrintMore
set_option linter.unusedVariables false
set_option linter.unusedSimpArgs false

/-- Does a class open or close? -/
def opcK (k : Int) : Bool := decide (closerK k ≠ -1) || decide (k = 18 ∨ k = 22)
def opc (c : Int) : Bool := opcK (cls c)
def balance_Controls.f (l0 : List Int) : Option (List Int) := if l0.length < 17592186044416 then some (l0.filter opc) else none
theorem controls1_eq (c : Int) : balance_Controls_1.f 91 c = some (!(opc c)) := by
  unfold balance_Controls_1.f opc opcK
  rw [class_of_eq 91 (by decide), Option.bind_some, more (balance_closer.mono _) 1 91 (by decide) _ (closer_eq0 _), Option.bind_some]
  by_cases h : closerK (cls c) = -1
  · rw [if_pos h, closes_eq, Option.bind_some]
    simp [h]
  · rw [if_neg h]
    simp [h]
theorem balance_Controls.calls (A0 : Option Addr) (c0 : Nat) (l0 : List Int) (r : List Int) (w : World) (hr0 : Kd.C (Kd.int .i64) w A0 l0.length l0) (hc0 : l0.length ≤ c0) (h : balance_Controls.f l0 = some r) :
    Calls Try.prog 43 #[.slice A0 l0.length c0] w fun e w' => ∃ v0_ : Value, e = .returned (v0_) ∧ Kd.R (Kd.int .i64) 3 w' w.heap.size (fun _ => True) v0_ r ∧ Below w.heap.size w w' := by
  have hl : l0.length < 17592186044416 := by
    unfold balance_Controls.f at h
    by_cases hl : l0.length < 17592186044416
    · exact hl
    · rw [if_neg hl] at h
      cases h
  obtain rfl : l0.filter opc = r := by
    unfold balance_Controls.f at h
    rw [if_pos hl] at h
    exact Option.some.inj h
  clear h
  have hcl := slices_Clone_int.calls A0 c0 l0 l0 w hr0 hc0 (by unfold slices_Clone_int.f; rw [if_pos hl])
  have ht : TestB 63 #[] (fun c => !(opc c)) := fun x W => balance_Controls_1.calls 91 x _ W (controls1_eq x)
  have hf : (l0.filter fun x => !((fun c => !(opc c)) x)) = l0.filter opc := by
    congr 1
    funext x
    simp
  have hdel : ∀ (A : Option Addr) (c : Nat) (W : World), Kd.R (Kd.int .i64) 3 W w.heap.size (fun _ => True) (.slice A l0.length c) l0 → Below w.heap.size w W → _ := fun A c W h1 h2 => del_func.calls 63 #[] (fun c => !(opc c)) A c l0 w W h1 h2 hl ht (fun x W => by rfl)
  rw [hf] at hdel
  clear hf ht hr0 hc0
  go_enter Try.func43, Try.ntmps43
  go_wp2_with (first
    | (go_at_call 31; (with_reducible refine hcl.mono ?_); rintro e w' ⟨v1, rfl, hq, hb⟩; obtain ⟨A2, c2, rfl⟩ := Kd.R_slice hq; have HB := Aside0.mk hb; have HQ := Aside0.mk hq; clear hq hb)
    | (go_at_call 30; (with_reducible refine (hdel _ _ _ HQ.out HB.out).mono ?_); rintro e w' ⟨v2, rfl, hq, hb⟩; obtain ⟨A3, c3, rfl⟩ := Kd.R_slice hq; have HB3 := Aside0.mk hb; have HQ3 := Aside0.mk hq; clear hq hb))
  go_ret
  exact ⟨_, rfl, HQ3.out, HB3.out⟩
end Go.Proofs.Ythgmkbghdobmlaa.P
namespace Go.Proofs.Ythgmkbghdobmlaa.P
open Go.RowKit Go.Maps Go.ChangeMaps Go.Proofs.YthgmkbghdobmlaaW.PrintWords Go.Proofs.YthgmkbghdobmlaaW.PrintLast
set_option linter.unusedVariables false
set_option linter.unusedSimpArgs false

def pair_Other.tbl : List (Int × Int) := [(40, 41), (91, 93), (123, 125), (9001, 9002), (12296, 12297), (12298, 12299), (12300, 12301), (12302, 12303), (12304, 12305)]
def pair_Other.up (c : Int) : Option (Int × Int) := pair_Other.tbl.find? fun p => p.1 == c
def pair_Other.down (c : Int) : Option (Int × Int) := pair_Other.tbl.find? fun p => p.2 == c
def pair_Other.ans (c : Int) : Int × Bool × Bool :=
  match pair_Other.up c with
  | some p => (p.2, true, true)
  | none => match pair_Other.down c with
    | some p => (p.1, false, true)
    | none => (0, false, false)
def pair_Other.f (a0 : Int) : Option (Int × Bool × Bool) := some (pair_Other.ans a0)

/-- The map's entries behind its first n stores. -/
def pair_ents : List (Int × Int) → Nat → List MapEntry
  | [], _ => []
  | p :: l, b => ⟨.int .i64 p.1, .int .i64 p.2, b⟩ :: pair_ents l (b + 1)
def pair_es (n : Nat) : Array MapEntry := (pair_ents (pair_Other.tbl.take n) 0).toArray

theorem pair_ins {w : World} {es : Array MapEntry} {clock : Nat} {t : TypeId} {k v : Int} (ht : Try.prog.underlying t = some (.map 3 3))
    (hf : Instr.findNow (.int .i64) (.int .i64 k) es.toList 0 = some none) :
    (Instr.mapUpdate t (.map (some w.heap.size)) (.int .i64 k) (.int .i64 v)).run Try.prog (w.alloc (.map es clock)) = .ok () (w.alloc (.map (es.push ⟨.int .i64 k, .int .i64 v, clock⟩) (clock + 1))) := by
  have hb : (w.alloc (.map es clock)).heap[w.heap.size]? = some (.map es clock) := heap_alloc_new w _
  have hk : (Instr.checkKey false 10000 3 (.int .i64 k)).run Try.prog (w.alloc (.map es clock)) = .ok () (w.alloc (.map es clock)) := MapKept.run_checkKey Try.underlying3 (by simp [MapKept.IsKey]) false 9999
  have hfk : (Instr.findKey 3 (.int .i64 k) es.toList).run Try.prog (w.alloc (.map es clock)) = .ok none (w.alloc (.map es clock)) := by
    simp [Instr.findKey, run_underlying Try.underlying3, hf]
  simp only [Instr.mapUpdate, Sem.run_bind, run_underlying ht, Result.andThen_ok, MapKept.run_getObj_map hb, hk, hfk, MapKept.run_setObj_map _ hb]
  have hp : ∀ o : Obj, (w.heap.push (.map es clock)).setIfInBounds w.heap.size o = w.heap.push o := by
    intro o
    apply Array.toList_inj.1
    simp [List.set_append]
  show Result.ok () { w.alloc (.map es clock) with heap := (w.heap.push (.map es clock)).setIfInBounds w.heap.size _ } = _
  rw [hp]
  rfl

theorem pair_find_none (c : Int) : ∀ (l : List (Int × Int)) (b i : Nat), l.find? (fun p => p.1 == c) = none → Instr.findNow (.int .i64) (.int .i64 c) (pair_ents l b) i = some none
  | [], _, _, _ => rfl
  | p :: l, b, i, h => by
    have h2 : (p.1 == c) = false := by
      cases hc : (p.1 == c) with
      | true => simp [List.find?, hc] at h
      | false => rfl
    have h3 : (c == p.1) = false := by
      simp only [beq_eq_false_iff_ne, ne_eq] at h2 ⊢
      exact fun e => h2 e.symm
    simp only [List.find?, h2] at h
    simp only [pair_ents, Instr.findNow, Instr.sameNow, if_true, h3]
    exact pair_find_none c l (b + 1) (i + 1) h
theorem pair_find_some (c : Int) (p : Int × Int) : ∀ (l : List (Int × Int)) (b i : Nat), l.find? (fun p => p.1 == c) = some p → ∃ j, Instr.findNow (.int .i64) (.int .i64 c) (pair_ents l b) i = some (some (j, .int .i64 p.2))
  | [], _, _, h => by simp at h
  | q :: l, b, i, h => by
    cases h2 : (q.1 == c) with
    | true =>
      simp only [List.find?, h2] at h
      obtain rfl := Option.some.inj h
      have h3 : (c == q.1) = true := by
        simp only [beq_iff_eq] at h2 ⊢
        exact h2.symm
      exact ⟨i, by simp only [pair_ents, Instr.findNow, Instr.sameNow, if_true, h3]⟩
    | false =>
      simp only [List.find?, h2] at h
      have h3 : (c == q.1) = false := by
        simp only [beq_eq_false_iff_ne, ne_eq] at h2 ⊢
        exact fun e => h2 e.symm
      obtain ⟨j, hj⟩ := pair_find_some c p l (b + 1) (i + 1) h
      exact ⟨j, by simp only [pair_ents, Instr.findNow, Instr.sameNow, if_true, h3]; exact hj⟩

theorem pair_look {w : World} {r clock : Nat} {t : TypeId} {c : Int} (ht : Try.prog.underlying t = some (.map 3 3)) (hb : w.heap[r]? = some (.map (pair_es 9) clock)) :
    (Instr.lookup t (.map (some r)) (.int .i64 c) true).run Try.prog w = .ok (.tuple #[.int .i64 ((pair_Other.up c).map (·.2) |>.getD 0), .bool (pair_Other.up c).isSome]) w := by
  have hk : ∀ e, (Instr.checkKey e 10000 3 (.int .i64 c)).run Try.prog w = .ok () w := by
    intro e
    exact MapKept.run_checkKey Try.underlying3 (by simp [MapKept.IsKey]) e 9999
  have hz : (zeroValue 3).run Try.prog w = .ok (.int .i64 0) w := by kernel_rfl
  have hl : (pair_es 9).toList = pair_ents pair_Other.tbl 0 := rfl
  cases hu : pair_Other.up c with
  | none =>
    have hfk : (Instr.findKey 3 (.int .i64 c) (pair_ents pair_Other.tbl 0)).run Try.prog w = .ok none w := by
      simp [Instr.findKey, run_underlying Try.underlying3, pair_find_none c _ 0 0 hu]
    simp only [Instr.lookup, Sem.run_bind, run_underlying ht, Result.andThen_ok, MapKept.run_getObj_map hb, hk, hl, hfk, Sem.run_pure, hz]
    rfl
  | some p =>
    obtain ⟨j, hj⟩ := pair_find_some c p _ 0 0 hu
    have hfk : (Instr.findKey 3 (.int .i64 c) (pair_ents pair_Other.tbl 0)).run Try.prog w = .ok (some (j, .int .i64 p.2)) w := by
      simp [Instr.findKey, run_underlying Try.underlying3, hj]
    simp only [Instr.lookup, Sem.run_bind, run_underlying ht, Result.andThen_ok, MapKept.run_getObj_map hb, hk, hl, hfk, Sem.run_pure]
    rfl

set_option maxRecDepth 100000 in
theorem pair_brackets.calls (w : World) :
    Calls Try.prog 80 #[] w fun e w' => e = .returned (.map (some w.heap.size)) ∧ w' = w.alloc (.map (pair_es 9) 9) := by
  have hmm := @run_makeMap Try.prog
  have i0 : (Instr.mapUpdate 90 (.map (some w.heap.size)) (.int .i64 40) (.int .i64 41)).run Try.prog (w.alloc (.map #[] 0)) = .ok () (w.alloc (.map (pair_es 1) 1)) := pair_ins Try.underlying90 (pair_find_none 40 (pair_Other.tbl.take 0) 0 0 (by decide))
  have i1 : (Instr.mapUpdate 90 (.map (some w.heap.size)) (.int .i64 91) (.int .i64 93)).run Try.prog (w.alloc (.map (pair_es 1) 1)) = .ok () (w.alloc (.map (pair_es 2) 2)) := pair_ins Try.underlying90 (pair_find_none 91 (pair_Other.tbl.take 1) 0 0 (by decide))
  have i2 : (Instr.mapUpdate 90 (.map (some w.heap.size)) (.int .i64 123) (.int .i64 125)).run Try.prog (w.alloc (.map (pair_es 2) 2)) = .ok () (w.alloc (.map (pair_es 3) 3)) := pair_ins Try.underlying90 (pair_find_none 123 (pair_Other.tbl.take 2) 0 0 (by decide))
  have i3 : (Instr.mapUpdate 90 (.map (some w.heap.size)) (.int .i64 9001) (.int .i64 9002)).run Try.prog (w.alloc (.map (pair_es 3) 3)) = .ok () (w.alloc (.map (pair_es 4) 4)) := pair_ins Try.underlying90 (pair_find_none 9001 (pair_Other.tbl.take 3) 0 0 (by decide))
  have i4 : (Instr.mapUpdate 90 (.map (some w.heap.size)) (.int .i64 12296) (.int .i64 12297)).run Try.prog (w.alloc (.map (pair_es 4) 4)) = .ok () (w.alloc (.map (pair_es 5) 5)) := pair_ins Try.underlying90 (pair_find_none 12296 (pair_Other.tbl.take 4) 0 0 (by decide))
  have i5 : (Instr.mapUpdate 90 (.map (some w.heap.size)) (.int .i64 12298) (.int .i64 12299)).run Try.prog (w.alloc (.map (pair_es 5) 5)) = .ok () (w.alloc (.map (pair_es 6) 6)) := pair_ins Try.underlying90 (pair_find_none 12298 (pair_Other.tbl.take 5) 0 0 (by decide))
  have i6 : (Instr.mapUpdate 90 (.map (some w.heap.size)) (.int .i64 12300) (.int .i64 12301)).run Try.prog (w.alloc (.map (pair_es 6) 6)) = .ok () (w.alloc (.map (pair_es 7) 7)) := pair_ins Try.underlying90 (pair_find_none 12300 (pair_Other.tbl.take 6) 0 0 (by decide))
  have i7 : (Instr.mapUpdate 90 (.map (some w.heap.size)) (.int .i64 12302) (.int .i64 12303)).run Try.prog (w.alloc (.map (pair_es 7) 7)) = .ok () (w.alloc (.map (pair_es 8) 8)) := pair_ins Try.underlying90 (pair_find_none 12302 (pair_Other.tbl.take 7) 0 0 (by decide))
  have i8 : (Instr.mapUpdate 90 (.map (some w.heap.size)) (.int .i64 12304) (.int .i64 12305)).run Try.prog (w.alloc (.map (pair_es 8) 8)) = .ok () (w.alloc (.map (pair_es 9) 9)) := pair_ins Try.underlying90 (pair_find_none 12304 (pair_Other.tbl.take 8) 0 0 (by decide))
  go_enter Try.func80, Try.ntmps80
  go_wp2
  go_ret
  exact ⟨rfl, rfl⟩

theorem pair_old (w : World) (o o' : Obj) : ((w.alloc o).alloc o').heap[w.heap.size]? = some o := by
  rw [heap_alloc_old _ _ (by show w.heap.size < (w.heap.push o).size; simp), heap_alloc_new]
theorem pair_new (w : World) (o o' : Obj) : ((w.alloc o).alloc o').heap[w.heap.size + 1]? = some o' := by
  have h := heap_alloc_new (w.alloc o) o'
  have hs : (w.alloc o).heap.size = w.heap.size + 1 := by show (w.heap.push o).size = _; simp
  rwa [hs] at h
theorem pair_ents_mem : ∀ (l : List (Int × Int)) (b : Nat) (x : MapEntry), x ∈ pair_ents l b → ∃ p ∈ l, x.key = .int .i64 p.1 ∧ x.val = .int .i64 p.2
  | [], _, _, h => by simp [pair_ents] at h
  | q :: l, b, x, h => by
    simp only [pair_ents, List.mem_cons] at h
    rcases h with rfl | h
    · exact ⟨q, by simp, rfl, rfl⟩
    · obtain ⟨p, hp, h1⟩ := pair_ents_mem l (b + 1) x h
      exact ⟨p, by simp [hp], h1⟩
theorem pair_ents_has : ∀ (l : List (Int × Int)) (b : Nat) (p : Int × Int), p ∈ l → ∃ x ∈ pair_ents l b, x.key = .int .i64 p.1 ∧ x.val = .int .i64 p.2
  | [], _, _, h => by simp at h
  | q :: l, b, p, h => by
    simp only [List.mem_cons] at h
    rcases h with rfl | h
    · exact ⟨⟨.int .i64 p.1, .int .i64 p.2, b⟩, by simp [pair_ents], rfl, rfl⟩
    · obtain ⟨x, hx, h1⟩ := pair_ents_has l (b + 1) p h
      exact ⟨x, by simp [pair_ents, hx], h1⟩
theorem pair_stamped : MapKept.Stamped (pair_es 9) 9 := by
  rw [MapKept.stamped_iff]
  refine ⟨by decide, by decide, ?_⟩
  show (pair_ents pair_Other.tbl 0).Pairwise _
  simp [pair_ents, pair_Other.tbl]
theorem pair_down_some {c : Int} {p : Int × Int} (hp : p ∈ pair_Other.tbl) (hc : p.2 = c) : pair_Other.down c = some p := by
  subst hc
  revert p
  decide
theorem pair_down_none {c : Int} (h : ∀ x ∈ (pair_es 9).toList, ¬ x.val = .int .i64 c) : pair_Other.down c = none := by
  unfold pair_Other.down
  rw [List.find?_eq_none]
  intro p hp he
  obtain ⟨x, hx, _, hv⟩ := pair_ents_has pair_Other.tbl 0 p hp
  exact h x hx (by rw [hv]; simp only [beq_iff_eq] at he; rw [he])

set_option maxHeartbeats 4000000 in
set_option maxRecDepth 100000 in
theorem pair_Other.calls (a0 : Int) (r1 : Int) (r2 : Bool) (r3 : Bool) (w : World) (h : pair_Other.f a0 = some (r1, r2, r3)) :
    Calls Try.prog 79 #[.int .i64 a0] w fun e w' => e = .returned (.tuple #[.int .i64 r1, .bool r2, .bool r3]) ∧ Below w.heap.size w w' := by
  have hw0 : (w.alloc (.map (pair_es 9) 9)).heap[w.heap.size]? = some (.map (pair_es 9) 9) := heap_alloc_new w _
  have hlk := pair_look (c := a0) Try.underlying90 hw0
  have hH := Option.some.inj h
  unfold pair_Other.ans at hH
  clear h
  cases hu : pair_Other.up a0 with
  | some p =>
    rw [hu] at hlk hH
    simp only [Option.map_some, Option.getD_some, Option.isSome_some] at hlk
    simp only [Prod.mk.injEq] at hH
    obtain ⟨rfl, rfl, rfl⟩ := hH
    clear hw0 hu
    go_enter Try.func79, Try.ntmps79
    go_wp2_with (go_at_call 80; refine (pair_brackets.calls _).mono ?_; rintro e w' ⟨rfl, rfl⟩)
    go_ret3
    exact ⟨rfl, below_alloc (Below.refl _ _) _⟩
  | none =>
    rw [hu] at hlk hH
    simp only [Option.map_none, Option.getD_none, Option.isSome_none] at hlk
    simp only [] at hH
    clear hu
    have hrg : (Instr.range 90 (.map (some w.heap.size))).run Try.prog (w.alloc (.map (pair_es 9) 9)) = .ok (.pointer (some ⟨w.heap.size + 1, 0, none⟩)) ((w.alloc (.map (pair_es 9) 9)).alloc (.mapIter (some w.heap.size) 9 #[] 9)) := by
      have hq := run_range_map (P := Try.prog) (w.alloc (.map (pair_es 9) 9)) 90 3 3 w.heap.size (pair_es 9) 9 Try.underlying90 hw0
      simpa using hq
    have HW0 := Aside0.mk hw0
    have HH := Aside0.mk hH
    clear hw0 hH
    go_enter Try.func79, Try.ntmps79
    go_wp2_with (go_at_call 80; refine (pair_brackets.calls _).mono ?_; rintro e w' ⟨rfl, rfl⟩)
    go_loopw [] (fun wr => ∃ seen : Array Nat, Below w.heap.size w wr ∧ wr.heap[w.heap.size]? = some (.map (pair_es 9) 9) ∧ wr.heap[w.heap.size + 1]? = some (.mapIter (some w.heap.size) 9 seen 9) ∧ ∀ x ∈ (pair_es 9).toList, seen.contains x.born = true → ¬ x.val = .int .i64 a0) (fun wr => (leftOf (pair_es 9) (wr.iterSeen (w.heap.size + 1))).size)
    case atStart => exact ⟨#[], below_alloc (below_alloc (Below.refl _ _) _) _, pair_old _ _ _, pair_new _ _ _, fun x _ h => by simp at h⟩
    case round =>
      obtain ⟨seen, hB, hb, hr, hno⟩ := hrel
      rcases run_next_at (P := Try.prog) wr 0 (w.heap.size + 1) w.heap.size 9 9 seen (pair_es 9) 9 hr hb pair_stamped.1 (Nat.le_refl _) with ⟨h0, hrun⟩ | ⟨e, he, w1, hw1, hrun⟩
      · have hd : pair_Other.down a0 = none := pair_down_none fun x hx => hno x hx (all_seen _ seen h0 x hx)
        have hq := HH.out
        rw [hd] at hq
        simp only [Prod.mk.injEq] at hq
        obtain ⟨rfl, rfl, rfl⟩ := hq
        have HB := Aside0.mk hB
        clear hB hb hr hno h0 hd HH
        go_wp2
        go_ret3
        exact ⟨rfl, HB.out⟩
      · obtain ⟨p, hp, hkey, hval⟩ := pair_ents_mem _ _ e (mem_left he).1
        rw [hkey, hval] at hrun
        have hB1 : Below w.heap.size w w1 := by
          rcases hw1 with rfl | rfl
          · exact hB
          · exact below_drew hB
        have hr1 : w1.heap[w.heap.size + 1]? = some (.mapIter (some w.heap.size) 9 seen 9) := by rcases hw1 with rfl | rfl <;> exact hr
        have hb1 : w1.heap[w.heap.size]? = some (.map (pair_es 9) 9) := by rcases hw1 with rfl | rfl <;> exact hb
        obtain ⟨W2, hW2⟩ : ∃ W2, W2 = setBlock w1 (w.heap.size + 1) (.mapIter (some w.heap.size) 9 (seen.push e.born) 9) := ⟨_, rfl⟩
        rw [← hW2] at hrun
        have hb2 : W2.heap[w.heap.size]? = some (.map (pair_es 9) 9) := by
          rw [hW2]
          show (w1.heap.setIfInBounds (w.heap.size + 1) _)[w.heap.size]? = _
          rw [Array.getElem?_setIfInBounds_ne (by omega)]
          exact hb1
        have hr2 : W2.heap[w.heap.size + 1]? = some (.mapIter (some w.heap.size) 9 (seen.push e.born) 9) := by
          rw [hW2]
          show (w1.heap.setIfInBounds (w.heap.size + 1) _)[w.heap.size + 1]? = _
          rw [Array.getElem?_setIfInBounds_self, if_pos (Array.getElem?_eq_some_iff.1 hr1).1]
        have hB2 : Below w.heap.size w W2 := by
          rw [hW2]
          refine ⟨hB1.os, hB1.tape, hB1.output, ?_, fun k hk => ?_⟩
          · show _ ≤ (w1.heap.setIfInBounds (w.heap.size + 1) _).size
            rw [Array.size_setIfInBounds]
            exact hB1.size
          · show (w1.heap.setIfInBounds (w.heap.size + 1) _)[k]? = _
            rw [Array.getElem?_setIfInBounds_ne (by omega)]
            exact hB1.block k hk
        have hen := run_entry_at (P := Try.prog) W2 (w.heap.size + 1) w.heap.size 9 seen (pair_es 9) 9 e hr2 hb2 (mem_left he).1 pair_stamped.2.1
        rw [hkey, hval] at hen
        have hno2 : (p.2 == a0) = false → ∀ x ∈ (pair_es 9).toList, (seen.push e.born).contains x.born = true → ¬ x.val = .int .i64 a0 := by
          intro hne x hx hc
          rw [contains_push] at hc
          rcases Bool.or_eq_true _ _ ▸ hc with h1 | h1
          · exact hno x hx h1
          · obtain rfl : x = e := born_inj pair_stamped.2.1 hx (mem_left he).1 (beq_iff_eq.1 h1)
            rw [hval]
            intro h2
            injection h2 with _ h2
            rw [h2] at hne
            simp at hne
        have hms : (leftOf (pair_es 9) (seen.push e.born)).size < (leftOf (pair_es 9) (wr.iterSeen (w.heap.size + 1))).size := by
          have h1 : wr.iterSeen (w.heap.size + 1) = seen := by unfold World.iterSeen; rw [hr]
          rw [h1]
          exact left_shrinks _ seen e he
        have h2s : W2.iterSeen (w.heap.size + 1) = seen.push e.born := by unfold World.iterSeen; rw [hr2]
        have HB2 := Aside0.mk hB2
        have HS := Aside0.mk h2s
        have HB := Aside0.mk hb2
        have HR := Aside0.mk hr2
        have HN := Aside0.mk hno2
        have HM := Aside0.mk hms
        have HP := Aside0.mk hp
        clear hW2 hB2 h2s hb2 hr2 hno2 hms hp hB1 hr1 hb1 hw1 hB hb hr hno hkey hval he hrg hlk HW0
        cases hq : (p.2 == a0) with
        | true =>
          have hd := pair_down_some HP.out (by simpa using hq)
          have hz := HH.out
          rw [hd] at hz
          simp only [Prod.mk.injEq] at hz
          obtain ⟨rfl, rfl, rfl⟩ := hz
          clear hd HH
          go_wp2
          go_ret3
          exact ⟨rfl, HB2.out⟩
        | false =>
          go_wp2
          go_roundw
          case rel => exact ⟨_, HB2.out, HB.out, HR.out, HN.out hq⟩
          case measure => rw [HS.out]; exact HM.out

end Go.Proofs.Ythgmkbghdobmlaa.P
