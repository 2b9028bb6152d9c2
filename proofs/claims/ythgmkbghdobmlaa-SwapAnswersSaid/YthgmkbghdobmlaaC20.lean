/- Texts of this claim put together by a program of its own (Px15), what the law does not use left out: each part's statements bear their own conditions. -/
import Derived.Test.YthgmkbghdobmlaaC11
namespace Go.Proofs.Ythgmkbghdobmlaa.P
open Go.RowKit Go.Proofs.YthgmkbghdobmlaaW.PrintWords Go.Proofs.YthgmkbghdobmlaaW.PrintLast Go.Proofs.YthgmkbghdobmlaaW.PrintMore
attribute [local go_sem] min2_int min_two
set_option linter.unusedVariables false
set_option linter.unusedSimpArgs false

def ductusref23_Back.j0 : Nat → List Int → Bool → Int → Int → Option (Int × Int × Bool)
  | 0, _, _, _, _ => none
  | k + 1, x0, x22, x436000, x436001 => if x22 = true then (some (0, 0, false)) else (if x436000 = x436001 then (if 0 ≤ x436000 then (if x436000 < (x0.length : Int) then (some (rd x0 x436000, rd x0 x436000, true)) else (none)) else (none)) else (if 0 ≤ x436000 then (if x436000 < (x0.length : Int) then (if 0 ≤ (wrap64 (x436001 - 1)) then (if (wrap64 (x436001 - 1)) < (x0.length : Int) then (some (rd x0 x436000, wrap64 ((rd x0 (wrap64 (x436001 - 1))) + 1), true)) else (none)) else (none)) else (none)) else (none)))
def ductusref23_Back.f (k : Nat) (l0 : List Int) (a1_0 : Int) (a1_1 : Int) : Option (Int × Int × Bool) := if a1_0 < 0 then (ductusref23_Back.j0 k l0 true a1_0 a1_1) else (if a1_0 > a1_1 then (ductusref23_Back.j0 k l0 true a1_0 a1_1) else (ductusref23_Back.j0 k l0 (decide (a1_1 ≥ (l0.length : Int))) a1_0 a1_1))
def ductusref23_Back.T4 : Bool × List (List Nat × List Nat) := (true, [([], []), ([], []), ([1], [1]), ([0, 2], [0, 2]), ([3], [3]), ([], []), ([], []), ([6], [6]), ([5, 7], [5, 7]), ([8], [8]), ([4, 9], [4, 9]), ([10, 0, 1, 2, 3, 4, 5, 6, 7, 8, 9, 10], [10]), ([11, 0, 1, 2, 3, 4, 5, 6, 7, 8, 9, 10, 11], [])])
def ductusref23_Back.B4 : List Nat := [0, 0, 2, 7, 15, 0, 0, 64, 224, 480, 1023, 2047, 4095]
theorem ductusref23_Back.tab4 : rtab .any (opsOf Try.f45 4) = ductusref23_Back.T4 := by kernel_rfl
theorem ductusref23_Back.bits4 : waitsOk ductusref23_Back.T4.2 ductusref23_Back.B4 = true := by kernel_rfl
def ductusref23_Back.T5 : Bool × List (List Nat × List Nat) := (true, [([], []), ([], []), ([1], [1]), ([0, 2], [0, 2]), ([3], [3]), ([], []), ([], []), ([6], [6]), ([7], [7]), ([5, 8], [5, 8]), ([9], [9]), ([10], [10]), ([4, 11], [4, 11]), ([12, 0, 1, 2, 3, 4, 5, 6, 7, 8, 9, 10, 11, 12], [12]), ([13, 0, 1, 2, 3, 4, 5, 6, 7, 8, 9, 10, 11, 12, 13], [])])
def ductusref23_Back.B5 : List Nat := [0, 0, 2, 7, 15, 0, 0, 64, 192, 480, 992, 2016, 4095, 8191, 16383]
theorem ductusref23_Back.tab5 : rtab .any (opsOf Try.f45 5) = ductusref23_Back.T5 := by kernel_rfl
theorem ductusref23_Back.bits5 : waitsOk ductusref23_Back.T5.2 ductusref23_Back.B5 = true := by kernel_rfl
set_option maxHeartbeats 8000000 in
set_option maxRecDepth 100000 in
theorem ductusref23_Back.calls (k : Nat) (A0 : Option Addr) (c0 : Nat) (l0 : List Int) (a1_0 : Int) (a1_1 : Int) (r1 : Int) (r2 : Int) (r3 : Bool) (w : World) (hr0 : Kd.C (Kd.int .i64) w A0 l0.length l0) (hc0 : l0.length ≤ c0) (h : ductusref23_Back.f k l0 a1_0 a1_1 = some (r1, r2, r3)) :
    Calls Try.prog 45 #[.slice A0 l0.length c0, .agg #[.int .i64 a1_0, .int .i64 a1_1]] w fun e w' => e = .returned (.tuple #[.agg #[.int .i64 r1, .int .i64 r2], .bool r3]) ∧ Below w.heap.size w w' := by
  have hu39 := Try.underlying39
  have HR0 := Aside0.mk hr0
  have HC0 := Aside0.mk hc0
  clear hr0 hc0
  have HB := Aside0.mk (Below.refl w.heap.size w)
  have H : (if a1_0 < 0 then (ductusref23_Back.j0 k l0 true a1_0 a1_1) else (if a1_0 > a1_1 then (ductusref23_Back.j0 k l0 true a1_0 a1_1) else (ductusref23_Back.j0 k l0 (decide (a1_1 ≥ (l0.length : Int))) a1_0 a1_1))) = some (r1, r2, r3) := h
  clear h
  have HC3 := Aside0.mk H
  clear H
  go_enter Try.func45, Try.ntmps45
  go_upto_region 1 with (first | ((with_reducible refine gate_dst (N := 3) rfl ?_); (try (refine gate_guard (by rfl) ?_; dsimp only)); refine box_event ?hg (N := 3) ?hd (cs := #[.int .i64 a1_0, .int .i64 a1_1]) (t := 39) ?hr ?_; (case hd => rfl); (case hg => rfl); (case hr => first | (go_simp; done) | (go_simp; rfl)); intro gb435 hg w4 hbox hb; have n0_ := Aside0.mk (below_step (by repeat (first | (with_reducible first | exact HB.out | apply below_alloc | apply pw_below_drewN | apply below_drew1) | exact HB.out)) hb); have n1_ := Aside0.mk (hbox); have n2_ := Aside0.mk ((by rw [hg]; exact (below_size (by repeat (first | (with_reducible first | exact HB.out | apply below_alloc | apply pw_below_drewN | apply below_drew1) | exact HB.out))) : w.heap.size ≤ gb435)); have n3_ := Aside0.mk ((by rw [hg]; exact (below_size (by repeat (first | (with_reducible first | exact HB.out | apply below_alloc | apply pw_below_drewN | apply below_drew1) | exact HB.out))) : w.heap.size ≤ gb435)); clear HB; have HB := n0_; have BK435 := n1_; have GW435 := n2_; have GE435 := n3_; clear n0_ n1_ n2_ n3_; clear hb hbox hg) | ((with_reducible refine gate_dst (N := 4) rfl ?_); (try (refine gate_guard (by rfl) ?_; dsimp only)); refine box_event ?hg (N := 4) ?hd (cs := #[.int .i64 0, .int .i64 0]) (t := 39) ?hr ?_; (case hd => rfl); (case hg => rfl); (case hr => first | (go_simp; done) | (go_simp; rfl)); intro gb436 hg w5 hbox hb; have n0_ := Aside0.mk (blk_below (g := gb435) (o := .cells #[.int .i64 a1_0, .int .i64 a1_1] 39 (0, 0)) (by (with_reducible repeat (first | refine blk_drewN ?_ _ | refine blk_drew ?_ | refine blk_alloc ?_ _)); exact BK435.out) hb); have n1_ := Aside0.mk (below_step (by repeat (first | (with_reducible first | exact HB.out | apply below_alloc | apply pw_below_drewN | apply below_drew1 | refine below_set ?_ GE435.out) | exact HB.out)) hb); have n2_ := Aside0.mk (hbox); have n3_ := Aside0.mk ((by rw [hg]; exact (below_size (by repeat (first | (with_reducible first | exact HB.out | apply below_alloc | apply pw_below_drewN | apply below_drew1 | refine below_set ?_ GE435.out) | exact HB.out))) : w.heap.size ≤ gb436)); have n4_ := Aside0.mk ((by rw [hg]; exact (below_size (by repeat (first | (with_reducible first | exact HB.out | apply below_alloc | apply pw_below_drewN | apply below_drew1 | refine below_set ?_ GE435.out) | exact HB.out))) : w.heap.size ≤ gb436)); have n5_ := Aside0.mk ((by rw [hg]; exact Nat.ne_of_lt (blk_lt (g := gb435) (o := .cells #[.int .i64 a1_0, .int .i64 a1_1] 39 (0, 0)) (by (with_reducible repeat (first | refine blk_drewN ?_ _ | refine blk_drew ?_ | refine blk_alloc ?_ _)); exact BK435.out)) : gb435 ≠ gb436)); have n6_ := Aside0.mk ((by rw [hg]; exact Nat.ne_of_gt (blk_lt (g := gb435) (o := .cells #[.int .i64 a1_0, .int .i64 a1_1] 39 (0, 0)) (by (with_reducible repeat (first | refine blk_drewN ?_ _ | refine blk_drew ?_ | refine blk_alloc ?_ _)); exact BK435.out)) : gb436 ≠ gb435)); clear BK435; clear HB; have BK435 := n0_; have HB := n1_; have BK436 := n2_; have GW436 := n3_; have GE436 := n4_; have NB435_436 := n5_; have NB436_435 := n6_; clear n0_ n1_ n2_ n3_ n4_ n5_ n6_; clear hb hbox hg))
  (try simp only [Act.put, List.setIfInBounds_toArray, List.set_cons_zero, List.set_cons_succ])
  go_cut [22] (fun v22 wc => ∃ (kq : Nat) (x22_2 : Bool), v22 = .bool x22_2 ∧ Aside0 (ductusref23_Back.j0 kq l0 x22_2 a1_0 a1_1 = some (r1, r2, r3)) ∧ Aside0 (kq ≤ k) ∧ Aside0 (wc.heap[gb435]? = some (.cells #[.int .i64 a1_0, .int .i64 a1_1] 39 (0, 0))) ∧ Aside0 (wc.heap[gb436]? = some (.cells #[.int .i64 0, .int .i64 0] 39 (0, 0))) ∧ Aside0 (Below w.heap.size w wc))
  case first =>
    have H := HC3.out
    clear HC3
    by_cases c6 : a1_0 < 0
    · rw [if_pos c6] at H
      have c6b0 : decide (a1_0 < 0) = true := decide_eq_true c6
      clear c6
      (first | rw [c6b0] | (simp only [i64_w, i32_w]; rw [c6b0]) | skip)
      have H' := Aside0.mk H
      clear H
      have hnb7 := NB435_436.out
      have hnc7 := NB436_435.out
      have hcz8_0 : w5.cell? ⟨gb435, 0, none⟩ = some (.int .i64 a1_0) := (blk_cell BK435.out 0).trans rfl
      have hcz8_1 : w5.cell? ⟨gb435, 1, none⟩ = some (.int .i64 a1_1) := (blk_cell BK435.out 1).trans rfl
      have hfz8_0 := blk_frozen BK435.out 0
      have hfz8_1 := blk_frozen BK435.out 1
      go_wp2
      go_meet
      case rel => exact ⟨_, (true), (by first | rfl | (simp; done) | (simp [*]; done)), H', ⟨by first | omega | exact Nat.le_refl _⟩, ⟨by (with_reducible repeat (first | refine blk_drewN ?_ _ | refine blk_drew ?_ | refine blk_alloc ?_ _)); exact BK435.out⟩, ⟨by (with_reducible repeat (first | refine blk_drewN ?_ _ | refine blk_drew ?_ | refine blk_alloc ?_ _)); exact BK436.out⟩, ⟨by repeat (first | (with_reducible first | exact HB.out | apply below_alloc | apply pw_below_drewN | apply below_drew1 | refine below_set ?_ GE435.out | refine below_set ?_ GE436.out) | exact HB.out)⟩⟩
    rw [if_neg c6] at H
    have c6b0 : decide (a1_0 < 0) = false := decide_eq_false c6
    clear c6
    (first | rw [c6b0] | (simp only [i64_w, i32_w]; rw [c6b0]) | skip)
    by_cases c9 : a1_0 > a1_1
    · rw [if_pos c9] at H
      have c9b0 : decide (a1_1 < a1_0) = true := decide_eq_true c9
      clear c9
      have H' := Aside0.mk H
      clear H
      have hnb10 := NB435_436.out
      have hnc10 := NB436_435.out
      have hcz11_0 : w5.cell? ⟨gb435, 0, none⟩ = some (.int .i64 a1_0) := (blk_cell BK435.out 0).trans rfl
      have hcz11_1 : w5.cell? ⟨gb435, 1, none⟩ = some (.int .i64 a1_1) := (blk_cell BK435.out 1).trans rfl
      have hfz11_0 := blk_frozen BK435.out 0
      have hfz11_1 := blk_frozen BK435.out 1
      go_wp2
      go_meet
      case rel => exact ⟨_, (true), (by first | rfl | (simp; done) | (simp [*]; done)), H', ⟨by first | omega | exact Nat.le_refl _⟩, ⟨by (with_reducible repeat (first | refine blk_drewN ?_ _ | refine blk_drew ?_ | refine blk_alloc ?_ _)); exact BK435.out⟩, ⟨by (with_reducible repeat (first | refine blk_drewN ?_ _ | refine blk_drew ?_ | refine blk_alloc ?_ _)); exact BK436.out⟩, ⟨by repeat (first | (with_reducible first | exact HB.out | apply below_alloc | apply pw_below_drewN | apply below_drew1 | refine below_set ?_ GE435.out | refine below_set ?_ GE436.out) | exact HB.out)⟩⟩
    rw [if_neg c9] at H
    have c9b0 : decide (a1_1 < a1_0) = false := decide_eq_false c9
    clear c9
    have H' := Aside0.mk H
    clear H
    have hnb12 := NB435_436.out
    have hnc12 := NB436_435.out
    have hcz13_0 : w5.cell? ⟨gb435, 0, none⟩ = some (.int .i64 a1_0) := (blk_cell BK435.out 0).trans rfl
    have hcz13_1 : w5.cell? ⟨gb435, 1, none⟩ = some (.int .i64 a1_1) := (blk_cell BK435.out 1).trans rfl
    have hfz13_0 := blk_frozen BK435.out 0
    have hfz13_1 := blk_frozen BK435.out 1
    go_wp2
    go_meet
    case rel => exact ⟨_, (decide (a1_1 ≥ (l0.length : Int))), (by first | rfl | (simp; done) | (simp [*]; done)), H', ⟨by first | omega | exact Nat.le_refl _⟩, ⟨by (with_reducible repeat (first | refine blk_drewN ?_ _ | refine blk_drew ?_ | refine blk_alloc ?_ _)); exact BK435.out⟩, ⟨by (with_reducible repeat (first | refine blk_drewN ?_ _ | refine blk_drew ?_ | refine blk_alloc ?_ _)); exact BK436.out⟩, ⟨by repeat (first | (with_reducible first | exact HB.out | apply below_alloc | apply pw_below_drewN | apply below_drew1 | refine below_set ?_ GE435.out | refine below_set ?_ GE436.out) | exact HB.out)⟩⟩
  case rest =>
    clear HC3
    try clear c1
    try clear p2
    try clear c4
    try clear c6
    try clear c6b0
    try clear c7
    try clear c9
    try clear c9b0
    try clear c10
    try clear c12
    try clear hcz11_0
    try clear hcz11_1
    try clear hcz13_0
    try clear hcz13_1
    try clear hcz8_0
    try clear hcz8_1
    try clear hfz11_0
    try clear hfz11_1
    try clear hfz13_0
    try clear hfz13_1
    try clear hfz8_0
    try clear hfz8_1
    obtain ⟨kq, x22_2, rfl, HA, HJ2, BK435, BK436, HB⟩ := hcut
    cases kq with
    | zero => exact absurd HA.out (by simp [ductusref23_Back.j0])
    | succ kj2 =>
      have H := HA.out
      clear HA
      simp only [ductusref23_Back.j0] at H
      by_cases c14 : x22_2 = true
      · subst c14
        have H1 : (some (0, 0, false)) = some (r1, r2, r3) := by rw [if_pos rfl] at H; exact H
        clear H
        have H := H1
        clear H1
        simp only [Option.some.injEq, Prod.mk.injEq] at H
        obtain ⟨rfl, rfl, rfl⟩ := H
        have hnb15 := NB436_435.out
        have hnc15 := NB435_436.out
        have hcz16_0 : wc.cell? ⟨gb436, 0, none⟩ = some (.int .i64 0) := (blk_cell BK436.out 0).trans rfl
        have hcz16_1 : wc.cell? ⟨gb436, 1, none⟩ = some (.int .i64 0) := (blk_cell BK436.out 1).trans rfl
        have hfz16_0 := blk_frozen BK436.out 0
        have hfz16_1 := blk_frozen BK436.out 1
        go_wp2
        refine bodyPost_ret (results_ct rfl _ _ gb436 39 #[.int .i64 0, .int .i64 0] (0, 0) _ rfl (by (with_reducible repeat (first | refine blk_drewN ?_ _ | refine blk_drew ?_ | refine blk_alloc ?_ _)); refine blk_put (cs := #[.int .i64 0, .int .i64 0]) ?_ 1 _ rfl; (with_reducible repeat (first | refine blk_drewN ?_ _ | refine blk_drew ?_ | refine blk_alloc ?_ _)); refine blk_put (cs := #[.int .i64 0, .int .i64 0]) ?_ 0 _ rfl; (with_reducible repeat (first | refine blk_drewN ?_ _ | refine blk_drew ?_ | refine blk_alloc ?_ _)); exact BK436.out) Try.underlying39 rfl (by kernel_rfl)) rfl ?_
        exact ⟨by first | rfl | (simp [errW_none, errW_some] <;> rfl) | (simp [*, errW_none, errW_some] <;> rfl), by repeat (first | (with_reducible first | exact HB.out | apply below_alloc | apply pw_below_drewN | apply below_drew1 | refine below_set ?_ GE435.out | refine below_set ?_ GE436.out) | exact HB.out)⟩
      replace c14 := Bool.eq_false_iff.mpr c14
      subst c14
      have H1 : (if a1_0 = a1_1 then (if 0 ≤ a1_0 then (if a1_0 < (l0.length : Int) then (some (rd l0 a1_0, rd l0 a1_0, true)) else (none)) else (none)) else (if 0 ≤ a1_0 then (if a1_0 < (l0.length : Int) then (if 0 ≤ (wrap64 (a1_1 - 1)) then (if (wrap64 (a1_1 - 1)) < (l0.length : Int) then (some (rd l0 a1_0, wrap64 ((rd l0 (wrap64 (a1_1 - 1))) + 1), true)) else (none)) else (none)) else (none)) else (none))) = some (r1, r2, r3) := by rw [if_neg (show ¬ (false = true) by decide)] at H; exact H
      clear H
      have H := H1
      clear H1
      by_cases c17 : a1_0 = a1_1
      · rw [if_pos c17] at H
        have c17b0 : (a1_0 == a1_1) = true := beq_iff_eq.mpr c17
        have c17b1 : (a1_0 != a1_1) = false := bne_eq_false_iff_eq.mpr c17
        clear c17
        by_cases c18 : 0 ≤ a1_0
        rotate_left
        · rw [if_neg c18] at H
          exact absurd H (by simp)
        rw [if_pos c18] at H
        have c18b0 : decide (0 ≤ a1_0) = true := decide_eq_true c18
        clear c18
        by_cases c19 : a1_0 < (l0.length : Int)
        rotate_left
        · rw [if_neg c19] at H
          exact absurd H (by simp)
        rw [if_pos c19] at H
        have c19b0 : decide (a1_0 < (l0.length : Int)) = true := decide_eq_true c19
        clear c19
        simp only [Option.some.injEq, Prod.mk.injEq] at H
        obtain ⟨rfl, rfl, rfl⟩ := H
        have hnb20 := NB435_436.out
        have hnc20 := NB436_435.out
        have hcz21_0 : wc.cell? ⟨gb435, 0, none⟩ = some (.int .i64 a1_0) := (blk_cell BK435.out 0).trans rfl
        have hcz21_1 : wc.cell? ⟨gb435, 1, none⟩ = some (.int .i64 a1_1) := (blk_cell BK435.out 1).trans rfl
        have hfz21_0 := blk_frozen BK435.out 0
        have hfz21_1 := blk_frozen BK435.out 1
        try go_wp2
        have n0_ := Aside0.mk (blk_drew BK435.out)
        have n1_ := Aside0.mk (blk_drew BK436.out)
        have n2_ := Aside0.mk (below_drew1 HB.out)
        clear BK435
        clear BK436
        clear HB
        have BK435 := n0_
        have BK436 := n1_
        have HB := n2_
        clear n0_ n1_ n2_
        have p437 : 0 ≤ (a1_0 : Int) := of_decide_eq_true (by first | (with_reducible assumption) | assumption)
        have q437 : a1_0 < (l0.length : Int) := of_decide_eq_true (by first | (with_reducible assumption) | assumption)
        obtain ⟨ad437, e437, hx437_0⟩ := Kd.at_int HR0.out a1_0 p437 q437
        have hw437_0 := hx437_0
        cases e437
        replace hx437_0 := (HB.out.cell (World.block_lt_of_cell? w _ hx437_0)).trans hx437_0
        replace p437 := eq_true p437
        replace q437 := eq_true q437
        have p438 : 0 ≤ (a1_0 : Int) := of_decide_eq_true (by first | (with_reducible assumption) | assumption)
        have q438 : a1_0 < (l0.length : Int) := of_decide_eq_true (by first | (with_reducible assumption) | assumption)
        obtain ⟨ad438, e438, hx438_0⟩ := Kd.at_int HR0.out a1_0 p438 q438
        have hw438_0 := hx438_0
        obtain rfl : ad437 = ad438 := (by injection e438)
        replace hx438_0 := (HB.out.cell (World.block_lt_of_cell? w _ hx438_0)).trans hx438_0
        replace p438 := eq_true p438
        replace q438 := eq_true q438
        refine start_ (n := 13) (S := fun w' => w'.cell? ⟨gb435, 0, none⟩ = some (.int .i64 a1_0) ∧ w'.cell? ⟨gb435, 1, none⟩ = some (.int .i64 a1_1) ∧ w'.cell? (ad437.add (a1_0).toNat) = some (.int .i64 (rd l0 a1_0)) ∧ w'.cell? (ad437.add (a1_0).toNat) = some (.int .i64 (rd l0 a1_0))) (ds := []) #[false, false, false, false, false, false, false, false, false, false, false, false, false] (by kernel_rfl) rfl rfl ⟨(blk_cell BK435.out 0).trans rfl, (blk_cell BK435.out 1).trans rfl, ((HB.out.cell (World.block_lt_of_cell? w _ hw437_0)).trans hw437_0), ((HB.out.cell (World.block_lt_of_cell? w _ hw438_0)).trans hw438_0)⟩ (fun hHeld => ?_); refine with_tabW ductusref23_Back.tab4 ductusref23_Back.bits4 (fun HT_ HW_ => ?_)
        generalize wc.drew = w22 at BK435 BK436 HB hx437_0 hx438_0 hHeld ⊢
        refine pure_ (i := 0) (N := some 29) (v := ?_) (a' := ?_) #[true, false, false, false, false, false, false, false, false, false, false, false, false] rfl rfl (any_of HT_.out (by kernel_rfl)) (fun _ _ _ h => h) (Or.inl ⟨by rfl, ?_⟩) ?_ ?_
        rotate_left
        · intro w'
          go_simp
          with_reducible rfl
        rotate_left
        · simp only [Act.put, List.setIfInBounds_toArray, List.set_cons_zero, List.set_cons_succ, i64_w, i32_w]
          rfl
        refine pure_ (i := 1) (N := some 30) (v := ?_) (a' := ?_) #[true, true, false, false, false, false, false, false, false, false, false, false, false] rfl rfl (any_of HT_.out (by kernel_rfl)) (fun _ _ _ h => h) (Or.inl ⟨by rfl, ?_⟩) ?_ ?_
        rotate_left
        · intro w'
          go_simp
          with_reducible rfl
        rotate_left
        · simp only [Act.put, List.setIfInBounds_toArray, List.set_cons_zero, List.set_cons_succ, i64_w, i32_w]
          rfl
        refine pure_ (i := 5) (N := some 34) (v := ?_) (a' := ?_) #[true, true, false, false, false, true, false, false, false, false, false, false, false] rfl rfl (any_of HT_.out (by kernel_rfl)) (fun _ _ _ h => h) (Or.inl ⟨by rfl, ?_⟩) ?_ ?_
        rotate_left
        · intro w'
          go_simp
          with_reducible rfl
        rotate_left
        · simp only [Act.put, List.setIfInBounds_toArray, List.set_cons_zero, List.set_cons_succ, i64_w, i32_w]
          rfl
        refine pure_ (i := 6) (N := some 35) (v := ?_) (a' := ?_) #[true, true, false, false, false, true, true, false, false, false, false, false, false] rfl rfl (any_of HT_.out (by kernel_rfl)) (fun _ _ _ h => h) (Or.inl ⟨by rfl, ?_⟩) ?_ ?_
        rotate_left
        · intro w'
          go_simp
          with_reducible rfl
        rotate_left
        · simp only [Act.put, List.setIfInBounds_toArray, List.set_cons_zero, List.set_cons_succ, i64_w, i32_w]
          rfl
        refine take_ (i := 2) (N := some 31) (v := ?_) (a' := ?_) #[true, true, true, false, false, true, true, false, false, false, false, false, false] rfl rfl (take_ofW HT_.out HW_.out (by kernel_rfl)) (fun _ _ _ h => h) (Or.inl ⟨by rfl, ?_⟩) hHeld ?_ ?_
        rotate_left
        · rintro w' ⟨s0, s1, s2, s3⟩
          go_simp
          with_reducible rfl
        rotate_left
        · simp only [Act.put, List.setIfInBounds_toArray, List.set_cons_zero, List.set_cons_succ, i64_w, i32_w]
          rfl
        refine pure_ (i := 3) (N := some 32) (v := ?_) (a' := ?_) #[true, true, true, true, false, true, true, false, false, false, false, false, false] rfl rfl (any_of HT_.out (by kernel_rfl)) (fun _ _ _ h => h) (Or.inl ⟨by rfl, ?_⟩) ?_ ?_
        rotate_left
        · intro w'
          go_simp
          with_reducible rfl
        rotate_left
        · simp only [Act.put, List.setIfInBounds_toArray, List.set_cons_zero, List.set_cons_succ, i64_w, i32_w]
          rfl
        refine take_ (i := 4) (N := some 33) (v := ?_) (a' := ?_) #[true, true, true, true, true, true, true, false, false, false, false, false, false] rfl rfl (take_ofW HT_.out HW_.out (by kernel_rfl)) (fun _ _ _ h => h) (Or.inl ⟨by rfl, ?_⟩) hHeld ?_ ?_
        rotate_left
        · rintro w' ⟨s0, s1, s2, s3⟩
          go_simp
          with_reducible rfl
        rotate_left
        · simp only [Act.put, List.setIfInBounds_toArray, List.set_cons_zero, List.set_cons_succ, i64_w, i32_w]
          rfl
        refine take_ (i := 7) (N := some 36) (v := ?_) (a' := ?_) #[true, true, true, true, true, true, true, true, false, false, false, false, false] rfl rfl (take_ofW HT_.out HW_.out (by kernel_rfl)) (fun _ _ _ h => h) (Or.inl ⟨by rfl, ?_⟩) hHeld ?_ ?_
        rotate_left
        · rintro w' ⟨s0, s1, s2, s3⟩
          go_simp
          with_reducible rfl
        rotate_left
        · simp only [Act.put, List.setIfInBounds_toArray, List.set_cons_zero, List.set_cons_succ, i64_w, i32_w]
          rfl
        refine pure_ (i := 8) (N := some 37) (v := ?_) (a' := ?_) #[true, true, true, true, true, true, true, true, true, false, false, false, false] rfl rfl (any_of HT_.out (by kernel_rfl)) (fun _ _ _ h => h) (Or.inl ⟨by rfl, ?_⟩) ?_ ?_
        rotate_left
        · intro w'
          go_simp
          with_reducible rfl
        rotate_left
        · simp only [Act.put, List.setIfInBounds_toArray, List.set_cons_zero, List.set_cons_succ, i64_w, i32_w]
          rfl
        refine take_ (i := 9) (N := some 38) (v := ?_) (a' := ?_) #[true, true, true, true, true, true, true, true, true, true, false, false, false] rfl rfl (take_ofW HT_.out HW_.out (by kernel_rfl)) (fun _ _ _ h => h) (Or.inl ⟨by rfl, ?_⟩) hHeld ?_ ?_
        rotate_left
        · rintro w' ⟨s0, s1, s2, s3⟩
          go_simp
          with_reducible rfl
        rotate_left
        · simp only [Act.put, List.setIfInBounds_toArray, List.set_cons_zero, List.set_cons_succ, i64_w, i32_w]
          rfl
        refine pure_ (i := 10) (N := some 39) (v := ?_) (a' := ?_) #[true, true, true, true, true, true, true, true, true, true, true, false, false] rfl rfl (any_of HT_.out (by kernel_rfl)) (fun _ _ _ h => h) (Or.inl ⟨by rfl, ?_⟩) ?_ ?_
        rotate_left
        · intro w'
          go_simp
          with_reducible rfl
        rotate_left
        · simp only [Act.put, List.setIfInBounds_toArray, List.set_cons_zero, List.set_cons_succ, i64_w, i32_w]
          rfl
        refine one_ (i := 11) (N := none) #[true, true, true, true, true, true, true, true, true, true, true, true, false] rfl rfl (one_of HT_.out (by kernel_rfl)) (by decide) (fun K hK => ?_)
        have hs23 : w22.cell? ⟨gb436, 0, none⟩ = some (.int .i64 0) := (blk_cell BK436.out 0).trans rfl
        have hfs23 := blk_frozen BK436.out 0
        have hns23_0 := NB435_436.out
        have hms23_0 := NB436_435.out
        have hs24 : w22.cell? ⟨gb436, 1, none⟩ = some (.int .i64 0) := (blk_cell BK436.out 1).trans rfl
        have hfs24 := blk_frozen BK436.out 1
        have hns24_0 := NB435_436.out
        have hms24_0 := NB436_435.out
        refine skip_ (w1 := ?_) (by rfl) rfl ?_ ?_
        rotate_left
        · go_simp
          rfl
        refine hK.out _ _ ⟨((cell_far (p := ⟨gb436, _, none⟩) NB435_436.out _).trans (((cell_far (p := ⟨gb436, _, none⟩) NB435_436.out _).trans (hHeld.1)))), ((cell_far (p := ⟨gb436, _, none⟩) NB435_436.out _).trans (((cell_far (p := ⟨gb436, _, none⟩) NB435_436.out _).trans (hHeld.2.1)))), ((cell_far (p := ⟨gb436, _, none⟩) (by first | exact Nat.ne_of_lt (Nat.lt_of_lt_of_le (by have := World.block_lt_of_cell? _ _ hw437_0; first | rwa [add_block] at this | exact this) GW436.out) | (rw [add_block]; exact Nat.ne_of_lt (Nat.lt_of_lt_of_le (by have := World.block_lt_of_cell? _ _ hw437_0; first | rwa [add_block] at this | exact this) GW436.out)) | (show (Addr.add _ _).block ≠ _; rw [add_block]; exact Nat.ne_of_lt (Nat.lt_of_lt_of_le (by have := World.block_lt_of_cell? _ _ hw437_0; first | rwa [add_block] at this | exact this) GW436.out)) | (dsimp only; exact Nat.ne_of_lt (Nat.lt_of_lt_of_le (by have := World.block_lt_of_cell? _ _ hw437_0; first | rwa [add_block] at this | exact this) GW436.out))) _).trans (((cell_far (p := ⟨gb436, _, none⟩) (by first | exact Nat.ne_of_lt (Nat.lt_of_lt_of_le (by have := World.block_lt_of_cell? _ _ hw437_0; first | rwa [add_block] at this | exact this) GW436.out) | (rw [add_block]; exact Nat.ne_of_lt (Nat.lt_of_lt_of_le (by have := World.block_lt_of_cell? _ _ hw437_0; first | rwa [add_block] at this | exact this) GW436.out)) | (show (Addr.add _ _).block ≠ _; rw [add_block]; exact Nat.ne_of_lt (Nat.lt_of_lt_of_le (by have := World.block_lt_of_cell? _ _ hw437_0; first | rwa [add_block] at this | exact this) GW436.out)) | (dsimp only; exact Nat.ne_of_lt (Nat.lt_of_lt_of_le (by have := World.block_lt_of_cell? _ _ hw437_0; first | rwa [add_block] at this | exact this) GW436.out))) _).trans (hHeld.2.2.1)))), ((cell_far (p := ⟨gb436, _, none⟩) (by first | exact Nat.ne_of_lt (Nat.lt_of_lt_of_le (by have := World.block_lt_of_cell? _ _ hw438_0; first | rwa [add_block] at this | exact this) GW436.out) | (rw [add_block]; exact Nat.ne_of_lt (Nat.lt_of_lt_of_le (by have := World.block_lt_of_cell? _ _ hw438_0; first | rwa [add_block] at this | exact this) GW436.out)) | (show (Addr.add _ _).block ≠ _; rw [add_block]; exact Nat.ne_of_lt (Nat.lt_of_lt_of_le (by have := World.block_lt_of_cell? _ _ hw438_0; first | rwa [add_block] at this | exact this) GW436.out)) | (dsimp only; exact Nat.ne_of_lt (Nat.lt_of_lt_of_le (by have := World.block_lt_of_cell? _ _ hw438_0; first | rwa [add_block] at this | exact this) GW436.out))) _).trans (((cell_far (p := ⟨gb436, _, none⟩) (by first | exact Nat.ne_of_lt (Nat.lt_of_lt_of_le (by have := World.block_lt_of_cell? _ _ hw438_0; first | rwa [add_block] at this | exact this) GW436.out) | (rw [add_block]; exact Nat.ne_of_lt (Nat.lt_of_lt_of_le (by have := World.block_lt_of_cell? _ _ hw438_0; first | rwa [add_block] at this | exact this) GW436.out)) | (show (Addr.add _ _).block ≠ _; rw [add_block]; exact Nat.ne_of_lt (Nat.lt_of_lt_of_le (by have := World.block_lt_of_cell? _ _ hw438_0; first | rwa [add_block] at this | exact this) GW436.out)) | (dsimp only; exact Nat.ne_of_lt (Nat.lt_of_lt_of_le (by have := World.block_lt_of_cell? _ _ hw438_0; first | rwa [add_block] at this | exact this) GW436.out))) _).trans (hHeld.2.2.2))))⟩ (fun hHeld => ?_)
        clear hK K
        refine pure_ (i := 12) (N := some 5) (v := ?_) (a' := ?_) #[true, true, true, true, true, true, true, true, true, true, true, true, true] rfl rfl (any_of HT_.out (by kernel_rfl)) (fun _ _ _ h => h) (Or.inl ⟨by rfl, ?_⟩) ?_ ?_
        rotate_left
        · intro w'
          go_simp
          with_reducible rfl
        rotate_left
        · simp only [Act.put, List.setIfInBounds_toArray, List.set_cons_zero, List.set_cons_succ, i64_w, i32_w]
          rfl
        refine done_ (done_of HT_.out (by kernel_rfl)) ?_
        try go_wp2
        refine bodyPost_ret (results_ct rfl _ _ gb436 39 #[.int .i64 (rd l0 a1_0), .int .i64 (rd l0 a1_0)] (0, 0) _ rfl (by (with_reducible repeat (first | refine blk_drewN ?_ _ | refine blk_drew ?_ | refine blk_alloc ?_ _)); refine blk_put (cs := #[.int .i64 (rd l0 a1_0), .int .i64 0]) ?_ 1 _ rfl; (with_reducible repeat (first | refine blk_drewN ?_ _ | refine blk_drew ?_ | refine blk_alloc ?_ _)); refine blk_put (cs := #[.int .i64 0, .int .i64 0]) ?_ 0 _ rfl; (with_reducible repeat (first | refine blk_drewN ?_ _ | refine blk_drew ?_ | refine blk_alloc ?_ _)); exact BK436.out) Try.underlying39 rfl (by kernel_rfl)) rfl ?_
        exact ⟨by first | rfl | (simp [errW_none, errW_some] <;> rfl) | (simp [*, errW_none, errW_some] <;> rfl), by repeat (first | (with_reducible first | exact HB.out | apply below_alloc | apply pw_below_drewN | apply below_drew1 | refine below_set ?_ GE435.out | refine below_set ?_ GE436.out) | exact HB.out)⟩
      rw [if_neg c17] at H
      have c17b0 : (a1_0 == a1_1) = false := beq_eq_false_iff_ne.mpr c17
      have c17b1 : (a1_0 != a1_1) = true := bne_iff_ne.mpr c17
      by_cases c25 : 0 ≤ a1_0
      rotate_left
      · rw [if_neg c25] at H
        exact absurd H (by simp)
      rw [if_pos c25] at H
      have c25b0 : decide (0 ≤ a1_0) = true := decide_eq_true c25
      clear c25
      by_cases c26 : a1_0 < (l0.length : Int)
      rotate_left
      · rw [if_neg c26] at H
        exact absurd H (by simp)
      rw [if_pos c26] at H
      have c26b0 : decide (a1_0 < (l0.length : Int)) = true := decide_eq_true c26
      clear c26
      obtain ⟨ji27, hji27⟩ : ∃ j_ : Int, (wrap64 (a1_1 - 1)) = j_ := ⟨_, rfl⟩
      replace H : (if 0 ≤ (ji27) then (if (ji27) < (l0.length : Int) then (some (rd l0 a1_0, wrap64 ((rd l0 (ji27)) + 1), true)) else (none)) else (none)) = some (r1, r2, r3) := by first | (rw [hji27] at H; exact H) | (simp only [hji27] at H ⊢; exact H)
      have hji27w : (IntKind.i64.wrap (a1_1 - 1)) = ji27 := (i64_w _).trans hji27
      by_cases c28 : 0 ≤ (ji27)
      rotate_left
      · rw [if_neg c28] at H
        exact absurd H (by simp)
      rw [if_pos c28] at H
      have c28b0 : decide (0 ≤ (ji27)) = true := decide_eq_true c28
      clear c28
      by_cases c29 : (ji27) < (l0.length : Int)
      rotate_left
      · rw [if_neg c29] at H
        exact absurd H (by simp)
      rw [if_pos c29] at H
      have c29b0 : decide ((ji27) < (l0.length : Int)) = true := decide_eq_true c29
      clear c29
      simp only [Option.some.injEq, Prod.mk.injEq] at H
      obtain ⟨rfl, rfl, rfl⟩ := H
      have hnb30 := NB435_436.out
      have hnc30 := NB436_435.out
      have hcz31_0 : wc.cell? ⟨gb435, 0, none⟩ = some (.int .i64 a1_0) := (blk_cell BK435.out 0).trans rfl
      have hcz31_1 : wc.cell? ⟨gb435, 1, none⟩ = some (.int .i64 a1_1) := (blk_cell BK435.out 1).trans rfl
      have hfz31_0 := blk_frozen BK435.out 0
      have hfz31_1 := blk_frozen BK435.out 1
      try go_wp2
      have n0_ := Aside0.mk (blk_drew BK435.out)
      have n1_ := Aside0.mk (blk_drew BK436.out)
      have n2_ := Aside0.mk (below_drew1 HB.out)
      clear BK435
      clear BK436
      clear HB
      have BK435 := n0_
      have BK436 := n1_
      have HB := n2_
      clear n0_ n1_ n2_
      have p439 : 0 ≤ (a1_0 : Int) := of_decide_eq_true (by first | (with_reducible assumption) | assumption)
      have q439 : a1_0 < (l0.length : Int) := of_decide_eq_true (by first | (with_reducible assumption) | assumption)
      obtain ⟨ad439, e439, hx439_0⟩ := Kd.at_int HR0.out a1_0 p439 q439
      have hw439_0 := hx439_0
      cases e439
      replace hx439_0 := (HB.out.cell (World.block_lt_of_cell? w _ hx439_0)).trans hx439_0
      replace p439 := eq_true p439
      replace q439 := eq_true q439
      have p440 : 0 ≤ ((ji27) : Int) := of_decide_eq_true (by first | (with_reducible assumption) | assumption)
      have q440 : (ji27) < (l0.length : Int) := of_decide_eq_true (by first | (with_reducible assumption) | assumption)
      obtain ⟨ad440, e440, hx440_0⟩ := Kd.at_int HR0.out (ji27) p440 q440
      have hw440_0 := hx440_0
      obtain rfl : ad439 = ad440 := (by injection e440)
      replace hx440_0 := (HB.out.cell (World.block_lt_of_cell? w _ hx440_0)).trans hx440_0
      replace p440 := eq_true p440
      replace q440 := eq_true q440
      refine start_ (n := 15) (S := fun w' => w'.cell? ⟨gb435, 0, none⟩ = some (.int .i64 a1_0) ∧ w'.cell? ⟨gb435, 1, none⟩ = some (.int .i64 a1_1) ∧ w'.cell? (ad439.add (a1_0).toNat) = some (.int .i64 (rd l0 a1_0)) ∧ w'.cell? (ad439.add ((ji27)).toNat) = some (.int .i64 (rd l0 (ji27)))) (ds := []) #[false, false, false, false, false, false, false, false, false, false, false, false, false, false, false] (by kernel_rfl) rfl rfl ⟨(blk_cell BK435.out 0).trans rfl, (blk_cell BK435.out 1).trans rfl, ((HB.out.cell (World.block_lt_of_cell? w _ hw439_0)).trans hw439_0), ((HB.out.cell (World.block_lt_of_cell? w _ hw440_0)).trans hw440_0)⟩ (fun hHeld => ?_); refine with_tabW ductusref23_Back.tab5 ductusref23_Back.bits5 (fun HT_ HW_ => ?_)
      generalize wc.drew = w32 at BK435 BK436 HB hx439_0 hx440_0 hHeld ⊢
      refine pure_ (i := 0) (N := some 40) (v := ?_) (a' := ?_) #[true, false, false, false, false, false, false, false, false, false, false, false, false, false, false] rfl rfl (any_of HT_.out (by kernel_rfl)) (fun _ _ _ h => h) (Or.inl ⟨by rfl, ?_⟩) ?_ ?_
      rotate_left
      · intro w'
        go_simp
        with_reducible rfl
      rotate_left
      · simp only [Act.put, List.setIfInBounds_toArray, List.set_cons_zero, List.set_cons_succ, i64_w, i32_w]
        rfl
      refine pure_ (i := 1) (N := some 41) (v := ?_) (a' := ?_) #[true, true, false, false, false, false, false, false, false, false, false, false, false, false, false] rfl rfl (any_of HT_.out (by kernel_rfl)) (fun _ _ _ h => h) (Or.inl ⟨by rfl, ?_⟩) ?_ ?_
      rotate_left
      · intro w'
        go_simp
        with_reducible rfl
      rotate_left
      · simp only [Act.put, List.setIfInBounds_toArray, List.set_cons_zero, List.set_cons_succ, i64_w, i32_w]
        rfl
      refine pure_ (i := 5) (N := some 45) (v := ?_) (a' := ?_) #[true, true, false, false, false, true, false, false, false, false, false, false, false, false, false] rfl rfl (any_of HT_.out (by kernel_rfl)) (fun _ _ _ h => h) (Or.inl ⟨by rfl, ?_⟩) ?_ ?_
      rotate_left
      · intro w'
        go_simp
        with_reducible rfl
      rotate_left
      · simp only [Act.put, List.setIfInBounds_toArray, List.set_cons_zero, List.set_cons_succ, i64_w, i32_w]
        rfl
      refine pure_ (i := 6) (N := some 46) (v := ?_) (a' := ?_) #[true, true, false, false, false, true, true, false, false, false, false, false, false, false, false] rfl rfl (any_of HT_.out (by kernel_rfl)) (fun _ _ _ h => h) (Or.inl ⟨by rfl, ?_⟩) ?_ ?_
      rotate_left
      · intro w'
        go_simp
        with_reducible rfl
      rotate_left
      · simp only [Act.put, List.setIfInBounds_toArray, List.set_cons_zero, List.set_cons_succ, i64_w, i32_w]
        rfl
      refine take_ (i := 2) (N := some 42) (v := ?_) (a' := ?_) #[true, true, true, false, false, true, true, false, false, false, false, false, false, false, false] rfl rfl (take_ofW HT_.out HW_.out (by kernel_rfl)) (fun _ _ _ h => h) (Or.inl ⟨by rfl, ?_⟩) hHeld ?_ ?_
      rotate_left
      · rintro w' ⟨s0, s1, s2, s3⟩
        go_simp
        with_reducible rfl
      rotate_left
      · simp only [Act.put, List.setIfInBounds_toArray, List.set_cons_zero, List.set_cons_succ, i64_w, i32_w]
        rfl
      refine pure_ (i := 3) (N := some 43) (v := ?_) (a' := ?_) #[true, true, true, true, false, true, true, false, false, false, false, false, false, false, false] rfl rfl (any_of HT_.out (by kernel_rfl)) (fun _ _ _ h => h) (Or.inl ⟨by rfl, ?_⟩) ?_ ?_
      rotate_left
      · intro w'
        go_simp
        with_reducible rfl
      rotate_left
      · simp only [Act.put, List.setIfInBounds_toArray, List.set_cons_zero, List.set_cons_succ, i64_w, i32_w]
        rfl
      refine take_ (i := 4) (N := some 44) (v := ?_) (a' := ?_) #[true, true, true, true, true, true, true, false, false, false, false, false, false, false, false] rfl rfl (take_ofW HT_.out HW_.out (by kernel_rfl)) (fun _ _ _ h => h) (Or.inl ⟨by rfl, ?_⟩) hHeld ?_ ?_
      rotate_left
      · rintro w' ⟨s0, s1, s2, s3⟩
        go_simp
        with_reducible rfl
      rotate_left
      · simp only [Act.put, List.setIfInBounds_toArray, List.set_cons_zero, List.set_cons_succ, i64_w, i32_w]
        rfl
      refine take_ (i := 7) (N := some 47) (v := ?_) (a' := ?_) #[true, true, true, true, true, true, true, true, false, false, false, false, false, false, false] rfl rfl (take_ofW HT_.out HW_.out (by kernel_rfl)) (fun _ _ _ h => h) (Or.inl ⟨by rfl, ?_⟩) hHeld ?_ ?_
      rotate_left
      · rintro w' ⟨s0, s1, s2, s3⟩
        go_simp
        with_reducible rfl
      rotate_left
      · simp only [Act.put, List.setIfInBounds_toArray, List.set_cons_zero, List.set_cons_succ, i64_w, i32_w]
        rfl
      refine pure_ (i := 8) (N := some 48) (v := ?_) (a' := ?_) #[true, true, true, true, true, true, true, true, true, false, false, false, false, false, false] rfl rfl (any_of HT_.out (by kernel_rfl)) (fun _ _ _ h => h) (Or.inl ⟨by rfl, ?_⟩) ?_ ?_
      rotate_left
      · intro w'
        go_simp
        with_reducible rfl
      rotate_left
      · simp only [Act.put, List.setIfInBounds_toArray, List.set_cons_zero, List.set_cons_succ, i64_w, i32_w]
        rfl
      refine pure_ (i := 9) (N := some 49) (v := ?_) (a' := ?_) #[true, true, true, true, true, true, true, true, true, true, false, false, false, false, false] rfl rfl (any_of HT_.out (by kernel_rfl)) (fun _ _ _ h => h) (Or.inl ⟨by rfl, ?_⟩) ?_ ?_
      rotate_left
      · intro w'
        go_simp
        with_reducible rfl
      rotate_left
      · simp only [Act.put, List.setIfInBounds_toArray, List.set_cons_zero, List.set_cons_succ, i64_w, i32_w]
        rfl
      refine take_ (i := 10) (N := some 50) (v := ?_) (a' := ?_) #[true, true, true, true, true, true, true, true, true, true, true, false, false, false, false] rfl rfl (take_ofW HT_.out HW_.out (by kernel_rfl)) (fun _ _ _ h => h) (Or.inl ⟨by rfl, ?_⟩) hHeld ?_ ?_
      rotate_left
      · rintro w' ⟨s0, s1, s2, s3⟩
        go_simp
        with_reducible rfl
      rotate_left
      · simp only [Act.put, List.setIfInBounds_toArray, List.set_cons_zero, List.set_cons_succ, i64_w, i32_w]
        rfl
      refine pure_ (i := 11) (N := some 51) (v := ?_) (a' := ?_) #[true, true, true, true, true, true, true, true, true, true, true, true, false, false, false] rfl rfl (any_of HT_.out (by kernel_rfl)) (fun _ _ _ h => h) (Or.inl ⟨by rfl, ?_⟩) ?_ ?_
      rotate_left
      · intro w'
        go_simp
        with_reducible rfl
      rotate_left
      · simp only [Act.put, List.setIfInBounds_toArray, List.set_cons_zero, List.set_cons_succ, i64_w, i32_w]
        rfl
      refine pure_ (i := 12) (N := some 52) (v := ?_) (a' := ?_) #[true, true, true, true, true, true, true, true, true, true, true, true, true, false, false] rfl rfl (any_of HT_.out (by kernel_rfl)) (fun _ _ _ h => h) (Or.inl ⟨by rfl, ?_⟩) ?_ ?_
      rotate_left
      · intro w'
        go_simp
        with_reducible rfl
      rotate_left
      · simp only [Act.put, List.setIfInBounds_toArray, List.set_cons_zero, List.set_cons_succ, i64_w, i32_w]
        rfl
      refine one_ (i := 13) (N := none) #[true, true, true, true, true, true, true, true, true, true, true, true, true, true, false] rfl rfl (one_of HT_.out (by kernel_rfl)) (by decide) (fun K hK => ?_)
      have hs33 : w32.cell? ⟨gb436, 0, none⟩ = some (.int .i64 0) := (blk_cell BK436.out 0).trans rfl
      have hfs33 := blk_frozen BK436.out 0
      have hns33_0 := NB435_436.out
      have hms33_0 := NB436_435.out
      have hs34 : w32.cell? ⟨gb436, 1, none⟩ = some (.int .i64 0) := (blk_cell BK436.out 1).trans rfl
      have hfs34 := blk_frozen BK436.out 1
      have hns34_0 := NB435_436.out
      have hms34_0 := NB436_435.out
      refine skip_ (w1 := ?_) (by rfl) rfl ?_ ?_
      rotate_left
      · go_simp
        rfl
      refine hK.out _ _ ⟨((cell_far (p := ⟨gb436, _, none⟩) NB435_436.out _).trans (((cell_far (p := ⟨gb436, _, none⟩) NB435_436.out _).trans (hHeld.1)))), ((cell_far (p := ⟨gb436, _, none⟩) NB435_436.out _).trans (((cell_far (p := ⟨gb436, _, none⟩) NB435_436.out _).trans (hHeld.2.1)))), ((cell_far (p := ⟨gb436, _, none⟩) (by first | exact Nat.ne_of_lt (Nat.lt_of_lt_of_le (by have := World.block_lt_of_cell? _ _ hw439_0; first | rwa [add_block] at this | exact this) GW436.out) | (rw [add_block]; exact Nat.ne_of_lt (Nat.lt_of_lt_of_le (by have := World.block_lt_of_cell? _ _ hw439_0; first | rwa [add_block] at this | exact this) GW436.out)) | (show (Addr.add _ _).block ≠ _; rw [add_block]; exact Nat.ne_of_lt (Nat.lt_of_lt_of_le (by have := World.block_lt_of_cell? _ _ hw439_0; first | rwa [add_block] at this | exact this) GW436.out)) | (dsimp only; exact Nat.ne_of_lt (Nat.lt_of_lt_of_le (by have := World.block_lt_of_cell? _ _ hw439_0; first | rwa [add_block] at this | exact this) GW436.out))) _).trans (((cell_far (p := ⟨gb436, _, none⟩) (by first | exact Nat.ne_of_lt (Nat.lt_of_lt_of_le (by have := World.block_lt_of_cell? _ _ hw439_0; first | rwa [add_block] at this | exact this) GW436.out) | (rw [add_block]; exact Nat.ne_of_lt (Nat.lt_of_lt_of_le (by have := World.block_lt_of_cell? _ _ hw439_0; first | rwa [add_block] at this | exact this) GW436.out)) | (show (Addr.add _ _).block ≠ _; rw [add_block]; exact Nat.ne_of_lt (Nat.lt_of_lt_of_le (by have := World.block_lt_of_cell? _ _ hw439_0; first | rwa [add_block] at this | exact this) GW436.out)) | (dsimp only; exact Nat.ne_of_lt (Nat.lt_of_lt_of_le (by have := World.block_lt_of_cell? _ _ hw439_0; first | rwa [add_block] at this | exact this) GW436.out))) _).trans (hHeld.2.2.1)))), ((cell_far (p := ⟨gb436, _, none⟩) (by first | exact Nat.ne_of_lt (Nat.lt_of_lt_of_le (by have := World.block_lt_of_cell? _ _ hw440_0; first | rwa [add_block] at this | exact this) GW436.out) | (rw [add_block]; exact Nat.ne_of_lt (Nat.lt_of_lt_of_le (by have := World.block_lt_of_cell? _ _ hw440_0; first | rwa [add_block] at this | exact this) GW436.out)) | (show (Addr.add _ _).block ≠ _; rw [add_block]; exact Nat.ne_of_lt (Nat.lt_of_lt_of_le (by have := World.block_lt_of_cell? _ _ hw440_0; first | rwa [add_block] at this | exact this) GW436.out)) | (dsimp only; exact Nat.ne_of_lt (Nat.lt_of_lt_of_le (by have := World.block_lt_of_cell? _ _ hw440_0; first | rwa [add_block] at this | exact this) GW436.out))) _).trans (((cell_far (p := ⟨gb436, _, none⟩) (by first | exact Nat.ne_of_lt (Nat.lt_of_lt_of_le (by have := World.block_lt_of_cell? _ _ hw440_0; first | rwa [add_block] at this | exact this) GW436.out) | (rw [add_block]; exact Nat.ne_of_lt (Nat.lt_of_lt_of_le (by have := World.block_lt_of_cell? _ _ hw440_0; first | rwa [add_block] at this | exact this) GW436.out)) | (show (Addr.add _ _).block ≠ _; rw [add_block]; exact Nat.ne_of_lt (Nat.lt_of_lt_of_le (by have := World.block_lt_of_cell? _ _ hw440_0; first | rwa [add_block] at this | exact this) GW436.out)) | (dsimp only; exact Nat.ne_of_lt (Nat.lt_of_lt_of_le (by have := World.block_lt_of_cell? _ _ hw440_0; first | rwa [add_block] at this | exact this) GW436.out))) _).trans (hHeld.2.2.2))))⟩ (fun hHeld => ?_)
      clear hK K
      refine pure_ (i := 14) (N := some 5) (v := ?_) (a' := ?_) #[true, true, true, true, true, true, true, true, true, true, true, true, true, true, true] rfl rfl (any_of HT_.out (by kernel_rfl)) (fun _ _ _ h => h) (Or.inl ⟨by rfl, ?_⟩) ?_ ?_
      rotate_left
      · intro w'
        go_simp
        with_reducible rfl
      rotate_left
      · simp only [Act.put, List.setIfInBounds_toArray, List.set_cons_zero, List.set_cons_succ, i64_w, i32_w]
        rfl
      refine done_ (done_of HT_.out (by kernel_rfl)) ?_
      try go_wp2
      refine bodyPost_ret (results_ct rfl _ _ gb436 39 #[.int .i64 (rd l0 a1_0), .int .i64 (wrap64 ((rd l0 (ji27)) + 1))] (0, 0) _ rfl (by (with_reducible repeat (first | refine blk_drewN ?_ _ | refine blk_drew ?_ | refine blk_alloc ?_ _)); refine blk_put (cs := #[.int .i64 (rd l0 a1_0), .int .i64 0]) ?_ 1 _ rfl; (with_reducible repeat (first | refine blk_drewN ?_ _ | refine blk_drew ?_ | refine blk_alloc ?_ _)); refine blk_put (cs := #[.int .i64 0, .int .i64 0]) ?_ 0 _ rfl; (with_reducible repeat (first | refine blk_drewN ?_ _ | refine blk_drew ?_ | refine blk_alloc ?_ _)); exact BK436.out) Try.underlying39 rfl (by kernel_rfl)) rfl ?_
      exact ⟨by first | rfl | (simp [errW_none, errW_some] <;> rfl) | (simp only [← hji27]; first | rfl | (simp [errW_none, errW_some] <;> rfl)) | (simp [*, errW_none, errW_some] <;> rfl), by repeat (first | (with_reducible first | exact HB.out | apply below_alloc | apply pw_below_drewN | apply below_drew1 | refine below_set ?_ GE435.out | refine below_set ?_ GE436.out) | exact HB.out)⟩

end Go.Proofs.Ythgmkbghdobmlaa.P
