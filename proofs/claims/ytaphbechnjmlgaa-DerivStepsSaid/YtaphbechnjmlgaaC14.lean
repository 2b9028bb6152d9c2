/- Texts of this claim put together by a program of its own (Px8, SDStepA), what the law does not use left out: each part's statements bear their own conditions. -/
import Derived.Test.YtaphbechnjmlgaaC12
import Derived.Test.YtaphbechnjmlgaaC13
namespace Go.Proofs.Ytaphbechnjmlgaa.P
open Go.RowKit Go.Proofs.YtaphbechnjmlgaaW.PrintWords Go.Proofs.YtaphbechnjmlgaaW.PrintLast Go.Proofs.YtaphbechnjmlgaaW.PrintMore
attribute [local go_sem] max2_int min2_int max_two min_two
set_option linter.unusedVariables false
set_option linter.unusedSimpArgs false

-- BY HAND: function 48 (deriv_fewer)

-- NOT PRINTED: function 38 (deriv_stepper_repeat)

-- NOT PRINTED: function 25 (deriv_stepper_step)

-- NOT PRINTED: function 36 (deriv_stepper_join)

mutual
def deriv_nodes.l0 : Nat → Int → List (S25) → Int → Int → Option (Int)
  | 0, _, _, _, _ => none
  | k + 1, x3, x7, x8, x9 => if x9 < x8 then (if 0 ≤ x9 then (if x9 < (x7.length : Int) then ((deriv_nodes.f k ((rd_T25 x7 x9).f0) ((rd_T25 x7 x9).f1) ((rd_T25 x7 x9).f2) ((rd_T25 x7 x9).f3) ((rd_T25 x7 x9).f4)).bind fun t156 => (deriv_nodes.l0 k (wrap64 (x3 + t156)) x7 x8 (wrap64 (x9 + 1)))) else (none)) else (none)) else (some x3)
def deriv_nodes.f : Nat → Int → List (S52) → Int → Int → List (S25) → Option (Int)
  | 0, _, _, _, _, _ => none
  | k + 1, a0_0, l0_1, a0_2, a0_3, l0_4 => deriv_nodes.l0 k 1 l0_4 (l0_4.length : Int) 0
end
set_option maxHeartbeats 8000000 in
set_option maxRecDepth 100000 in
theorem deriv_nodes.calls (k : Nat) : ∀ (a0_0 : Int) (A0_1 : Option Addr) (c0_1 : Nat) (l0_1 : List (S52)) (a0_2 : Int) (a0_3 : Int) (A0_4 : Option Addr) (c0_4 : Nat) (l0_4 : List (S25)) (r : Int) (w : World) (hr0_1 : Kd.C k52 w A0_1 l0_1.length l0_1) (hc0_1 : l0_1.length ≤ c0_1) (hr0_4 : Kd.C k25 w A0_4 l0_4.length l0_4) (hc0_4 : l0_4.length ≤ c0_4) (h : deriv_nodes.f k a0_0 l0_1 a0_2 a0_3 l0_4 = some r),
    Calls Try.prog 26 #[.agg #[.int .i64 a0_0, .slice A0_1 l0_1.length c0_1, .int .i64 a0_2, .int .i64 a0_3, .slice A0_4 l0_4.length c0_4]] w fun e w' => e = .returned (.int .i64 r) ∧ Below w.heap.size w w' := by
  induction k using Nat.strongRecOn with
  | _ k ih =>
  intro a0_0 A0_1 c0_1 l0_1 a0_2 a0_3 A0_4 c0_4 l0_4 r w hr0_1 hc0_1 hr0_4 hc0_4 h
  cases k with
  | zero => exact absurd h (by simp [deriv_nodes.f])
  | succ k =>
  simp only [deriv_nodes.f] at h
  have hu25 := Try.underlying25
  have HR0_1 := Aside0.mk hr0_1
  have HC0_1 := Aside0.mk hc0_1
  clear hr0_1 hc0_1
  have HR0_4 := Aside0.mk hr0_4
  have HC0_4 := Aside0.mk hc0_4
  clear hr0_4 hc0_4
  have HB := Aside0.mk (Below.refl w.heap.size w)
  have H : (deriv_nodes.l0 k 1 l0_4 (l0_4.length : Int) 0) = some r := h
  clear h
  have H' := Aside0.mk H
  clear H
  go_enter Try.func26, Try.ntmps26
  go_wp2_with (first | ((with_reducible refine gate_dst (N := 1) rfl ?_); refine box_event ?hg (N := 1) ?hd (cs := #[.int .i64 a0_0, .slice A0_1 l0_1.length c0_1, .int .i64 a0_2, .int .i64 a0_3, .slice A0_4 l0_4.length c0_4]) (t := 25) ?hr ?_; (case hd => rfl); (case hg => rfl); (case hr => first | (go_simp; done) | (go_simp; rfl)); intro gb153 hg w2 hbox hb; have n0_ := Aside0.mk (below_step (by repeat (first | (with_reducible first | exact HB.out | apply below_alloc | apply pw_below_drewN | apply below_drew1) | exact HB.out)) hb); have n1_ := Aside0.mk (hbox); have n2_ := Aside0.mk ((by rw [hg]; exact (below_size (by repeat (first | (with_reducible first | exact HB.out | apply below_alloc | apply pw_below_drewN | apply below_drew1) | exact HB.out))) : w.heap.size ≤ gb153)); have n3_ := Aside0.mk ((by rw [hg]; exact (below_size (by repeat (first | (with_reducible first | exact HB.out | apply below_alloc | apply pw_below_drewN | apply below_drew1) | exact HB.out))) : w.heap.size ≤ gb153)); clear HB; have HB := n0_; have BK153 := n1_; have GW153 := n2_; have GE153 := n3_; clear n0_ n1_ n2_ n3_; clear hb hbox hg; have hcz3_0 : w2.cell? ⟨gb153, 0, none⟩ = some (.int .i64 a0_0) := (blk_cell BK153.out 0).trans rfl; have hcz3_1 : w2.cell? ⟨gb153, 1, none⟩ = some (.slice A0_1 l0_1.length c0_1) := (blk_cell BK153.out 1).trans rfl; have hcz3_2 : w2.cell? ⟨gb153, 2, none⟩ = some (.int .i64 a0_2) := (blk_cell BK153.out 2).trans rfl; have hcz3_3 : w2.cell? ⟨gb153, 3, none⟩ = some (.int .i64 a0_3) := (blk_cell BK153.out 3).trans rfl; have hcz3_4 : w2.cell? ⟨gb153, 4, none⟩ = some (.slice A0_4 l0_4.length c0_4) := (blk_cell BK153.out 4).trans rfl; have hfz3_0 := blk_frozen BK153.out 0; have hfz3_1 := blk_frozen BK153.out 1; have hfz3_2 := blk_frozen BK153.out 2; have hfz3_3 := blk_frozen BK153.out 3; have hfz3_4 := blk_frozen BK153.out 4))
  go_loopg [3, 9] k (fun kq v3 v9 w' => ∃ (x3_1 : Int) (x9_1 : Int), v3 = .int .i64 x3_1 ∧ v9 = .int .i64 x9_1 ∧ Aside0 (deriv_nodes.l0 kq x3_1 l0_4 (l0_4.length : Int) x9_1 = some r) ∧ Aside0 (kq ≤ k) ∧ Aside0 (w'.heap[gb153]? = some (.cells #[.int .i64 a0_0, (.slice A0_1 l0_1.length c0_1), .int .i64 a0_2, .int .i64 a0_3, (.slice A0_4 l0_4.length c0_4)] 25 (0, 0))) ∧ Aside0 (Below w.heap.size w w'))
  case atStart => exact ⟨(1), (0), (by first | rfl | (simp; done) | (simp [*]; done)), (by first | rfl | (simp; done) | (simp [*]; done)), H', ⟨Nat.le_refl _⟩, ⟨by (with_reducible repeat (first | refine blk_drewN ?_ _ | refine blk_drew ?_ | refine blk_alloc ?_ _)); exact BK153.out⟩, ⟨by repeat (first | (with_reducible first | exact HB.out | apply below_alloc | apply pw_below_drewN | apply below_drew1 | refine below_set ?_ GE153.out) | exact HB.out)⟩⟩
  case round =>
    clear H'
    try clear c2
    try clear p2
    try clear hcz3_0
    try clear hcz3_1
    try clear hcz3_2
    try clear hcz3_3
    try clear hcz3_4
    try clear hfz3_0
    try clear hfz3_1
    try clear hfz3_2
    try clear hfz3_3
    try clear hfz3_4
    obtain ⟨x3_1, x9_1, rfl, rfl, HA, HK1, BK153, HB⟩ := hrel
    cases gk with
    | zero => exact absurd HA.out (by simp [deriv_nodes.l0])
    | succ k1 =>
      have H := HA.out
      clear HA
      simp only [deriv_nodes.l0] at H
      by_cases c4 : x9_1 < (l0_4.length : Int)
      rotate_left
      · rw [if_neg c4] at H
        have c4b0 : decide (x9_1 < (l0_4.length : Int)) = false := decide_eq_false c4
        clear c4
        obtain rfl := Option.some.inj H
        go_wp2
        go_ret
        exact ⟨by first | rfl | (simp [errW_none, errW_some] <;> rfl) | (simp [*, errW_none, errW_some] <;> rfl), by repeat (first | (with_reducible first | exact HB.out | apply below_alloc | apply pw_below_drewN | apply below_drew1 | refine below_set ?_ GE153.out) | exact HB.out)⟩
      rw [if_pos c4] at H
      have c4b0 : decide (x9_1 < (l0_4.length : Int)) = true := decide_eq_true c4
      clear c4
      by_cases c5 : 0 ≤ x9_1
      rotate_left
      · rw [if_neg c5] at H
        exact absurd H (by simp)
      rw [if_pos c5] at H
      have c5b0 : decide (0 ≤ x9_1) = true := decide_eq_true c5
      clear c5
      by_cases c6 : x9_1 < (l0_4.length : Int)
      rotate_left
      · rw [if_neg c6] at H
        exact absurd H (by simp)
      rw [if_pos c6] at H
      have c6b0 : decide (x9_1 < (l0_4.length : Int)) = true := decide_eq_true c6
      clear c6
      replace H := Option.bind_eq_some_iff.mp H
      obtain ⟨t156, A70, H⟩ := H
      replace H : (deriv_nodes.l0 k1 (wrap64 (x3_1 + t156)) l0_4 (l0_4.length : Int) (wrap64 (x9_1 + 1))) = some r := H
      have A7 := Aside0.mk A70
      clear A70
      have H' := Aside0.mk H
      clear H
      have p154 : 0 ≤ (x9_1 : Int) := of_decide_eq_true (by first | (with_reducible assumption) | assumption)
      have q154 : x9_1 < (l0_4.length : Int) := of_decide_eq_true (by first | (with_reducible assumption) | assumption)
      obtain ⟨ad154, A154_1, c154_1, A154_4, c154_4, e154, hx154_0, hx154_1, hx154_2, hx154_3, hx154_4, hl154_1, hi154_1, hl154_4, hi154_4⟩ := at_T25 HR0_4.out x9_1 p154 q154
      cases e154
      replace hx154_0 := (HB.out.cell (World.block_lt_of_cell? w _ hx154_0)).trans hx154_0
      replace hx154_1 := (HB.out.cell (World.block_lt_of_cell? w _ hx154_1)).trans hx154_1
      replace hx154_2 := (HB.out.cell (World.block_lt_of_cell? w _ hx154_2)).trans hx154_2
      replace hx154_3 := (HB.out.cell (World.block_lt_of_cell? w _ hx154_3)).trans hx154_3
      replace hx154_4 := (HB.out.cell (World.block_lt_of_cell? w _ hx154_4)).trans hx154_4
      have HR154_1 := Aside0.mk hi154_1
      have HC154_1 := Aside0.mk hl154_1
      clear hi154_1 hl154_1
      have HR154_4 := Aside0.mk hi154_4
      have HC154_4 := Aside0.mk hl154_4
      clear hi154_4 hl154_4
      replace p154 := eq_true p154
      replace q154 := eq_true q154
      go_wp2_with (first | ((with_reducible refine gate_dst (N := 5) rfl ?_); refine box_event ?hg (N := 5) ?hd (cs := #[.int .i64 0, .slice none 0 0, .int .i64 0, .int .i64 0, .slice none 0 0]) (t := 25) ?hr ?_; (case hd => rfl); (case hg => rfl); (case hr => first | (go_simp; done) | (go_simp; rfl)); intro gb155 hg w8 hbox hb; have n0_ := Aside0.mk (blk_below (g := gb153) (o := .cells #[.int .i64 a0_0, .slice A0_1 l0_1.length c0_1, .int .i64 a0_2, .int .i64 a0_3, .slice (some ad154) l0_4.length c0_4] 25 (0, 0)) (by (with_reducible repeat (first | refine blk_drewN ?_ _ | refine blk_drew ?_ | refine blk_alloc ?_ _)); exact BK153.out) hb); have n1_ := Aside0.mk (below_step (by repeat (first | (with_reducible first | exact HB.out | apply below_alloc | apply pw_below_drewN | apply below_drew1 | refine below_set ?_ GE153.out) | exact HB.out)) hb); have n2_ := Aside0.mk (hbox); have n3_ := Aside0.mk ((by rw [hg]; exact (below_size (by repeat (first | (with_reducible first | exact HB.out | apply below_alloc | apply pw_below_drewN | apply below_drew1 | refine below_set ?_ GE153.out) | exact HB.out))) : w.heap.size ≤ gb155)); have n4_ := Aside0.mk ((by rw [hg]; exact (below_size (by repeat (first | (with_reducible first | exact HB.out | apply below_alloc | apply pw_below_drewN | apply below_drew1 | refine below_set ?_ GE153.out) | exact HB.out))) : w.heap.size ≤ gb155)); have n5_ := Aside0.mk ((by rw [hg]; exact Nat.ne_of_lt (blk_lt (g := gb153) (o := .cells #[.int .i64 a0_0, .slice A0_1 l0_1.length c0_1, .int .i64 a0_2, .int .i64 a0_3, .slice (some ad154) l0_4.length c0_4] 25 (0, 0)) (by (with_reducible repeat (first | refine blk_drewN ?_ _ | refine blk_drew ?_ | refine blk_alloc ?_ _)); exact BK153.out)) : gb153 ≠ gb155)); have n6_ := Aside0.mk ((by rw [hg]; exact Nat.ne_of_gt (blk_lt (g := gb153) (o := .cells #[.int .i64 a0_0, .slice A0_1 l0_1.length c0_1, .int .i64 a0_2, .int .i64 a0_3, .slice (some ad154) l0_4.length c0_4] 25 (0, 0)) (by (with_reducible repeat (first | refine blk_drewN ?_ _ | refine blk_drew ?_ | refine blk_alloc ?_ _)); exact BK153.out)) : gb155 ≠ gb153)); clear BK153; clear HB; have BK153 := n0_; have HB := n1_; have BK155 := n2_; have GW155 := n3_; have GE155 := n4_; have NB153_155 := n5_; have NB155_153 := n6_; clear n0_ n1_ n2_ n3_ n4_ n5_ n6_; clear hb hbox hg; have hnb9 := NB155_153.out; have hnc9 := NB153_155.out; have hcz10_0 : w8.cell? ⟨gb155, 0, none⟩ = some (.int .i64 0) := (blk_cell BK155.out 0).trans rfl; have hcz10_1 : w8.cell? ⟨gb155, 1, none⟩ = some (.slice none 0 0) := (blk_cell BK155.out 1).trans rfl; have hcz10_2 : w8.cell? ⟨gb155, 2, none⟩ = some (.int .i64 0) := (blk_cell BK155.out 2).trans rfl; have hcz10_3 : w8.cell? ⟨gb155, 3, none⟩ = some (.int .i64 0) := (blk_cell BK155.out 3).trans rfl; have hcz10_4 : w8.cell? ⟨gb155, 4, none⟩ = some (.slice none 0 0) := (blk_cell BK155.out 4).trans rfl; have hfz10_0 := blk_frozen BK155.out 0; have hfz10_1 := blk_frozen BK155.out 1; have hfz10_2 := blk_frozen BK155.out 2; have hfz10_3 := blk_frozen BK155.out 3; have hfz10_4 := blk_frozen BK155.out 4) | ((with_reducible refine gate_callee (f := 26) rfl ?_); refine goesL_ (some 15) rfl rfl Try.func26 (by kernel_rfl) rfl #[.agg #[.int .i64 ((rd_T25 l0_4 x9_1).f0), .slice A154_1 ((rd_T25 l0_4 x9_1).f1).length c154_1, .int .i64 ((rd_T25 l0_4 x9_1).f2), .int .i64 ((rd_T25 l0_4 x9_1).f3), .slice A154_4 ((rd_T25 l0_4 x9_1).f4).length c154_4]] rfl (by (try simp only [List.map_toArray, List.map_cons, List.map_nil]); first | done | rfl | (simp only [List.length_drop, List.length_take]; rfl)) ?_; (with_reducible refine (ih k1 (by have := HK1.out; omega) ((rd_T25 l0_4 x9_1).f0) _ _ ((rd_T25 l0_4 x9_1).f1) ((rd_T25 l0_4 x9_1).f2) ((rd_T25 l0_4 x9_1).f3) _ _ ((rd_T25 l0_4 x9_1).f4) t156 _ ?side1 ?side2 ?side3 ?side4 A7.out).mono ?_); (case side1 => exact Kd.C_below HR154_1.out (by repeat (first | (with_reducible first | exact HB.out | apply below_alloc | apply pw_below_drewN | apply below_drew1 | refine below_set ?_ GE153.out | refine below_set ?_ GE155.out) | exact HB.out))); (case side2 => exact HC154_1.out); (case side3 => exact Kd.C_below HR154_4.out (by repeat (first | (with_reducible first | exact HB.out | apply below_alloc | apply pw_below_drewN | apply below_drew1 | refine below_set ?_ GE153.out | refine below_set ?_ GE155.out) | exact HB.out))); (case side4 => exact HC154_4.out); rintro e w11 ⟨rfl, hb⟩; refine ⟨_, rfl, ?_⟩; have n0_ := Aside0.mk (blk_below (g := gb153) (o := .cells #[.int .i64 a0_0, .slice A0_1 l0_1.length c0_1, .int .i64 a0_2, .int .i64 a0_3, .slice (some ad154) l0_4.length c0_4] 25 (0, 0)) (by (with_reducible repeat (first | refine blk_drewN ?_ _ | refine blk_drew ?_ | refine blk_alloc ?_ _)); refine blk_far ?_ NB153_155.out _; (with_reducible repeat (first | refine blk_drewN ?_ _ | refine blk_drew ?_ | refine blk_alloc ?_ _)); refine blk_far ?_ NB153_155.out _; (with_reducible repeat (first | refine blk_drewN ?_ _ | refine blk_drew ?_ | refine blk_alloc ?_ _)); refine blk_far ?_ NB153_155.out _; (with_reducible repeat (first | refine blk_drewN ?_ _ | refine blk_drew ?_ | refine blk_alloc ?_ _)); refine blk_far ?_ NB153_155.out _; (with_reducible repeat (first | refine blk_drewN ?_ _ | refine blk_drew ?_ | refine blk_alloc ?_ _)); refine blk_far ?_ NB153_155.out _; (with_reducible repeat (first | refine blk_drewN ?_ _ | refine blk_drew ?_ | refine blk_alloc ?_ _)); exact BK153.out) hb); have n1_ := Aside0.mk (blk_below (g := gb155) (o := .cells #[.int .i64 ((rd_T25 l0_4 x9_1).f0), .slice A154_1 ((rd_T25 l0_4 x9_1).f1).length c154_1, .int .i64 ((rd_T25 l0_4 x9_1).f2), .int .i64 ((rd_T25 l0_4 x9_1).f3), .slice A154_4 ((rd_T25 l0_4 x9_1).f4).length c154_4] 25 (0, 0)) (by (with_reducible repeat (first | refine blk_drewN ?_ _ | refine blk_drew ?_ | refine blk_alloc ?_ _)); refine blk_put (cs := #[.int .i64 ((rd_T25 l0_4 x9_1).f0), .slice A154_1 ((rd_T25 l0_4 x9_1).f1).length c154_1, .int .i64 ((rd_T25 l0_4 x9_1).f2), .int .i64 ((rd_T25 l0_4 x9_1).f3), .slice none 0 0]) ?_ 4 _ rfl; (with_reducible repeat (first | refine blk_drewN ?_ _ | refine blk_drew ?_ | refine blk_alloc ?_ _)); refine blk_put (cs := #[.int .i64 ((rd_T25 l0_4 x9_1).f0), .slice A154_1 ((rd_T25 l0_4 x9_1).f1).length c154_1, .int .i64 ((rd_T25 l0_4 x9_1).f2), .int .i64 0, .slice none 0 0]) ?_ 3 _ rfl; (with_reducible repeat (first | refine blk_drewN ?_ _ | refine blk_drew ?_ | refine blk_alloc ?_ _)); refine blk_put (cs := #[.int .i64 ((rd_T25 l0_4 x9_1).f0), .slice A154_1 ((rd_T25 l0_4 x9_1).f1).length c154_1, .int .i64 0, .int .i64 0, .slice none 0 0]) ?_ 2 _ rfl; (with_reducible repeat (first | refine blk_drewN ?_ _ | refine blk_drew ?_ | refine blk_alloc ?_ _)); refine blk_put (cs := #[.int .i64 ((rd_T25 l0_4 x9_1).f0), .slice none 0 0, .int .i64 0, .int .i64 0, .slice none 0 0]) ?_ 1 _ rfl; (with_reducible repeat (first | refine blk_drewN ?_ _ | refine blk_drew ?_ | refine blk_alloc ?_ _)); refine blk_put (cs := #[.int .i64 0, .slice none 0 0, .int .i64 0, .int .i64 0, .slice none 0 0]) ?_ 0 _ rfl; (with_reducible repeat (first | refine blk_drewN ?_ _ | refine blk_drew ?_ | refine blk_alloc ?_ _)); exact BK155.out) hb); have n2_ := Aside0.mk (below_step (by repeat (first | (with_reducible first | exact HB.out | apply below_alloc | apply pw_below_drewN | apply below_drew1 | refine below_set ?_ GE153.out | refine below_set ?_ GE155.out) | exact HB.out)) hb); clear BK153; clear BK155; clear HB; have BK153 := n0_; have BK155 := n1_; have HB := n2_; clear n0_ n1_ n2_; (try clear hb); (try clear hb2); (try clear hk); (try clear hi)))
      go_roundg k1
      case measure => have := HK1.out; omega
      case rel => exact ⟨(wrap64 (x3_1 + t156)), (wrap64 (x9_1 + 1)), (by first | rfl | (simp; done) | (simp [*]; done)), (by first | rfl | (simp; done) | (simp [*]; done)), H', ⟨by have := HK1.out; omega⟩, ⟨by (with_reducible repeat (first | refine blk_drewN ?_ _ | refine blk_drew ?_ | refine blk_alloc ?_ _)); exact BK153.out⟩, ⟨by repeat (first | (with_reducible first | exact HB.out | apply below_alloc | apply pw_below_drewN | apply below_drew1 | refine below_set ?_ GE153.out | refine below_set ?_ GE155.out) | exact HB.out)⟩⟩

end Go.Proofs.Ytaphbechnjmlgaa.P
namespace Go.Proofs.Ytaphbechnjmlgaa.P
open Go.RowKit Go.Proofs.YtaphbechnjmlgaaW.PrintWords Go.Proofs.YtaphbechnjmlgaaW.PrintLast Go.Proofs.YtaphbechnjmlgaaW.PrintMore
set_option linter.unusedVariables false
set_option linter.unusedSimpArgs false

theorem rep_of_step (k : Nat) (c : Int) (st : Bool) (n : Nat) (ih : StepN k c st n) : RepN k c st n := by
  intro P x v r w hN h1 h
  obtain ⟨A1, c1, A4, c4, rfl, l1, g1, l4, g4⟩ := hN
  obtain ⟨x0, x1, x2, x3, x4⟩ := x
  dsimp only at h1 g1 l1 g4 l4 h ⊢
  obtain ⟨y, rfl⟩ := List.length_eq_one_iff.mp h1
  obtain ⟨first, hf, h⟩ := Option.bind_eq_some_iff.mp h
  exact rep_step k c st n ih P x0 A1 c1 x1 x2 x3 A4 c4 y w r first l1 g1 l4 g4 hf h
theorem step_calls (k : Nat) (c : Int) (st : Bool) : ∀ n, StepN k c st n
  | 0 => fun P x v r w _ h => by simp [stepS] at h
  | n + 1 => fun P x v r w hN h => by
    obtain ⟨A1, c1, A4, c4, rfl, l1, g1, l4, g4⟩ := hN
    obtain ⟨x0, x1, x2, x3, x4⟩ := x
    exact step_step k c st n (step_calls k c st n) (join_of_step k c st n (step_calls k c st n)) (rep_of_step k c st n (step_calls k c st n)) P x0 A1 c1 x1 x2 x3 A4 c4 x4 w r l1 g1 l4 g4 h
/-- A tree behind a character: none where it is too great. -/
def stepT (k : Nat) (x : DNode) (c : Int) (st : Bool) : Option DNode := (stepS k c st k x).bind fun r => (deriv_nodes.f k r.f0 r.f1 r.f2 r.f3 r.f4).bind fun m => if m ≤ 2000 then some r else some ⟨0, [], 0, 0, []⟩
set_option maxHeartbeats 8000000 in
set_option maxRecDepth 100000 in
theorem stepT_calls (k : Nat) (c : Int) (st : Bool) (P : Nat → Prop) (x0 : Int) (A1 : Option Addr) (c1 : Nat) (x1 : List S52) (x2 x3 : Int) (A4 : Option Addr) (c4 : Nat) (x4 : List DNode) (w : World) (r9 : DNode)
    (l1 : x1.length ≤ c1) (q1 : Kd.F k52 w P A1 x1.length x1) (l4 : x4.length ≤ c4) (q4 : Kd.F k25 w P A4 x4.length x4) (h : stepT k ⟨x0, x1, x2, x3, x4⟩ c st = some r9) :
    Calls Try.prog 13 #[.agg #[.int .i64 x0, .slice A1 x1.length c1, .int .i64 x2, .int .i64 x3, .slice A4 x4.length c4], .int .i64 c, .bool st] w fun e w' => ∃ rv, e = .returned rv ∧ NodeF w' (fun k => P k ∨ w.heap.size ≤ k) r9 rv ∧ Below w.heap.size w w' := by
  have hu := Try.underlying25
  have hus := Try.underlying45
  obtain ⟨r, hr, h⟩ := Option.bind_eq_some_iff.mp h
  obtain ⟨m, hm, h⟩ := Option.bind_eq_some_iff.mp h
  have HF := Aside0.mk (show NodeF w (fun k => P k ∧ k < w.heap.size) ⟨x0, x1, x2, x3, x4⟩ (.agg #[.int .i64 x0, .slice A1 x1.length c1, .int .i64 x2, .int .i64 x3, .slice A4 x4.length c4]) from NodeF.bound ⟨A1, c1, A4, c4, rfl, l1, q1, l4, q4⟩)
  have HR0 := Aside0.mk hr
  have HM := Aside0.mk hm
  have HH := Aside0.mk h
  have HB := Aside0.mk (Below.refl w.heap.size w)
  clear h hr hm l1 q1 l4 q4
  go_enter Try.func13, Try.ntmps13
  go_upto_region 1 with (first
    | ((with_reducible refine gate_dst (N := 3) rfl ?_); (try (refine gate_guard (by rfl) ?_; dsimp only)); refine box_event ?hg (N := 3) ?hd (cs := #[.int .i64 x0, .slice A1 x1.length c1, .int .i64 x2, .int .i64 x3, .slice A4 x4.length c4]) (t := 25) ?hr ?_; (case hd => rfl); (case hg => rfl); (case hr => first | (go_simp; done) | (go_simp; rfl)); intro gx hg w1 hbox hb; have HGX := Aside0.mk (by rw [hg]; exact Nat.le_refl _ : w.heap.size ≤ gx); have HB1 := Aside0.mk (below_step HB.out hb); have HX1 := Aside0.mk hbox; clear hb hbox hg)
    | ((with_reducible refine gate_dst (N := 6) rfl ?_); (try (refine gate_guard (by rfl) ?_; dsimp only)); refine box_event ?hg (N := 6) ?hd (cs := #[.int .i64 0, .slice none 0 0, .int .i64 0, .int .i64 0, .slice none 0 0]) (t := 25) ?hr ?_; (case hd => rfl); (case hg => rfl); (case hr => first | (go_simp; done) | (go_simp; rfl)); intro gr hg w3 hbox hb; have HGR := Aside0.mk (by rw [hg]; exact HB1.out.size : w.heap.size ≤ gr); have HB3 := Aside0.mk (below_step HB1.out hb); have HX := Aside0.mk (blk_below HX1.out hb); have HR := Aside0.mk hbox; clear hb hbox hg))
  (try simp only [Act.put, List.setIfInBounds_toArray, List.set_cons_zero, List.set_cons_succ])
  have z0 := blk_cell HX.out 0
  have z1 := blk_cell HX.out 1
  have z2 := blk_cell HX.out 2
  have z3 := blk_cell HX.out 3
  have z4 := blk_cell HX.out 4
  have HC := Aside0.mk (step_calls k c st k (fun k => P k ∧ k < w.heap.size) ⟨x0, x1, x2, x3, x4⟩ (.agg #[.int .i64 x0, .slice A1 x1.length c1, .int .i64 x2, .int .i64 x3, .slice A4 x4.length c4]) r w3 (HF.out.below HB3.out) HR0.out)
  clear HB HB1 HX1
  go_upto_region 2 with (go_at_call 25; (with_reducible refine HC.out.mono ?_); rintro e_ w5 ⟨rv, rfl, hN, hb⟩; have HN5 := Aside0.mk hN; have HB5 := Aside0.mk (below_step HB3.out hb); have HG5 := Aside0.mk (blk_below HR.out hb); have HZ5 := Aside0.mk hb.size; obtain ⟨D1, d1, D4, d4, rfl, m1, r1, m4, r4⟩ := hN; clear m1 r1 m4 r4 hb)
  clear z0 z1 z2 z3 z4 HC
  have HWA := Aside0.mk (below_alloc (Below.refl w5.heap.size w5) (.cells #[.int .i64 r.f0, .slice D1 r.f1.length d1, .int .i64 r.f2, .int .i64 r.f3, .slice D4 r.f4.length d4] 25))
  have HG7 := Aside0.mk (heap_alloc_new w5 (.cells #[.int .i64 r.f0, .slice D1 r.f1.length d1, .int .i64 r.f2, .int .i64 r.f3, .slice D4 r.f4.length d4] 25))
  have HN7 := Aside0.mk (HN5.out.below HWA.out)
  have HB7 := Aside0.mk (below_step HB5.out HWA.out)
  have HR7 := Aside0.mk (blk_below HG5.out HWA.out)
  have HGL := Aside0.mk (blk_lt HR.out)
  clear HWA HN5 HB5 HG5
  generalize w5.alloc (.cells #[.int .i64 r.f0, .slice D1 r.f1.length d1, .int .i64 r.f2, .int .i64 r.f3, .slice D4 r.f4.length d4] 25) = W7 at HG7 HN7 HB7 HR7 ⊢
  generalize w5.heap.size = g7 at HG7 HZ5 ⊢
  have z0 := blk_cell HG7.out 0
  have z1 := blk_cell HG7.out 1
  have z2 := blk_cell HG7.out 2
  have z3 := blk_cell HG7.out 3
  have z4 := blk_cell HG7.out 4
  have HC := Aside0.mk (show Calls Try.prog 26 #[.agg #[.int .i64 r.f0, .slice D1 r.f1.length d1, .int .i64 r.f2, .int .i64 r.f3, .slice D4 r.f4.length d4]] W7 fun e w' => e = .returned (.int .i64 m) ∧ Below W7.heap.size W7 w' from by
    obtain ⟨B1, b1, B4, b4, e, q1, q2, q3, q4⟩ := HN7.out.now
    cases e
    exact deriv_nodes.calls k r.f0 _ _ r.f1 r.f2 r.f3 _ _ r.f4 m W7 q2 q1 q4 q3 HM.out)
  by_cases hm : m ≤ 2000
  · have h9 := HH.out
    rw [if_pos hm] at h9
    obtain rfl := Option.some.inj h9
    have p1 : decide (m ≤ 2000) = true := decide_eq_true hm
    clear h9 HH hm
    go_wp2_with (go_at_call 26; (with_reducible refine HC.out.mono ?_); rintro e_ w8 ⟨rfl, hb⟩; have HB8 := Aside0.mk (below_step HB7.out hb); have HGG := Aside0.mk (blk_below HR7.out hb); have HNF := Aside0.mk (NodeF.mono (P' := fun k => (P k ∨ w.heap.size ≤ k) ∧ k ≠ gr) (HN7.out.below hb) (fun k hk => ⟨by rcases hk with hk | hk; exact .inl hk.1; exact .inr (Nat.le_trans HB3.out.size hk), by have := HGR.out; have := HGL.out; rcases hk with hk | hk <;> (intro he; subst he; (try have := hk.2); omega)⟩)); have q0 := blk_cell (blk_below HG7.out hb) 0; have q1 := blk_cell (blk_below HG7.out hb) 1; have q2 := blk_cell (blk_below HG7.out hb) 2; have q3 := blk_cell (blk_below HG7.out hb) 3; have q4 := blk_cell (blk_below HG7.out hb) 4; have t0 := blk_cell HGG.out 0; have t1 := blk_cell HGG.out 1; have t2 := blk_cell HGG.out 2; have t3 := blk_cell HGG.out 3; have t4 := blk_cell HGG.out 4; have f0 := blk_frozen HGG.out 0; have f1 := blk_frozen HGG.out 1; have f2 := blk_frozen HGG.out 2; have f3 := blk_frozen HGG.out 3; have f4 := blk_frozen HGG.out 4; clear hb)
    refine bodyPost_ret (results_cell_row rfl _ _ gr 25 #[.int .i64 r.f0, .slice D1 r.f1.length d1, .int .i64 r.f2, .int .i64 r.f3, .slice D4 r.f4.length d4] (0, 0) _ rfl (blk_put (blk_put (blk_put (blk_put (blk_put HGG.out 0 _ rfl) 1 _ rfl) 2 _ rfl) 3 _ rfl) 4 _ rfl) Try.underlying25 rfl (by kernel_rfl)) rfl ?_
    exact ⟨_, rfl, (((((HNF.out.far (fun k hk => hk.2) _).far (fun k hk => hk.2) _).far (fun k hk => hk.2) _).far (fun k hk => hk.2) _).far (fun k hk => hk.2) _).mono (fun k hk => hk.1), below_set (below_set (below_set (below_set (below_set HB8.out HGR.out) HGR.out) HGR.out) HGR.out) HGR.out⟩
  · have h9 := HH.out
    rw [if_neg hm] at h9
    obtain rfl := Option.some.inj h9
    have p1 : decide (m ≤ 2000) = false := decide_eq_false hm
    clear h9 HH hm
    go_wp2_with (first
      | (go_at_call 26; (with_reducible refine HC.out.mono ?_); rintro e_ w8 ⟨rfl, hb⟩; have HB8 := Aside0.mk (below_step HB7.out hb); have HR8 := Aside0.mk (blk_below HR7.out hb); clear hb)
      | (go_at_call 27; (with_reducible refine (deriv_none.calls 0 [] 0 0 [] _ rfl).mono ?_); rintro e_ w9 ⟨v1, v4, rfl, hv1, hv4, hb⟩; obtain ⟨E1, e1, rfl⟩ := Kd.R_slice hv1; obtain ⟨E4, e4, rfl⟩ := Kd.R_slice hv4; have HB9 := Aside0.mk (below_step HB8.out hb); have HGG := Aside0.mk (blk_below HR8.out hb); have t0 := blk_cell HGG.out 0; have t1 := blk_cell HGG.out 1; have t2 := blk_cell HGG.out 2; have t3 := blk_cell HGG.out 3; have t4 := blk_cell HGG.out 4; have f0 := blk_frozen HGG.out 0; have f1 := blk_frozen HGG.out 1; have f2 := blk_frozen HGG.out 2; have f3 := blk_frozen HGG.out 3; have f4 := blk_frozen HGG.out 4; clear hv1 hv4 hb))
    refine bodyPost_ret (results_cell_row rfl _ _ gr 25 #[.int .i64 0, .slice E1 0 e1, .int .i64 0, .int .i64 0, .slice E4 0 e4] (0, 0) _ rfl (blk_put (blk_put (blk_put (blk_put (blk_put HGG.out 0 _ rfl) 1 _ rfl) 2 _ rfl) 3 _ rfl) 4 _ rfl) Try.underlying25 rfl (by kernel_rfl)) rfl ?_
    exact ⟨_, rfl, ⟨E1, e1, E4, e4, rfl, Nat.zero_le _, F_zero _, Nat.zero_le _, F_zero _⟩, below_set (below_set (below_set (below_set (below_set HB9.out HGR.out) HGR.out) HGR.out) HGR.out) HGR.out⟩
end Go.Proofs.Ytaphbechnjmlgaa.P
