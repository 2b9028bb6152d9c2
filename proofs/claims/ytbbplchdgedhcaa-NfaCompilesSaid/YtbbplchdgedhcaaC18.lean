/- Texts of this claim put together by a program of its own (Px11, PLib, PEv, PTree, PLay, PLayC, PLayR, PLet, Px12, PSameI, POpenN, PComp, PureNfaCompiles), what the law does not use left out: each part's statements bear their own conditions. -/
import Derived.Test.YtbbplchdgedhcaaC12
import Derived.Test.YtbbplchdgedhcaaC14
import Derived.Test.YtbbplchdgedhcaaC15
import Derived.Test.YtbbplchdgedhcaaC17
import Derived.Test.YtbbplchdgedhcaaC16
import Derived.Test.YtbbplchdgedhcaaC13
import Derived.OpenShut
import Derived.Deep.Slices
import Derived.ChangeSlices
import Derived.SizedLaws
namespace Go.Proofs.Ytbbplchdgedhcaa.P
open Go.RowKit Go.Proofs.YtbbplchdgedhcaaW.PrintWords Go.Proofs.YtbbplchdgedhcaaW.PrintLast Go.Proofs.YtbbplchdgedhcaaW.PrintMore
attribute [local go_sem] max2_int min2_int max_two min_two
set_option linter.unusedVariables false
set_option linter.unusedSimpArgs false

def ductuslaw19_NfaCompiles.j0 : Nat → Bool → Int → List (S42) → Int → Int → List (S25) → Option (Bool)
  | 0, _, _, _, _, _, _ => none
  | k + 1, x16, x229000, x229001, x229002, x229003, x229004 => if x16 = true then (some true) else ((nfa_Compile.f k x229000 x229001 x229002 x229003 x229004).bind fun bt232 => ((ductusref19_Compile.f k x229000 x229001 x229002 x229003 x229004).bind fun bt236 => ((ductusref19_Same.f k bt232.1 bt236.1).bind fun t240 => (if t240 = true then (some (bt232.2 == bt236.2)) else (none)))))
def ductuslaw19_NfaCompiles.f (k : Nat) (a0_0 : Int) (l0_1 : List (S42)) (a0_2 : Int) (a0_3 : Int) (l0_4 : List (S25)) : Option (Bool) := (ductuslaw19_alive.f).bind fun t229 => (if t229 = true then ((ductusref16_Weight.f k a0_0 l0_1 a0_2 a0_3 l0_4 0).bind fun t230 => (if t230 > 1000 then (ductuslaw19_NfaCompiles.j0 k true a0_0 l0_1 a0_2 a0_3 l0_4) else ((ductusref16_Size.f k a0_0 l0_1 a0_2 a0_3 l0_4).bind fun t231 => (ductuslaw19_NfaCompiles.j0 k (decide (t231 > 3000)) a0_0 l0_1 a0_2 a0_3 l0_4)))) else (none))
set_option maxHeartbeats 8000000 in
set_option maxRecDepth 100000 in
theorem ductuslaw19_NfaCompiles.calls (k : Nat) (a0_0 : Int) (A0_1 : Option Addr) (c0_1 : Nat) (l0_1 : List (S42)) (a0_2 : Int) (a0_3 : Int) (A0_4 : Option Addr) (c0_4 : Nat) (l0_4 : List (S25)) (r : Bool) (w : World) (hr0_1 : Kd.C k42 w A0_1 l0_1.length l0_1) (hc0_1 : l0_1.length ≤ c0_1) (hr0_4 : Kd.C k25 w A0_4 l0_4.length l0_4) (hc0_4 : l0_4.length ≤ c0_4) (h : ductuslaw19_NfaCompiles.f k a0_0 l0_1 a0_2 a0_3 l0_4 = some r) :
    Calls Try.prog 3 #[.agg #[.int .i64 a0_0, .slice A0_1 l0_1.length c0_1, .int .i64 a0_2, .int .i64 a0_3, .slice A0_4 l0_4.length c0_4]] w fun e w' => e = .returned (.bool r) ∧ Below w.heap.size w w' := by
  have hu25 := Try.underlying25
  have HR0_1 := Aside0.mk hr0_1
  have HC0_1 := Aside0.mk hc0_1
  clear hr0_1 hc0_1
  have HR0_4 := Aside0.mk hr0_4
  have HC0_4 := Aside0.mk hc0_4
  clear hr0_4 hc0_4
  have HB := Aside0.mk (Below.refl w.heap.size w)
  have H : ((ductuslaw19_alive.f).bind fun t229 => (if t229 = true then ((ductusref16_Weight.f k a0_0 l0_1 a0_2 a0_3 l0_4 0).bind fun t230 => (if t230 > 1000 then (ductuslaw19_NfaCompiles.j0 k true a0_0 l0_1 a0_2 a0_3 l0_4) else ((ductusref16_Size.f k a0_0 l0_1 a0_2 a0_3 l0_4).bind fun t231 => (ductuslaw19_NfaCompiles.j0 k (decide (t231 > 3000)) a0_0 l0_1 a0_2 a0_3 l0_4)))) else (none))) = some r := h
  clear h
  replace H := Option.bind_eq_some_iff.mp H
  obtain ⟨t229, A20, H⟩ := H
  replace H : (if t229 = true then ((ductusref16_Weight.f k a0_0 l0_1 a0_2 a0_3 l0_4 0).bind fun t230 => (if t230 > 1000 then (ductuslaw19_NfaCompiles.j0 k true a0_0 l0_1 a0_2 a0_3 l0_4) else ((ductusref16_Size.f k a0_0 l0_1 a0_2 a0_3 l0_4).bind fun t231 => (ductuslaw19_NfaCompiles.j0 k (decide (t231 > 3000)) a0_0 l0_1 a0_2 a0_3 l0_4)))) else (none)) = some r := H
  have A2 := Aside0.mk A20
  clear A20
  by_cases c3 : t229 = true
  rotate_left
  · replace c3 := Bool.eq_false_iff.mpr c3
    subst c3
    have H1 : (none) = some r := by rw [if_neg (show ¬ (false = true) by decide)] at H; exact H
    clear H
    have H := H1
    clear H1
    exact absurd H (by simp)
  subst c3
  have H1 : ((ductusref16_Weight.f k a0_0 l0_1 a0_2 a0_3 l0_4 0).bind fun t230 => (if t230 > 1000 then (ductuslaw19_NfaCompiles.j0 k true a0_0 l0_1 a0_2 a0_3 l0_4) else ((ductusref16_Size.f k a0_0 l0_1 a0_2 a0_3 l0_4).bind fun t231 => (ductuslaw19_NfaCompiles.j0 k (decide (t231 > 3000)) a0_0 l0_1 a0_2 a0_3 l0_4)))) = some r := by rw [if_pos rfl] at H; exact H
  clear H
  have H := H1
  clear H1
  have HC4 := Aside0.mk H
  clear H
  go_enter Try.func3, Try.ntmps3
  go_upto_region 3 with (first | ((with_reducible refine gate_dst (N := 1) rfl ?_); refine box_event ?hg (N := 1) ?hd (cs := #[.int .i64 a0_0, .slice A0_1 l0_1.length c0_1, .int .i64 a0_2, .int .i64 a0_3, .slice A0_4 l0_4.length c0_4]) (t := 25) ?hr ?_; (case hd => rfl); (case hg => rfl); (case hr => first | (go_simp; done) | (go_simp; rfl)); intro gb228 hg w5 hbox hb; have n0_ := Aside0.mk (below_step (by repeat (first | (with_reducible first | exact HB.out | apply below_alloc | apply pw_below_drewN | apply below_drew1) | exact HB.out)) hb); have n1_ := Aside0.mk (hbox); have n2_ := Aside0.mk ((by rw [hg]; exact (below_size (by repeat (first | (with_reducible first | exact HB.out | apply below_alloc | apply pw_below_drewN | apply below_drew1) | exact HB.out))) : w.heap.size ≤ gb228)); have n3_ := Aside0.mk ((by rw [hg]; exact (below_size (by repeat (first | (with_reducible first | exact HB.out | apply below_alloc | apply pw_below_drewN | apply below_drew1) | exact HB.out))) : w.heap.size ≤ gb228)); clear HB; have HB := n0_; have BK228 := n1_; have GW228 := n2_; have GE228 := n3_; clear n0_ n1_ n2_ n3_; clear hb hbox hg) | ((with_reducible refine gate_callee (f := 7) rfl ?_); refine goesL_ (some 7) rfl rfl Try.func7 (by kernel_rfl) rfl #[] rfl (by (try simp only [List.map_toArray, List.map_cons, List.map_nil]); first | done | rfl | (simp only [List.length_drop, List.length_take]; rfl)) ?_; (with_reducible refine (ductuslaw19_alive.calls  true _ A2.out).mono ?_); rintro e w6 ⟨rfl, hb⟩; refine ⟨_, rfl, ?_⟩; have n0_ := Aside0.mk (blk_below (g := gb228) (o := .cells #[.int .i64 a0_0, .slice A0_1 l0_1.length c0_1, .int .i64 a0_2, .int .i64 a0_3, .slice A0_4 l0_4.length c0_4] 25 (0, 0)) (by (with_reducible repeat (first | refine blk_drewN ?_ _ | refine blk_drew ?_ | refine blk_alloc ?_ _)); exact BK228.out) hb); have n1_ := Aside0.mk (below_step (by repeat (first | (with_reducible first | exact HB.out | apply below_alloc | apply pw_below_drewN | apply below_drew1 | refine below_set ?_ GE228.out) | exact HB.out)) hb); clear BK228; clear HB; have BK228 := n0_; have HB := n1_; clear n0_ n1_; (try clear hb); (try clear hb2); (try clear hk); (try clear hi)))
  (try simp only [Act.put, List.setIfInBounds_toArray, List.set_cons_zero, List.set_cons_succ])
  go_cut [16] (fun v16 wc => ∃ (kq : Nat) (x16_3 : Bool), v16 = .bool x16_3 ∧ Aside0 (ductuslaw19_NfaCompiles.j0 kq x16_3 a0_0 l0_1 a0_2 a0_3 l0_4 = some r) ∧ Aside0 (kq ≤ k) ∧ Aside0 (wc.heap[gb228]? = some (.cells #[.int .i64 a0_0, (.slice A0_1 l0_1.length c0_1), .int .i64 a0_2, .int .i64 a0_3, (.slice A0_4 l0_4.length c0_4)] 25 (0, 0))) ∧ Aside0 (Below w.heap.size w wc))
  case first =>
    have H := HC4.out
    clear HC4
    replace H := Option.bind_eq_some_iff.mp H
    obtain ⟨t230, A70, H⟩ := H
    replace H : (if t230 > 1000 then (ductuslaw19_NfaCompiles.j0 k true a0_0 l0_1 a0_2 a0_3 l0_4) else ((ductusref16_Size.f k a0_0 l0_1 a0_2 a0_3 l0_4).bind fun t231 => (ductuslaw19_NfaCompiles.j0 k (decide (t231 > 3000)) a0_0 l0_1 a0_2 a0_3 l0_4))) = some r := H
    have A7 := Aside0.mk A70
    clear A70
    by_cases c8 : t230 > 1000
    · rw [if_pos c8] at H
      have c8b0 : decide (1000 < t230) = true := decide_eq_true c8
      clear c8
      (first | rw [c8b0] | (simp only [i64_w, i32_w]; rw [c8b0]) | skip)
      have H' := Aside0.mk H
      clear H
      have hcz9_0 : w6.cell? ⟨gb228, 0, none⟩ = some (.int .i64 a0_0) := (blk_cell BK228.out 0).trans rfl
      have hcz9_1 : w6.cell? ⟨gb228, 1, none⟩ = some (.slice A0_1 l0_1.length c0_1) := (blk_cell BK228.out 1).trans rfl
      have hcz9_2 : w6.cell? ⟨gb228, 2, none⟩ = some (.int .i64 a0_2) := (blk_cell BK228.out 2).trans rfl
      have hcz9_3 : w6.cell? ⟨gb228, 3, none⟩ = some (.int .i64 a0_3) := (blk_cell BK228.out 3).trans rfl
      have hcz9_4 : w6.cell? ⟨gb228, 4, none⟩ = some (.slice A0_4 l0_4.length c0_4) := (blk_cell BK228.out 4).trans rfl
      have hfz9_0 := blk_frozen BK228.out 0
      have hfz9_1 := blk_frozen BK228.out 1
      have hfz9_2 := blk_frozen BK228.out 2
      have hfz9_3 := blk_frozen BK228.out 3
      have hfz9_4 := blk_frozen BK228.out 4
      go_wp2_with (first | ((with_reducible refine gate_callee (f := 8) rfl ?_); refine goesL_ (some 10) rfl rfl Try.func8 (by kernel_rfl) rfl #[.agg #[.int .i64 a0_0, .slice A0_1 l0_1.length c0_1, .int .i64 a0_2, .int .i64 a0_3, .slice A0_4 l0_4.length c0_4], .int .i64 0] rfl (by (try simp only [List.map_toArray, List.map_cons, List.map_nil]); first | done | rfl | (simp only [List.length_drop, List.length_take]; rfl)) ?_; (with_reducible refine (ductusref16_Weight.calls k a0_0 _ _ l0_1 a0_2 a0_3 _ _ l0_4 0 t230 _ ?side1 ?side2 ?side3 ?side4 A7.out).mono ?_); (case side1 => repeat (first | exact (Kd.C_below HR0_1.out HB.out) | (with_reducible refine Kd.C_alloc ?_ _) | (with_reducible refine Kd.C_drewN ?_ _) | (with_reducible refine Kd.C_drew ?_))); (case side2 => exact HC0_1.out); (case side3 => repeat (first | exact (Kd.C_below HR0_4.out HB.out) | (with_reducible refine Kd.C_alloc ?_ _) | (with_reducible refine Kd.C_drewN ?_ _) | (with_reducible refine Kd.C_drew ?_))); (case side4 => exact HC0_4.out); rintro e w10 ⟨rfl, hb⟩; refine ⟨_, rfl, ?_⟩; have n0_ := Aside0.mk (blk_below (g := gb228) (o := .cells #[.int .i64 a0_0, .slice A0_1 l0_1.length c0_1, .int .i64 a0_2, .int .i64 a0_3, .slice A0_4 l0_4.length c0_4] 25 (0, 0)) (by (with_reducible repeat (first | refine blk_drewN ?_ _ | refine blk_drew ?_ | refine blk_alloc ?_ _)); exact BK228.out) hb); have n1_ := Aside0.mk (below_step (by repeat (first | (with_reducible first | exact HB.out | apply below_alloc | apply pw_below_drewN | apply below_drew1 | refine below_set ?_ GE228.out) | exact HB.out)) hb); clear BK228; clear HB; have BK228 := n0_; have HB := n1_; clear n0_ n1_; (try clear hb); (try clear hb2); (try clear hk); (try clear hi)))
      go_meet
      case rel => exact ⟨_, (true), (by first | rfl | (simp; done) | (simp [*]; done)), H', ⟨by first | omega | exact Nat.le_refl _⟩, ⟨by (with_reducible repeat (first | refine blk_drewN ?_ _ | refine blk_drew ?_ | refine blk_alloc ?_ _)); exact BK228.out⟩, ⟨by repeat (first | (with_reducible first | exact HB.out | apply below_alloc | apply pw_below_drewN | apply below_drew1 | refine below_set ?_ GE228.out) | exact HB.out)⟩⟩
    rw [if_neg c8] at H
    have c8b0 : decide (1000 < t230) = false := decide_eq_false c8
    clear c8
    (first | rw [c8b0] | (simp only [i64_w, i32_w]; rw [c8b0]) | skip)
    replace H := Option.bind_eq_some_iff.mp H
    obtain ⟨t231, A110, H⟩ := H
    replace H : (ductuslaw19_NfaCompiles.j0 k (decide (t231 > 3000)) a0_0 l0_1 a0_2 a0_3 l0_4) = some r := H
    have A11 := Aside0.mk A110
    clear A110
    have H' := Aside0.mk H
    clear H
    have hcz12_0 : w6.cell? ⟨gb228, 0, none⟩ = some (.int .i64 a0_0) := (blk_cell BK228.out 0).trans rfl
    have hcz12_1 : w6.cell? ⟨gb228, 1, none⟩ = some (.slice A0_1 l0_1.length c0_1) := (blk_cell BK228.out 1).trans rfl
    have hcz12_2 : w6.cell? ⟨gb228, 2, none⟩ = some (.int .i64 a0_2) := (blk_cell BK228.out 2).trans rfl
    have hcz12_3 : w6.cell? ⟨gb228, 3, none⟩ = some (.int .i64 a0_3) := (blk_cell BK228.out 3).trans rfl
    have hcz12_4 : w6.cell? ⟨gb228, 4, none⟩ = some (.slice A0_4 l0_4.length c0_4) := (blk_cell BK228.out 4).trans rfl
    have hfz12_0 := blk_frozen BK228.out 0
    have hfz12_1 := blk_frozen BK228.out 1
    have hfz12_2 := blk_frozen BK228.out 2
    have hfz12_3 := blk_frozen BK228.out 3
    have hfz12_4 := blk_frozen BK228.out 4
    go_wp2_with (first | ((with_reducible refine gate_callee (f := 8) rfl ?_); refine goesL_ (some 10) rfl rfl Try.func8 (by kernel_rfl) rfl #[.agg #[.int .i64 a0_0, .slice A0_1 l0_1.length c0_1, .int .i64 a0_2, .int .i64 a0_3, .slice A0_4 l0_4.length c0_4], .int .i64 0] rfl (by (try simp only [List.map_toArray, List.map_cons, List.map_nil]); first | done | rfl | (simp only [List.length_drop, List.length_take]; rfl)) ?_; (with_reducible refine (ductusref16_Weight.calls k a0_0 _ _ l0_1 a0_2 a0_3 _ _ l0_4 0 t230 _ ?side1 ?side2 ?side3 ?side4 A7.out).mono ?_); (case side1 => repeat (first | exact (Kd.C_below HR0_1.out HB.out) | (with_reducible refine Kd.C_alloc ?_ _) | (with_reducible refine Kd.C_drewN ?_ _) | (with_reducible refine Kd.C_drew ?_))); (case side2 => exact HC0_1.out); (case side3 => repeat (first | exact (Kd.C_below HR0_4.out HB.out) | (with_reducible refine Kd.C_alloc ?_ _) | (with_reducible refine Kd.C_drewN ?_ _) | (with_reducible refine Kd.C_drew ?_))); (case side4 => exact HC0_4.out); rintro e w13 ⟨rfl, hb⟩; refine ⟨_, rfl, ?_⟩; have n0_ := Aside0.mk (blk_below (g := gb228) (o := .cells #[.int .i64 a0_0, .slice A0_1 l0_1.length c0_1, .int .i64 a0_2, .int .i64 a0_3, .slice A0_4 l0_4.length c0_4] 25 (0, 0)) (by (with_reducible repeat (first | refine blk_drewN ?_ _ | refine blk_drew ?_ | refine blk_alloc ?_ _)); exact BK228.out) hb); have n1_ := Aside0.mk (below_step (by repeat (first | (with_reducible first | exact HB.out | apply below_alloc | apply pw_below_drewN | apply below_drew1 | refine below_set ?_ GE228.out) | exact HB.out)) hb); clear BK228; clear HB; have BK228 := n0_; have HB := n1_; clear n0_ n1_; (try clear hb); (try clear hb2); (try clear hk); (try clear hi); have hcz14_0 : w13.cell? ⟨gb228, 0, none⟩ = some (.int .i64 a0_0) := (blk_cell BK228.out 0).trans rfl; have hcz14_1 : w13.cell? ⟨gb228, 1, none⟩ = some (.slice A0_1 l0_1.length c0_1) := (blk_cell BK228.out 1).trans rfl; have hcz14_2 : w13.cell? ⟨gb228, 2, none⟩ = some (.int .i64 a0_2) := (blk_cell BK228.out 2).trans rfl; have hcz14_3 : w13.cell? ⟨gb228, 3, none⟩ = some (.int .i64 a0_3) := (blk_cell BK228.out 3).trans rfl; have hcz14_4 : w13.cell? ⟨gb228, 4, none⟩ = some (.slice A0_4 l0_4.length c0_4) := (blk_cell BK228.out 4).trans rfl; have hfz14_0 := blk_frozen BK228.out 0; have hfz14_1 := blk_frozen BK228.out 1; have hfz14_2 := blk_frozen BK228.out 2; have hfz14_3 := blk_frozen BK228.out 3; have hfz14_4 := blk_frozen BK228.out 4) | (go_at_call 9; (with_reducible refine (ductusref16_Size.calls k a0_0 _ _ l0_1 a0_2 a0_3 _ _ l0_4 t231 _ ?side1 ?side2 ?side3 ?side4 A11.out).mono ?_); (case side1 => repeat (first | exact (Kd.C_below HR0_1.out HB.out) | (with_reducible refine Kd.C_alloc ?_ _) | (with_reducible refine Kd.C_drewN ?_ _) | (with_reducible refine Kd.C_drew ?_))); (case side2 => exact HC0_1.out); (case side3 => repeat (first | exact (Kd.C_below HR0_4.out HB.out) | (with_reducible refine Kd.C_alloc ?_ _) | (with_reducible refine Kd.C_drewN ?_ _) | (with_reducible refine Kd.C_drew ?_))); (case side4 => exact HC0_4.out); rintro e w15 ⟨rfl, hb⟩; have n0_ := Aside0.mk (blk_below (g := gb228) (o := .cells #[.int .i64 a0_0, .slice A0_1 l0_1.length c0_1, .int .i64 a0_2, .int .i64 a0_3, .slice A0_4 l0_4.length c0_4] 25 (0, 0)) (by (with_reducible repeat (first | refine blk_drewN ?_ _ | refine blk_drew ?_ | refine blk_alloc ?_ _)); exact BK228.out) hb); have n1_ := Aside0.mk (below_step (by repeat (first | (with_reducible first | exact HB.out | apply below_alloc | apply pw_below_drewN | apply below_drew1 | refine below_set ?_ GE228.out) | exact HB.out)) hb); clear BK228; clear HB; have BK228 := n0_; have HB := n1_; clear n0_ n1_; (try clear hb); (try clear hb2); (try clear hk); (try clear hi)))
    go_meet
    case rel => exact ⟨_, (decide (t231 > 3000)), (by first | rfl | (simp; done) | (simp [*]; done)), H', ⟨by first | omega | exact Nat.le_refl _⟩, ⟨by (with_reducible repeat (first | refine blk_drewN ?_ _ | refine blk_drew ?_ | refine blk_alloc ?_ _)); exact BK228.out⟩, ⟨by repeat (first | (with_reducible first | exact HB.out | apply below_alloc | apply pw_below_drewN | apply below_drew1 | refine below_set ?_ GE228.out) | exact HB.out)⟩⟩
  case rest =>
    clear HC4
    try clear p2
    try clear c3
    try clear c7
    try clear c8
    try clear c8b0
    try clear hcz12_0
    try clear hcz12_1
    try clear hcz12_2
    try clear hcz12_3
    try clear hcz12_4
    try clear hcz14_0
    try clear hcz14_1
    try clear hcz14_2
    try clear hcz14_3
    try clear hcz14_4
    try clear hcz9_0
    try clear hcz9_1
    try clear hcz9_2
    try clear hcz9_3
    try clear hcz9_4
    try clear hfz12_0
    try clear hfz12_1
    try clear hfz12_2
    try clear hfz12_3
    try clear hfz12_4
    try clear hfz14_0
    try clear hfz14_1
    try clear hfz14_2
    try clear hfz14_3
    try clear hfz14_4
    try clear hfz9_0
    try clear hfz9_1
    try clear hfz9_2
    try clear hfz9_3
    try clear hfz9_4
    obtain ⟨kq, x16_3, rfl, HA, HJ3, BK228, HB⟩ := hcut
    cases kq with
    | zero => exact absurd HA.out (by simp [ductuslaw19_NfaCompiles.j0])
    | succ kj3 =>
      have H := HA.out
      clear HA
      simp only [ductuslaw19_NfaCompiles.j0] at H
      by_cases c16 : x16_3 = true
      · subst c16
        have H1 : (some true) = some r := by rw [if_pos rfl] at H; exact H
        clear H
        have H := H1
        clear H1
        obtain rfl := Option.some.inj H
        go_wp2
        go_ret
        exact ⟨by first | rfl | (simp [errW_none, errW_some] <;> rfl) | (simp [*, errW_none, errW_some] <;> rfl), by repeat (first | (with_reducible first | exact HB.out | apply below_alloc | apply pw_below_drewN | apply below_drew1 | refine below_set ?_ GE228.out) | exact HB.out)⟩
      replace c16 := Bool.eq_false_iff.mpr c16
      subst c16
      have H1 : ((nfa_Compile.f kj3 a0_0 l0_1 a0_2 a0_3 l0_4).bind fun bt232 => ((ductusref19_Compile.f kj3 a0_0 l0_1 a0_2 a0_3 l0_4).bind fun bt236 => ((ductusref19_Same.f kj3 bt232.1 bt236.1).bind fun t240 => (if t240 = true then (some (bt232.2 == bt236.2)) else (none))))) = some r := by rw [if_neg (show ¬ (false = true) by decide)] at H; exact H
      clear H
      have H := H1
      clear H1
      replace H := Option.bind_eq_some_iff.mp H
      obtain ⟨⟨t232, t235⟩, A170, H⟩ := H
      replace H : ((ductusref19_Compile.f kj3 a0_0 l0_1 a0_2 a0_3 l0_4).bind fun bt236 => ((ductusref19_Same.f kj3 t232 bt236.1).bind fun t240 => (if t240 = true then (some (t235 == bt236.2)) else (none)))) = some r := H
      have A17 := Aside0.mk A170
      clear A170
      replace H := Option.bind_eq_some_iff.mp H
      obtain ⟨⟨t236, t239⟩, A180, H⟩ := H
      replace H : ((ductusref19_Same.f kj3 t232 t236).bind fun t240 => (if t240 = true then (some (t235 == t239)) else (none))) = some r := H
      have A18 := Aside0.mk A180
      clear A180
      replace H := Option.bind_eq_some_iff.mp H
      obtain ⟨t240, A190, H⟩ := H
      replace H : (if t240 = true then (some (t235 == t239)) else (none)) = some r := H
      have A19 := Aside0.mk A190
      clear A190
      by_cases c20 : t240 = true
      rotate_left
      · replace c20 := Bool.eq_false_iff.mpr c20
        subst c20
        have H1 : (none) = some r := by rw [if_neg (show ¬ (false = true) by decide)] at H; exact H
        clear H
        have H := H1
        clear H1
        exact absurd H (by simp)
      subst c20
      have H1 : (some (t235 == t239)) = some r := by rw [if_pos rfl] at H; exact H
      clear H
      have H := H1
      clear H1
      obtain rfl := Option.some.inj H
      have hcz21_0 : wc.cell? ⟨gb228, 0, none⟩ = some (.int .i64 a0_0) := (blk_cell BK228.out 0).trans rfl
      have hcz21_1 : wc.cell? ⟨gb228, 1, none⟩ = some (.slice A0_1 l0_1.length c0_1) := (blk_cell BK228.out 1).trans rfl
      have hcz21_2 : wc.cell? ⟨gb228, 2, none⟩ = some (.int .i64 a0_2) := (blk_cell BK228.out 2).trans rfl
      have hcz21_3 : wc.cell? ⟨gb228, 3, none⟩ = some (.int .i64 a0_3) := (blk_cell BK228.out 3).trans rfl
      have hcz21_4 : wc.cell? ⟨gb228, 4, none⟩ = some (.slice A0_4 l0_4.length c0_4) := (blk_cell BK228.out 4).trans rfl
      have hfz21_0 := blk_frozen BK228.out 0
      have hfz21_1 := blk_frozen BK228.out 1
      have hfz21_2 := blk_frozen BK228.out 2
      have hfz21_3 := blk_frozen BK228.out 3
      have hfz21_4 := blk_frozen BK228.out 4
      go_wp2_with (first | ((with_reducible refine gate_callee (f := 10) rfl ?_); refine goesL_ (some 19) rfl rfl Try.func10 (by kernel_rfl) rfl #[.agg #[.int .i64 a0_0, .slice A0_1 l0_1.length c0_1, .int .i64 a0_2, .int .i64 a0_3, .slice A0_4 l0_4.length c0_4]] rfl (by (try simp only [List.map_toArray, List.map_cons, List.map_nil]); first | done | rfl | (simp only [List.length_drop, List.length_take]; rfl)) ?_; (with_reducible refine (nfa_Compile.calls kj3 a0_0 _ _ l0_1 a0_2 a0_3 _ _ l0_4 t232 t235 _ ?side1 ?side2 ?side3 ?side4 A17.out).mono ?_); (case side1 => repeat (first | exact (Kd.C_below HR0_1.out HB.out) | (with_reducible refine Kd.C_alloc ?_ _) | (with_reducible refine Kd.C_drewN ?_ _) | (with_reducible refine Kd.C_drew ?_))); (case side2 => exact HC0_1.out); (case side3 => repeat (first | exact (Kd.C_below HR0_4.out HB.out) | (with_reducible refine Kd.C_alloc ?_ _) | (with_reducible refine Kd.C_drewN ?_ _) | (with_reducible refine Kd.C_drew ?_))); (case side4 => exact HC0_4.out); rintro e w22 ⟨v233, rfl, ho0, hb⟩; refine ⟨_, rfl, ?_⟩; have n0_ := Aside0.mk (Kd.N_lower (Kd.N_mono (ok' := fun k_ => k_ ≠ gb228) (Kd.R_N (Kd.R_bound ho0)) (fun k_ hk_ => (Kd.freshB (g := gb228) (o := .cells #[.int .i64 a0_0, .slice A0_1 l0_1.length c0_1, .int .i64 a0_2, .int .i64 a0_3, .slice A0_4 l0_4.length c0_4] 25 (0, 0)) (by (with_reducible repeat (first | refine blk_drewN ?_ _ | refine blk_drew ?_ | refine blk_alloc ?_ _)); exact BK228.out) k_ hk_.2.1))) (below_size (by repeat (first | (with_reducible first | exact HB.out | apply below_alloc | apply pw_below_drewN | apply below_drew1 | refine below_set ?_ GE228.out) | exact HB.out)))); have n1_ := Aside0.mk (blk_below (g := gb228) (o := .cells #[.int .i64 a0_0, .slice A0_1 l0_1.length c0_1, .int .i64 a0_2, .int .i64 a0_3, .slice A0_4 l0_4.length c0_4] 25 (0, 0)) (by (with_reducible repeat (first | refine blk_drewN ?_ _ | refine blk_drew ?_ | refine blk_alloc ?_ _)); exact BK228.out) hb); have n2_ := Aside0.mk (below_step (by repeat (first | (with_reducible first | exact HB.out | apply below_alloc | apply pw_below_drewN | apply below_drew1 | refine below_set ?_ GE228.out) | exact HB.out)) hb); clear BK228; clear HB; have HO234 := n0_; have BK228 := n1_; have HB := n2_; clear n0_ n1_ n2_; (try clear hb); (try clear hb2); (try clear hk); (try clear hi); (try clear ho0); have hcz23_0 : w22.cell? ⟨gb228, 0, none⟩ = some (.int .i64 a0_0) := (blk_cell BK228.out 0).trans rfl; have hcz23_1 : w22.cell? ⟨gb228, 1, none⟩ = some (.slice A0_1 l0_1.length c0_1) := (blk_cell BK228.out 1).trans rfl; have hcz23_2 : w22.cell? ⟨gb228, 2, none⟩ = some (.int .i64 a0_2) := (blk_cell BK228.out 2).trans rfl; have hcz23_3 : w22.cell? ⟨gb228, 3, none⟩ = some (.int .i64 a0_3) := (blk_cell BK228.out 3).trans rfl; have hcz23_4 : w22.cell? ⟨gb228, 4, none⟩ = some (.slice A0_4 l0_4.length c0_4) := (blk_cell BK228.out 4).trans rfl; have hfz23_0 := blk_frozen BK228.out 0; have hfz23_1 := blk_frozen BK228.out 1; have hfz23_2 := blk_frozen BK228.out 2; have hfz23_3 := blk_frozen BK228.out 3; have hfz23_4 := blk_frozen BK228.out 4) | ((with_reducible refine gate_callee (f := 11) rfl ?_); refine goesL_ (some 24) rfl rfl Try.func11 (by kernel_rfl) rfl #[.agg #[.int .i64 a0_0, .slice A0_1 l0_1.length c0_1, .int .i64 a0_2, .int .i64 a0_3, .slice A0_4 l0_4.length c0_4]] rfl (by (try simp only [List.map_toArray, List.map_cons, List.map_nil]); first | done | rfl | (simp only [List.length_drop, List.length_take]; rfl)) ?_; (with_reducible refine (ductusref19_Compile.calls kj3 a0_0 (fun k_ => k_ < w.heap.size) _ _ l0_1 a0_2 a0_3 (fun k_ => k_ < w.heap.size) _ _ l0_4 t236 t239 _ ?side1 ?side2 A18.out).mono ?_); (case side1 => exact Kd.V_mk HC0_1.out (Kd.F_below (Kd.C_F k42_heap HR0_1.out) (by repeat (first | (with_reducible first | exact HB.out | apply below_alloc | apply pw_below_drewN | apply below_drew1 | refine below_set ?_ GE228.out) | exact HB.out)))); (case side2 => exact Kd.V_mk HC0_4.out (Kd.F_below (Kd.C_F k25_heap HR0_4.out) (by repeat (first | (with_reducible first | exact HB.out | apply below_alloc | apply pw_below_drewN | apply below_drew1 | refine below_set ?_ GE228.out) | exact HB.out)))); rintro e w24 ⟨v237, rfl, ho0, hb⟩; refine ⟨_, rfl, ?_⟩; have n0_ := Aside0.mk (Kd.N_elder' (by (with_reducible repeat (first | apply Kd.N_alloc | apply Kd.N_drewN | apply Kd.N_drew)); exact HO234.out) (Kd.N_base ho0) hb); have n1_ := Aside0.mk (Kd.N_lower (Kd.N_mono (ok' := fun k_ => some k_ ≠ (v233 : Value).ownBlock ∧ k_ ≠ gb228) ho0 (fun k_ hk_ => ⟨Or.elim hk_ (fun hs_ => Or.elim hs_ (fun hs_ => fun e_ => Nat.not_le.2 hs_ (Kd.N_base HO234.out k_ e_.symm)) (fun hs_ => fun e_ => Nat.not_le.2 hs_ (Kd.N_base HO234.out k_ e_.symm))) (fun hn_ => (Kd.fresh' (Kd.N_lt (by (with_reducible repeat (first | apply Kd.N_alloc | apply Kd.N_drewN | apply Kd.N_drew)); exact HO234.out)) k_ hn_)), Or.elim hk_ (fun hs_ => Or.elim hs_ (fun hs_ => fun e_ => Nat.not_le.2 hs_ (by rw [e_]; exact GW228.out)) (fun hs_ => fun e_ => Nat.not_le.2 hs_ (by rw [e_]; exact GW228.out))) (fun hn_ => (Kd.freshB (g := gb228) (o := .cells #[.int .i64 a0_0, .slice A0_1 l0_1.length c0_1, .int .i64 a0_2, .int .i64 a0_3, .slice A0_4 l0_4.length c0_4] 25 (0, 0)) (by (with_reducible repeat (first | refine blk_drewN ?_ _ | refine blk_drew ?_ | refine blk_alloc ?_ _)); exact BK228.out) k_ hn_))⟩)) (below_size (by repeat (first | (with_reducible first | exact HB.out | apply below_alloc | apply pw_below_drewN | apply below_drew1 | refine below_set ?_ GE228.out) | exact HB.out)))); have n2_ := Aside0.mk (blk_below (g := gb228) (o := .cells #[.int .i64 a0_0, .slice A0_1 l0_1.length c0_1, .int .i64 a0_2, .int .i64 a0_3, .slice A0_4 l0_4.length c0_4] 25 (0, 0)) (by (with_reducible repeat (first | refine blk_drewN ?_ _ | refine blk_drew ?_ | refine blk_alloc ?_ _)); exact BK228.out) hb); have n3_ := Aside0.mk (below_step (by repeat (first | (with_reducible first | exact HB.out | apply below_alloc | apply pw_below_drewN | apply below_drew1 | refine below_set ?_ GE228.out) | exact HB.out)) hb); clear HO234; clear BK228; clear HB; have HO234 := n0_; have HO238 := n1_; have BK228 := n2_; have HB := n3_; clear n0_ n1_ n2_ n3_; (try clear hb); (try clear hb2); (try clear hk); (try clear hi); (try clear ho0); obtain ⟨Ao25, co25, eo25⟩ := Kd.N_slice HO234.out; subst eo25; obtain ⟨Ao26, co26, eo26⟩ := Kd.N_slice HO238.out; subst eo26) | ((with_reducible refine gate_callee (f := 12) rfl ?_); refine goesL_ (some 29) rfl rfl Try.func12 (by kernel_rfl) rfl #[.slice Ao25 t232.length co25, .slice Ao26 t236.length co26] rfl (by (try simp only [List.map_toArray, List.map_cons, List.map_nil]); first | done | rfl | (simp only [List.length_drop, List.length_take]; rfl)) ?_; (with_reducible refine (ductusref19_Same.calls kj3 _ _ t232 _ _ t236 true _ ?side1 ?side2 ?side3 ?side4 A19.out).mono ?_); (case side1 => repeat (first | exact (Kd.N_reads' HO234.out).2.2 | (with_reducible refine Kd.C_alloc ?_ _) | (with_reducible refine Kd.C_drewN ?_ _) | (with_reducible refine Kd.C_drew ?_))); (case side2 => exact (Kd.N_reads' HO234.out).2.1); (case side3 => repeat (first | exact (Kd.N_reads' HO238.out).2.2 | (with_reducible refine Kd.C_alloc ?_ _) | (with_reducible refine Kd.C_drewN ?_ _) | (with_reducible refine Kd.C_drew ?_))); (case side4 => exact (Kd.N_reads' HO238.out).2.1); rintro e w27 ⟨rfl, hb⟩; refine ⟨_, rfl, ?_⟩; have n0_ := Aside0.mk (Kd.N_below (by (with_reducible repeat (first | apply Kd.N_alloc | apply Kd.N_drewN | apply Kd.N_drew)); exact HO234.out) hb); have n1_ := Aside0.mk (Kd.N_below (by (with_reducible repeat (first | apply Kd.N_alloc | apply Kd.N_drewN | apply Kd.N_drew)); exact HO238.out) hb); have n2_ := Aside0.mk (blk_below (g := gb228) (o := .cells #[.int .i64 a0_0, .slice A0_1 l0_1.length c0_1, .int .i64 a0_2, .int .i64 a0_3, .slice A0_4 l0_4.length c0_4] 25 (0, 0)) (by (with_reducible repeat (first | refine blk_drewN ?_ _ | refine blk_drew ?_ | refine blk_alloc ?_ _)); exact BK228.out) hb); have n3_ := Aside0.mk (below_step (by repeat (first | (with_reducible first | exact HB.out | apply below_alloc | apply pw_below_drewN | apply below_drew1 | refine below_set ?_ GE228.out) | exact HB.out)) hb); clear HO234; clear HO238; clear BK228; clear HB; have HO234 := n0_; have HO238 := n1_; have BK228 := n2_; have HB := n3_; clear n0_ n1_ n2_ n3_; (try clear hb); (try clear hb2); (try clear hk); (try clear hi)))
      go_ret
      exact ⟨by first | rfl | (simp [errW_none, errW_some] <;> rfl) | (simp [*, errW_none, errW_some] <;> rfl), by repeat (first | (with_reducible first | exact HB.out | apply below_alloc | apply pw_below_drewN | apply below_drew1 | refine below_set ?_ GE228.out) | exact HB.out)⟩

end Go.Proofs.Ytbbplchdgedhcaa.P
namespace Go.Proofs.Ytbbplchdgedhcaa.P
open Go.RowKit Go.Proofs.YtbbplchdgedhcaaW.PrintWords Go.Proofs.YtbbplchdgedhcaaW.PrintLast
set_option linter.unusedVariables false

theorem wrap_id {x : Int} (h0 : -9223372036854775808 ≤ x) (h1 : x ≤ 9223372036854775807) : wrap64 x = x := by
  unfold wrap64
  omega
theorem wrap_succ (i : Nat) (h : i < 9223372036854775807) : wrap64 ((i : Int) + 1) = ((i + 1 : Nat) : Int) := by
  rw [wrap_id (by omega) (by omega)]
  omega
theorem rd_nat (xs : List Int) (i : Nat) : rd xs (i : Int) = xs.getD i 0 := by
  unfold rd
  rw [Int.toNat_natCast]
theorem rd_get (xs : List Int) (i : Nat) (h : i < xs.length) : rd xs (i : Int) = xs[i] := by
  rw [rd_nat, List.getD_eq_getElem?_getD, List.getElem?_eq_getElem h, Option.getD_some]
theorem drop_cons (xs : List Int) (i : Nat) (h : i < xs.length) : xs.drop i = rd xs (i : Int) :: xs.drop (i + 1) := by
  rw [rd_get xs i h]
  exact List.drop_eq_getElem_cons h
theorem more {α : Type} {g : Nat → Option α} (h : ∀ k, LeO (g k) (g (k + 1))) (k k' : Nat) (hk : k ≤ k') (r : α) (hr : g k = some r) : g k' = some r := at_rounds h hk hr
end Go.Proofs.Ytbbplchdgedhcaa.P
namespace Go.Proofs.Ytbbplchdgedhcaa.P
open Go.RowKit Go.Proofs.YtbbplchdgedhcaaW.PrintWords Go.Proofs.YtbbplchdgedhcaaW.PrintLast
set_option linter.unusedVariables false

theorem ev_step {α β : Type} {f : Nat → Option α} {g : Nat → Option β} {a : α} {r : β} (H : Ev f a) (h : ∀ k, f k = some a → g (k + 1) = some r) : Ev g r := by
  obtain ⟨K, H⟩ := H
  refine ⟨K + 1, fun k hk => ?_⟩
  obtain ⟨k, rfl⟩ : ∃ m, k = m + 1 := ⟨k - 1, by omega⟩
  exact h k (H k (by omega))
theorem ev_step2 {α β γ : Type} {f : Nat → Option α} {f2 : Nat → Option γ} {g : Nat → Option β} {a : α} {b : γ} {r : β} (H : Ev f a) (H2 : Ev f2 b) (h : ∀ k, f k = some a → f2 k = some b → g (k + 1) = some r) : Ev g r := by
  obtain ⟨K, H⟩ := H
  obtain ⟨K2, H2⟩ := H2
  refine ⟨K + K2 + 1, fun k hk => ?_⟩
  obtain ⟨k, rfl⟩ : ∃ m, k = m + 1 := ⟨k - 1, by omega⟩
  exact h k (H k (by omega)) (H2 k (by omega))
theorem ev_step3 {α β γ δ : Type} {f : Nat → Option α} {f2 : Nat → Option γ} {f3 : Nat → Option δ} {g : Nat → Option β} {a : α} {b : γ} {c : δ} {r : β} (H : Ev f a) (H2 : Ev f2 b) (H3 : Ev f3 c) (h : ∀ k, f k = some a → f2 k = some b → f3 k = some c → g (k + 1) = some r) : Ev g r := by
  obtain ⟨K, H⟩ := H
  obtain ⟨K2, H2⟩ := H2
  obtain ⟨K3, H3⟩ := H3
  refine ⟨K + K2 + K3 + 1, fun k hk => ?_⟩
  obtain ⟨k, rfl⟩ : ∃ m, k = m + 1 := ⟨k - 1, by omega⟩
  exact h k (H k (by omega)) (H2 k (by omega)) (H3 k (by omega))
theorem ev_one {β : Type} {g : Nat → Option β} {r : β} (h : ∀ k, g (k + 1) = some r) : Ev g r := ⟨1, fun k hk => by
  obtain ⟨k, rfl⟩ : ∃ m, k = m + 1 := ⟨k - 1, by omega⟩
  exact h k⟩
theorem ev_now {β : Type} {g : Nat → Option β} {r : β} (h : ∀ k, g k = some r) : Ev g r := ⟨0, fun k _ => h k⟩
theorem ev_same {α β : Type} {f : Nat → Option α} {g : Nat → Option β} {a : α} {r : β} (H : Ev f a) (h : ∀ k, f k = some a → g k = some r) : Ev g r := by
  obtain ⟨K, H⟩ := H
  exact ⟨K, fun k hk => h k (H k hk)⟩
theorem ev_same2 {α β γ : Type} {f : Nat → Option α} {f2 : Nat → Option γ} {g : Nat → Option β} {a : α} {b : γ} {r : β} (H : Ev f a) (H2 : Ev f2 b) (h : ∀ k, f k = some a → f2 k = some b → g k = some r) : Ev g r := by
  obtain ⟨K, H⟩ := H
  obtain ⟨K2, H2⟩ := H2
  exact ⟨K + K2, fun k hk => h k (H k (by omega)) (H2 k (by omega))⟩
theorem ev_same3 {α β γ δ : Type} {f : Nat → Option α} {f2 : Nat → Option γ} {f3 : Nat → Option δ} {g : Nat → Option β} {a : α} {b : γ} {c : δ} {r : β} (H : Ev f a) (H2 : Ev f2 b) (H3 : Ev f3 c) (h : ∀ k, f k = some a → f2 k = some b → f3 k = some c → g k = some r) : Ev g r := by
  obtain ⟨K, H⟩ := H
  obtain ⟨K2, H2⟩ := H2
  obtain ⟨K3, H3⟩ := H3
  exact ⟨K + K2 + K3, fun k hk => h k (H k (by omega)) (H2 k (by omega)) (H3 k (by omega))⟩
end Go.Proofs.Ytbbplchdgedhcaa.P
namespace Go.Proofs.Ytbbplchdgedhcaa.P
open Go.RowKit Go.Proofs.YtbbplchdgedhcaaW.PrintWords Go.Proofs.YtbbplchdgedhcaaW.PrintLast
set_option linter.unusedVariables false
set_option linter.unusedSimpArgs false

abbrev TNode : Type := S25
abbrev TRange : Type := S42
def i64b (x : Int) : Prop := -9223372036854775808 ≤ x ∧ x ≤ 9223372036854775807
/-- A tree that can lie in memory. -/
inductive WfN : TNode → Prop
  | mk (x : TNode) (h0 : i64b x.f0) (h1 : ∀ r ∈ x.f1, i64b r.f0 ∧ i64b r.f1) (l1 : x.f1.length < 8796093022208) (h2 : i64b x.f2) (h3 : i64b x.f3) (l4 : x.f4.length < 2199023255552) (hk : ∀ y ∈ x.f4, WfN y) : WfN x
theorem node_ind {P : TNode → Prop} (h : ∀ x : TNode, (∀ y ∈ x.f4, P y) → P x) (x : TNode) : P x := by
  have key : ∀ n (x : TNode), SizeOf.sizeOf x ≤ n → P x := by
    intro n
    induction n with
    | zero =>
      intro x hx
      exact absurd hx (by cases x; simp)
    | succ n ih =>
      intro x hx
      refine h x fun y hy => ih y ?_
      have h1 := List.sizeOf_lt_of_mem hy
      have h2 : SizeOf.sizeOf x.f4 < SizeOf.sizeOf x := by cases x; simp; omega
      omega
  exact key _ x (Nat.le_refl _)
theorem tn_rd (l : List TNode) (i : Nat) (h : i < l.length) : rd_T25 l (i : Int) = l[i] := by
  unfold rd_T25
  rw [Int.toNat_natCast, List.getD_eq_getElem?_getD, List.getElem?_eq_getElem h, Option.getD_some]
theorem tn_mem (l : List TNode) (i : Nat) (h : i < l.length) : rd_T25 l (i : Int) ∈ l := by
  rw [tn_rd l i h]
  exact List.getElem_mem h
abbrev weightE (k : Nat) (x : TNode) (d : Int) : Option Int := ductusref16_Weight.f k x.f0 x.f1 x.f2 x.f3 x.f4 d
theorem weight_loop (f0 : Int) (f1 : List TRange) (f2 f3 : Int) (l : List TNode) (d B : Int) (hd : 0 ≤ d ∧ d ≤ 100) (hB : 0 ≤ B ∧ B < 8000000000000000000) (hl : l.length < 2199023255552) (hk : ∀ y ∈ l, ∃ W, Ev (fun k => weightE k y (d + 1)) W ∧ 1 ≤ W ∧ W ≤ B) (m : Nat) :
    ∀ (i : Nat) (s : Int), i + m = l.length → 1 ≤ s → s ≤ 9000000000000000000 → ∃ W, Ev (fun k => ductusref16_Weight.l0 k d s (i : Int) f0 f1 f2 f3 l) W ∧ s ≤ W ∧ (W ≤ s ∨ W ≤ 2000 + B) := by
  induction m with
  | zero =>
    intro i s hi h1 h2
    refine ⟨s, ev_one fun k => ?_, Int.le_refl _, .inl (Int.le_refl _)⟩
    simp only [ductusref16_Weight.l0]
    rw [if_neg (by omega)]
  | succ m ih =>
    intro i s hi h1 h2
    by_cases hs : s ≤ 2000
    · obtain ⟨V, hV, hV1, hV2⟩ := hk _ (tn_mem l i (by omega))
      obtain ⟨W, hW, hW1, hW2⟩ := ih (i + 1) (s + V) (by omega) (by omega) (by omega)
      refine ⟨W, ?_, by omega, by omega⟩
      have w1 : wrap64 (d + 1) = d + 1 := wrap_id (by omega) (by omega)
      have c1 : (i : Int) < (l.length : Int) := by omega
      have c2 : (0 : Int) ≤ (i : Int) := by omega
      have w2 : wrap64 (s + V) = s + V := wrap_id (by omega) (by omega)
      have w3 : wrap64 ((i : Int) + 1) = ((i + 1 : Nat) : Int) := wrap_succ i (by omega)
      refine ev_step2 hV hW fun k h1 h2 => ?_
      simp only [ductusref16_Weight.l0]
      rw [if_pos c1, if_pos hs, if_pos c2, w1]
      have h1' : ductusref16_Weight.f k (rd_T25 l (i : Int)).f0 (rd_T25 l (i : Int)).f1 (rd_T25 l (i : Int)).f2 (rd_T25 l (i : Int)).f3 (rd_T25 l (i : Int)).f4 (d + 1) = some V := h1
      rw [h1', Option.bind_some, w2, w3]
      exact h2
    · have c1 : (i : Int) < (l.length : Int) := by omega
      refine ⟨s, ev_one fun k => ?_, Int.le_refl _, .inl (Int.le_refl _)⟩
      simp only [ductusref16_Weight.l0]
      rw [if_pos c1, if_neg hs]
theorem weight_ev (x : TNode) : WfN x → ∀ d : Nat, d ≤ 101 → ∃ W, Ev (fun k => weightE k x (d : Int)) W ∧ 1 ≤ W ∧ W ≤ 8796093025208 + 2000 * (101 - (d : Int)) := by
  induction x using node_ind with
  | h x ih =>
    intro hw d hd
    obtain ⟨_, h0, h1, l1, h2, h3, l4, hk⟩ := hw
    by_cases hd1 : d = 101
    · subst hd1
      refine ⟨3000, ev_one fun k => ?_, by omega, by omega⟩
      simp only [weightE, ductusref16_Weight.f]
      rw [if_pos (by omega)]
    · have w1 : wrap64 (1 + (x.f1.length : Int)) = 1 + (x.f1.length : Int) := wrap_id (by omega) (by omega)
      obtain ⟨W, hW, hW1, hW2⟩ := weight_loop x.f0 x.f1 x.f2 x.f3 x.f4 (d : Int) (8796093025208 + 2000 * (101 - ((d + 1 : Nat) : Int))) (by omega) (by omega) l4 (fun y hy => by
        obtain ⟨W, hW, hW1, hW2⟩ := ih y hy (hk y hy) (d + 1) (by omega)
        exact ⟨W, hW, hW1, hW2⟩) x.f4.length 0 (1 + (x.f1.length : Int)) (by omega) (by omega) (by omega)
      refine ⟨W, ?_, by omega, by omega⟩
      refine ev_step hW fun k h => ?_
      simp only [weightE, ductusref16_Weight.f]
      rw [if_neg (by omega), w1]
      exact h
mutual
def sizeT : TNode → Int
  | ⟨f0, _, f2, f3, f4⟩ => sizesT (multT f0 f2 f3) f4 1
def sizesT (t : Int) : List TNode → Int → Int
  | [], s => s
  | x :: l, s => sizesT t l (mn 1000000 (s + t * sizeT x))
end
theorem mn_le (a b : Int) : mn a b ≤ a ∧ mn a b ≤ b := by unfold mn; split <;> omega
theorem sizes_rng (t : Int) (ht : 1 ≤ t ∧ t ≤ 1000000) : ∀ (l : List TNode), (∀ y ∈ l, 1 ≤ sizeT y ∧ sizeT y ≤ 1000000) → ∀ s, 1 ≤ s → s ≤ 1000000 → s ≤ sizesT t l s ∧ sizesT t l s ≤ 1000000
  | [], _, s, h1, h2 => by simp only [sizesT]; omega
  | y :: l, hy, s, h1, h2 => by
    have h3 := hy y (by simp)
    have h4 : 0 ≤ t * sizeT y := Int.mul_nonneg (by omega) (by omega)
    have h5 := mn_le 1000000 (s + t * sizeT y)
    have h6 : s ≤ mn 1000000 (s + t * sizeT y) := by unfold mn; split <;> omega
    have h7 := sizes_rng t ht l (fun z hz => hy z (by simp [hz])) (mn 1000000 (s + t * sizeT y)) (by omega) (by omega)
    simp only [sizesT]
    omega
theorem size_rng (x : TNode) : 1 ≤ sizeT x ∧ sizeT x ≤ 1000000 := by
  induction x using node_ind with
  | h x ih =>
    obtain ⟨f0, f1, f2, f3, f4⟩ := x
    simp only [sizeT]
    exact sizes_rng _ (multT_le _ _ _) f4 ih 1 (by omega) (by omega)
abbrev sizeE (k : Nat) (x : TNode) : Option Int := ductusref16_Size.f k x.f0 x.f1 x.f2 x.f3 x.f4
theorem sizes_ev (t : Int) (ht : 1 ≤ t ∧ t ≤ 1000000) : ∀ (l : List TNode), (∀ y ∈ l, Ev (fun k => sizeC k y) (sizeT y)) → ∀ s, 1 ≤ s → s ≤ 1000000 → Ev (fun k => sizesC (sizeC k) t l s) (sizesT t l s)
  | [], _, s, h1, h2 => ev_now fun k => by simp only [sizesC, sizesT]
  | y :: l, hy, s, h1, h2 => by
    have h3 := size_rng y
    have h4 : 0 ≤ t * sizeT y := Int.mul_nonneg (by omega) (by omega)
    have h5 : 1 ≤ mn 1000000 (s + t * sizeT y) ∧ mn 1000000 (s + t * sizeT y) ≤ 1000000 := by unfold mn; split <;> omega
    refine ev_same2 (hy y (by simp)) (sizes_ev t ht l (fun z hz => hy z (by simp [hz])) _ h5.1 h5.2) fun k e1 e2 => ?_
    simp only [sizesC, sizesT]
    rw [e1, Option.bind_some, if_pos ⟨h3.1, h3.2, h1, h2⟩]
    exact e2
theorem size_ev (x : TNode) : WfN x → Ev (fun k => sizeE k x) (sizeT x) := by
  have e : (fun k => sizeE k x) = fun k => sizeC k x := by
    funext k
    obtain ⟨f0, f1, f2, f3, f4⟩ := x
    rfl
  rw [e]
  clear e
  induction x using node_ind with
  | h x ih =>
    intro hw
    obtain ⟨_, h0, h1, l1, h2, h3, l4, hk⟩ := hw
    obtain ⟨f0, f1, f2, f3, f4⟩ := x
    refine ev_step (sizes_ev (multT f0 f2 f3) (multT_le _ _ _) f4 (fun y hy => ih y hy (hk y hy)) 1 (by omega) (by omega)) fun k e => ?_
    simp only [sizeC, sizeT]
    rw [if_pos h2.1]
    exact e
end Go.Proofs.Ytbbplchdgedhcaa.P
namespace Go.Proofs.Ytbbplchdgedhcaa.P
open Go.RowKit Go.Proofs.YtbbplchdgedhcaaW.PrintWords Go.Proofs.YtbbplchdgedhcaaW.PrintLast
set_option linter.unusedVariables false
set_option linter.unusedSimpArgs false

abbrev TInst : Type := S39
def repB (f2 f3 : Int) (n : Nat) : Bool := !(decide (n ≠ 1 ∨ f2 < 0 ∨ f2 > 20 ∨ f3 < -1 ∨ f3 > 20 ∨ f3 ≥ 0 ∧ f3 < f2))
mutual
def letB : TNode → Bool
  | ⟨f0, _, f2, f3, f4⟩ => if f0 < 1 ∨ f0 > 7 then false else if f0 = 5 then repB f2 f3 f4.length && letsB f4 else if f0 = 3 ∨ f0 = 4 then letsB f4 else true
def letsB : List TNode → Bool
  | [] => true
  | x :: l => letB x && letsB l
end
mutual
def lenM : TNode → Nat
  | ⟨f0, _, f2, f3, f4⟩ => if f0 = 2 then 1 else if f0 = 6 then 1 else if f0 = 7 then 1 else if f0 = 3 then joinN f4 else if f0 = 4 then orN f4
      else if f0 = 5 then f2.toNat * headN f4 + (if f3 < 0 then headN f4 + 2 else (f3 - f2).toNat * (headN f4 + 1)) else 0
def joinN : List TNode → Nat
  | [] => 0
  | x :: l => lenM x + joinN l
def orN : List TNode → Nat
  | [] => 0
  | x :: l => if l.length = 0 then lenM x else lenM x + 2 + orN l
def headN : List TNode → Nat
  | [] => 0
  | x :: _ => lenM x
end
def timesM (g : Nat → List TInst) (len : Nat) : Nat → Nat → List TInst
  | 0, _ => []
  | n + 1, a => g a ++ timesM g len n (a + len)
def optM (g : Nat → List TInst) (len fin : Nat) : Nat → Nat → List TInst
  | 0, _ => []
  | n + 1, a => ⟨2, [], (a : Int) + 1, (fin : Int)⟩ :: (g (a + 1) ++ optM g len fin n (a + 1 + len))
def starM (g : Nat → List TInst) (len : Nat) (a : Nat) : List TInst := ⟨2, [], (a : Int) + 1, ((a + 2 + len : Nat) : Int)⟩ :: (g (a + 1) ++ [⟨3, [], (a : Int), 0⟩])
mutual
def layM : TNode → Nat → List TInst
  | ⟨f0, f1, f2, f3, f4⟩, a => if f0 = 2 then [⟨1, f1, 0, 0⟩] else if f0 = 6 then [⟨4, [], 0, 0⟩] else if f0 = 7 then [⟨5, [], 0, 0⟩] else if f0 = 3 then joinM f4 a else if f0 = 4 then orM f4 a (a + orN f4)
      else if f0 = 5 then timesM (fun b => headM f4 b) (headN f4) f2.toNat a ++ (if f3 < 0 then starM (fun b => headM f4 b) (headN f4) (a + f2.toNat * headN f4)
        else optM (fun b => headM f4 b) (headN f4) (a + f2.toNat * headN f4 + (f3 - f2).toNat * (headN f4 + 1)) (f3 - f2).toNat (a + f2.toNat * headN f4)) else []
def joinM : List TNode → Nat → List TInst
  | [], _ => []
  | x :: l, a => layM x a ++ joinM l (a + lenM x)
def orM : List TNode → Nat → Nat → List TInst
  | [], _, _ => []
  | x :: l, a, fin => if l.length = 0 then layM x a else ⟨2, [], (a : Int) + 1, ((a + 2 + lenM x : Nat) : Int)⟩ :: (layM x (a + 1) ++ ⟨3, [], (fin : Int), 0⟩ :: orM l (a + 2 + lenM x) fin)
def headM : List TNode → Nat → List TInst
  | [], _ => []
  | x :: _, a => layM x a
end
theorem timesM_len (g : Nat → List TInst) (len : Nat) (hg : ∀ a, (g a).length = len) : ∀ n a, (timesM g len n a).length = n * len
  | 0, _ => by simp [timesM]
  | n + 1, a => by
    rw [timesM, List.length_append, hg, timesM_len g len hg n, Nat.succ_mul]
    omega
theorem optM_len (g : Nat → List TInst) (len fin : Nat) (hg : ∀ a, (g a).length = len) : ∀ n a, (optM g len fin n a).length = n * (len + 1)
  | 0, _ => by simp [optM]
  | n + 1, a => by
    rw [optM, List.length_cons, List.length_append, hg, optM_len g len fin hg n, Nat.succ_mul]
    omega
theorem joinM_len : ∀ (l : List TNode), (∀ y ∈ l, ∀ a, (layM y a).length = lenM y) → ∀ a, (joinM l a).length = joinN l
  | [], _, a => by simp [joinM, joinN]
  | x :: l, h, a => by
    rw [joinM, List.length_append, h x (by simp), joinM_len l (fun y hy => h y (by simp [hy])), joinN]
theorem orM_len : ∀ (l : List TNode), (∀ y ∈ l, ∀ a, (layM y a).length = lenM y) → ∀ a fin, (orM l a fin).length = orN l
  | [], _, a, fin => by simp [orM, orN]
  | x :: l, h, a, fin => by
    rw [orM, orN]
    split
    · exact h x (by simp) a
    · rw [List.length_cons, List.length_append, List.length_cons, h x (by simp), orM_len l (fun y hy => h y (by simp [hy]))]
      omega
theorem headM_len (l : List TNode) (h : ∀ y ∈ l, ∀ a, (layM y a).length = lenM y) (a : Nat) : (headM l a).length = headN l := by
  cases l with
  | nil => simp [headM, headN]
  | cons x l => rw [headM, headN, h x (by simp)]
theorem layM_len (x : TNode) : ∀ a, (layM x a).length = lenM x := by
  induction x using node_ind with
  | h x ih =>
    intro a
    obtain ⟨f0, f1, f2, f3, f4⟩ := x
    rw [layM, lenM]
    have hh : ∀ b, ((fun b => headM f4 b) b).length = headN f4 := fun b => headM_len f4 ih b
    repeat' split
    all_goals first
      | rfl
      | exact joinM_len f4 ih a
      | exact orM_len f4 ih a _
      | rw [List.length_append, timesM_len _ _ hh, starM, List.length_cons, List.length_append, hh, List.length_singleton]
      | rw [List.length_append, timesM_len _ _ hh, optM_len _ _ _ hh]
def sumS : List TNode → Int
  | [] => 0
  | y :: l => sizeT y + sumS l
theorem sizes_exact (t : Int) (ht : 1 ≤ t ∧ t ≤ 1000000) : ∀ (l : List TNode) s, 1 ≤ s → s ≤ 1000000 → sizesT t l s < 1000000 → sizesT t l s = s + t * sumS l ∧ ∀ y ∈ l, sizeT y < 1000000
  | [], s, h1, h2, h => by simp [sizesT, sumS]
  | y :: l, s, h1, h2, h => by
    have h3 := size_rng y
    have h4 : sizeT y ≤ t * sizeT y := by
      have := Int.mul_le_mul_of_nonneg_right ht.1 (show 0 ≤ sizeT y by omega)
      rw [Int.one_mul] at this
      exact this
    have h6 : 1 ≤ mn 1000000 (s + t * sizeT y) ∧ mn 1000000 (s + t * sizeT y) ≤ 1000000 := by unfold mn; split <;> omega
    rw [sizesT] at h
    have h7 := sizes_rng t ht l (fun z _ => size_rng z) _ h6.1 h6.2
    have h8 : mn 1000000 (s + t * sizeT y) = s + t * sizeT y := by
      have : mn 1000000 (s + t * sizeT y) < 1000000 := by omega
      revert this
      unfold mn
      split <;> omega
    have h9 := sizes_exact t ht l _ h6.1 h6.2 h
    have h10 : s + t * sizeT y < 1000000 := by omega
    rw [sizesT, h9.1, h8, sumS, Int.mul_add]
    refine ⟨by omega, fun z hz => ?_⟩
    rcases List.mem_cons.1 hz with rfl | hz
    · omega
    · exact h9.2 z hz
theorem sumS_nn : ∀ l : List TNode, 0 ≤ sumS l
  | [] => by simp [sumS]
  | y :: l => by
    have h1 := size_rng y
    have h2 := sumS_nn l
    rw [sumS]
    omega
theorem joinN_le : ∀ (l : List TNode), (∀ y ∈ l, (lenM y : Int) ≤ 3 * sizeT y - 2) → (joinN l : Int) ≤ 3 * sumS l
  | [], _ => by simp [joinN, sumS]
  | y :: l, h => by
    have h1 := h y (by simp)
    have h2 := joinN_le l (fun z hz => h z (by simp [hz]))
    rw [joinN, sumS]
    omega
theorem orN_le : ∀ (l : List TNode), (∀ y ∈ l, (lenM y : Int) ≤ 3 * sizeT y - 2) → (orN l : Int) ≤ 3 * sumS l
  | [], _ => by simp [orN, sumS]
  | y :: l, h => by
    have h1 := h y (by simp)
    have h2 := orN_le l (fun z hz => h z (by simp [hz]))
    have h3 := sumS_nn l
    rw [orN, sumS]
    split <;> omega
theorem letsB_all : ∀ (l : List TNode), letsB l = true → ∀ y ∈ l, letB y = true
  | [], _, y, hy => by simp at hy
  | x :: l, h, y, hy => by
    rw [letsB, Bool.and_eq_true] at h
    rcases List.mem_cons.1 hy with rfl | hy
    · exact h.1
    · exact letsB_all l h.2 y hy
theorem repB_iff {f2 f3 : Int} {n : Nat} (h : repB f2 f3 n = true) : n = 1 ∧ 0 ≤ f2 ∧ f2 ≤ 20 ∧ -1 ≤ f3 ∧ f3 ≤ 20 ∧ (f3 < 0 ∨ f2 ≤ f3) := by
  simp only [repB, Bool.not_eq_true', decide_eq_false_iff_not] at h
  omega
theorem len_le (x : TNode) : letB x = true → sizeT x < 1000000 → (lenM x : Int) ≤ 3 * sizeT x - 2 := by
  induction x using node_ind with
  | h x ih =>
    intro hl hs
    obtain ⟨f0, f1, f2, f3, f4⟩ := x
    simp only at ih
    rw [letB] at hl
    rw [sizeT] at hs ⊢
    have ht := multT_le f0 f2 f3
    have he := sizes_exact (multT f0 f2 f3) ht f4 1 (by omega) (by omega) hs
    rw [he.1]
    have hn := sumS_nn f4
    have hts : sumS f4 ≤ multT f0 f2 f3 * sumS f4 := by
      have := Int.mul_le_mul_of_nonneg_right ht.1 hn
      rw [Int.one_mul] at this
      exact this
    by_cases c0 : f0 < 1 ∨ f0 > 7
    · rw [if_pos c0] at hl
      cases hl
    rw [if_neg c0] at hl
    rw [lenM]
    by_cases c2 : f0 = 2
    · rw [if_pos c2]
      omega
    rw [if_neg c2]
    by_cases c6 : f0 = 6
    · rw [if_pos c6]
      omega
    rw [if_neg c6]
    by_cases c7 : f0 = 7
    · rw [if_pos c7]
      omega
    rw [if_neg c7]
    by_cases c3 : f0 = 3
    · rw [if_pos c3]
      rw [if_neg (by omega), if_pos (.inl c3)] at hl
      have := joinN_le f4 fun y hy => ih y hy (letsB_all f4 hl y hy) (he.2 y hy)
      omega
    rw [if_neg c3]
    by_cases c4 : f0 = 4
    · rw [if_pos c4]
      rw [if_neg (by omega), if_pos (.inr c4)] at hl
      have := orN_le f4 fun y hy => ih y hy (letsB_all f4 hl y hy) (he.2 y hy)
      omega
    rw [if_neg c4]
    by_cases c5 : f0 = 5
    · rw [if_pos c5]
      rw [if_pos c5, Bool.and_eq_true] at hl
      obtain ⟨r1, r2, r3, r4, r5, r6⟩ := repB_iff hl.1
      obtain ⟨y, rfl⟩ := List.length_eq_one_iff.1 r1
      have hy := ih y (by simp) (letsB_all [y] hl.2 y (by simp)) (he.2 y (by simp))
      have hy2 := size_rng y
      rw [headN]
      have es : sumS [y] = sizeT y := by simp [sumS]
      rw [es]
      obtain ⟨n2, rfl⟩ : ∃ n : Nat, f2 = (n : Int) := ⟨f2.toNat, by omega⟩
      rw [Int.toNat_natCast]
      by_cases c8 : f3 < 0
      · rw [if_pos c8]
        have et : multT f0 (n2 : Int) f3 = ((n2 + 1 : Nat) : Int) := by
          unfold multT mn mx
          rw [if_pos c5, if_pos c8]
          repeat' split
          all_goals omega
        rw [et]
        have m1 : ((n2 + 1 : Nat) : Int) * (lenM y : Int) ≤ ((n2 + 1 : Nat) : Int) * (3 * sizeT y - 2) := Int.mul_le_mul_of_nonneg_left hy (by omega)
        have m2 : ((n2 + 1 : Nat) : Int) * (3 * sizeT y - 2) = 3 * (((n2 + 1 : Nat) : Int) * sizeT y) - 2 * ((n2 + 1 : Nat) : Int) := by
          rw [Int.mul_sub, Int.mul_left_comm, Int.mul_comm _ 2]
        have m3 : ((n2 + 1 : Nat) : Int) * (lenM y : Int) = ((n2 * lenM y + lenM y : Nat) : Int) := by
          rw [← Int.natCast_mul, Nat.succ_mul]
        omega
      · rw [if_neg c8]
        obtain ⟨n3, rfl⟩ : ∃ n : Nat, f3 = (n : Int) := ⟨f3.toNat, by omega⟩
        obtain ⟨d, rfl⟩ : ∃ d, n3 = n2 + d := ⟨n3 - n2, by omega⟩
        have e3 : (((n2 + d : Nat) : Int) - (n2 : Int)).toNat = d := by omega
        rw [e3]
        by_cases c9 : n2 + d = 0
        · have z : n2 * lenM y + d * (lenM y + 1) = 0 := by
            rw [show n2 = 0 by omega, show d = 0 by omega, Nat.zero_mul, Nat.zero_mul]
          rw [z]
          rw [es] at hts
          omega
        have et : multT f0 (n2 : Int) ((n2 + d : Nat) : Int) = ((n2 + d : Nat) : Int) := by
          unfold multT mn mx
          rw [if_pos c5, if_neg c8]
          repeat' split
          all_goals omega
        rw [et]
        have m1 : ((n2 + d : Nat) : Int) * (lenM y : Int) ≤ ((n2 + d : Nat) : Int) * (3 * sizeT y - 2) := Int.mul_le_mul_of_nonneg_left hy (by omega)
        have m2 : ((n2 + d : Nat) : Int) * (3 * sizeT y - 2) = 3 * (((n2 + d : Nat) : Int) * sizeT y) - 2 * ((n2 + d : Nat) : Int) := by
          rw [Int.mul_sub, Int.mul_left_comm, Int.mul_comm _ 2]
        have m3 : ((n2 + d : Nat) : Int) * (lenM y : Int) = ((n2 * lenM y + d * lenM y : Nat) : Int) := by
          rw [← Int.natCast_mul, Nat.add_mul]
        have m4 : d * (lenM y + 1) = d * lenM y + d := by rw [Nat.mul_add, Nat.mul_one]
        rw [m4]
        omega
    rw [if_neg c5]
    omega
end Go.Proofs.Ytbbplchdgedhcaa.P
namespace Go.Proofs.Ytbbplchdgedhcaa.P
open Go.RowKit Go.Proofs.YtbbplchdgedhcaaW.PrintWords Go.Proofs.YtbbplchdgedhcaaW.PrintLast
set_option linter.unusedVariables false
set_option linter.unusedSimpArgs false

theorem toP_app (n : Int) (p m : List TInst) (j : Int) (h : 0 ≤ j ∧ j < (p.length : Int)) : toP n (p ++ m) j = toP n p j ++ m ∧ (toP n p j).length = p.length := by
  obtain ⟨k, rfl⟩ : ∃ k : Nat, j = (k : Int) := ⟨j.toNat, by omega⟩
  have hk : k < p.length := by omega
  unfold toP
  simp only [Int.toNat_natCast, List.length_set, and_true]
  have e : (p ++ m).getD k z39 = p.getD k z39 := by
    rw [List.getD_eq_getElem?_getD, List.getD_eq_getElem?_getD, List.getElem?_append_left hk]
  rw [e, List.set_append_left _ _ hk]
theorem altP_app (n : Int) (p m : List TInst) (j : Int) (h : 0 ≤ j ∧ j < (p.length : Int)) : altP n (p ++ m) j = altP n p j ++ m ∧ (altP n p j).length = p.length := by
  obtain ⟨k, rfl⟩ : ∃ k : Nat, j = (k : Int) := ⟨j.toNat, by omega⟩
  have hk : k < p.length := by omega
  unfold altP
  simp only [Int.toNat_natCast, List.length_set, and_true]
  have e : (p ++ m).getD k z39 = p.getD k z39 := by
    rw [List.getD_eq_getElem?_getD, List.getD_eq_getElem?_getD, List.getElem?_append_left hk]
  rw [e, List.set_append_left _ _ hk]
theorem toP_at (n : Int) (p m : List TInst) (e : TInst) (k : Nat) (hk : k = p.length) : toP n (p ++ e :: m) (k : Int) = p ++ ⟨e.f0, e.f1, n, e.f3⟩ :: m := by
  subst hk
  unfold toP
  have h : (p ++ e :: m).getD p.length z39 = e := by
    rw [List.getD_eq_getElem?_getD, List.getElem?_append_right (Nat.le_refl _), Nat.sub_self]
    rfl
  rw [Int.toNat_natCast, h, List.set_append_right _ _ (Nat.le_refl _), Nat.sub_self]
  rfl
theorem altP_at (n : Int) (p m : List TInst) (e : TInst) (k : Nat) (hk : k = p.length) : altP n (p ++ e :: m) (k : Int) = p ++ ⟨e.f0, e.f1, e.f2, n⟩ :: m := by
  subst hk
  unfold altP
  have h : (p ++ e :: m).getD p.length z39 = e := by
    rw [List.getD_eq_getElem?_getD, List.getElem?_append_right (Nat.le_refl _), Nat.sub_self]
    rfl
  rw [Int.toNat_natCast, h, List.set_append_right _ _ (Nat.le_refl _), Nat.sub_self]
  rfl
def inR (js : List Int) (n : Nat) : Prop := ∀ j ∈ js, 0 ≤ j ∧ j < (n : Int)
theorem inR.mono {js : List Int} {n m : Nat} (h : inR js n) (hm : n ≤ m) : inR js m := fun j hj => by
  have := h j hj
  omega
theorem inR.snoc {js : List Int} {n m k : Nat} (h : inR js n) (hm : n ≤ m) (hk : k < m) : inR (js ++ [(k : Int)]) m := fun j hj => by
  rcases List.mem_append.1 hj with hj | hj
  · have := h j hj
    omega
  · rw [List.mem_singleton.1 hj]
    omega
theorem fold_app (F : List TInst → Int → List TInst) (hF : ∀ p m j, 0 ≤ j ∧ j < (p.length : Int) → F (p ++ m) j = F p j ++ m ∧ (F p j).length = p.length) : ∀ (js : List Int) (p m : List TInst), inR js p.length → js.foldl F (p ++ m) = js.foldl F p ++ m ∧ (js.foldl F p).length = p.length
  | [], p, m, _ => ⟨rfl, rfl⟩
  | j :: js, p, m, h => by
    have h1 := hF p m j (h j (by simp))
    have h2 := fold_app F hF js (F p j) m (by rw [h1.2]; exact fun i hi => h i (by simp [hi]))
    rw [List.foldl_cons, List.foldl_cons, h1.1, h2.1, h2.2, h1.2]
    exact ⟨rfl, rfl⟩
theorem tosC_ok (p : List TInst) (js : List Int) (h : inR js p.length) : tosC p js = some (js.foldl (toP (p.length : Int)) p) := if_pos h
theorem altsC_ok (p : List TInst) (js : List Int) (h : inR js p.length) : altsC p js = some (js.foldl (altP (p.length : Int)) p) := if_pos h
theorem inR_one {k n : Nat} (h : k < n) : inR [(k : Int)] n := fun j hj => by
  rw [List.mem_singleton.1 hj]
  omega
/-- What a node does to a program, from some depth on. -/
def LaysC (x : TNode) : Prop := ∀ p : List TInst, p.length + lenM x ≤ 1000000000000 → Ev (fun k => nodeC k x p) (p ++ layM x p.length)
theorem layI_ok (p : List TInst) (x : TInst) (h : p.length < 1000000000000) : layI p x = some (p ++ [x]) := by
  rw [layI, if_pos (by omega)]
theorem joinC_ev : ∀ (l : List TNode), (∀ y ∈ l, LaysC y) → ∀ p : List TInst, p.length + joinN l ≤ 1000000000000 → Ev (fun k => joinC (nodeC k) l p) (p ++ joinM l p.length)
  | [], _, p, hp => ev_now fun k => by simp [joinC, joinM]
  | y :: l, h, p, hp => by
    rw [joinN] at hp
    have hl := layM_len y p.length
    refine ev_same2 (h y (by simp) p (by omega)) (joinC_ev l (fun z hz => h z (by simp [hz])) (p ++ layM y p.length) (by rw [List.length_append, hl]; omega)) fun k h1 h2 => ?_
    rw [joinC, h1, Option.bind_some, h2, joinM, List.length_append, hl, List.append_assoc]
theorem timesC_ev (y : TNode) (h : LaysC y) : ∀ (n : Nat) (p : List TInst), p.length + n * lenM y ≤ 1000000000000 → Ev (fun k => timesC (nodeC k y) n p) (p ++ timesM (fun b => layM y b) (lenM y) n p.length)
  | 0, p, hp => ev_now fun k => by simp [timesC, timesM]
  | n + 1, p, hp => by
    rw [Nat.succ_mul] at hp
    have hl := layM_len y p.length
    refine ev_same2 (h p (by omega)) (timesC_ev y h n (p ++ layM y p.length) (by rw [List.length_append, hl]; omega)) fun k h1 h2 => ?_
    rw [timesC, h1, Option.bind_some, h2, timesM, List.length_append, hl, List.append_assoc]
theorem orC_ev (fin : Nat) : ∀ (l : List TNode), (∀ y ∈ l, LaysC y) → ∀ (p : List TInst) (js : List Int), p.length + orN l = fin → fin ≤ 1000000000000 → inR js p.length → js.length ≤ p.length →
    Ev (fun k => (orL (nodeC k) l p js).bind fun q => tosC q.1 q.2) (js.foldl (toP (fin : Int)) p ++ orM l p.length fin)
  | [], _, p, js, hf, hb, hj, hn => ev_now fun k => by
    rw [orN, Nat.add_zero] at hf
    rw [orL, Option.bind_some, tosC_ok _ _ hj, orM, List.append_nil, ← hf]
  | y :: l, h, p, js, hf, hb, hj, hn => by
    rw [orN] at hf
    by_cases c : l.length = 0
    · rw [if_pos c] at hf
      have hl := layM_len y p.length
      refine ev_same (h y (by simp) p (by omega)) fun k h1 => ?_
      have hq : (p ++ layM y p.length).length = fin := by rw [List.length_append, hl, hf]
      rw [orL, if_pos c, h1, Option.map_some, Option.bind_some, tosC_ok _ _ (hj.mono (by rw [hq]; omega)), hq, (fold_app _ (toP_app _) js p _ hj).1, orM, if_pos c]
    · rw [if_neg c] at hf
      have hl := layM_len y (p.length + 1)
      have F := fold_app _ (toP_app (fin : Int)) js p
      have e3 : (p ++ [(⟨2, [], (p.length : Int) + 1, 0⟩ : TInst)] ++ layM y (p.length + 1) ++ [(⟨3, [], 0, 0⟩ : TInst)]).length = p.length + 2 + lenM y := by
        simp only [List.length_append, List.length_singleton, hl]
        omega
      have ih := orC_ev fin l (fun z hz => h z (by simp [hz])) (p ++ ⟨2, [], (p.length : Int) + 1, ((p.length + 2 + lenM y : Nat) : Int)⟩ :: (layM y (p.length + 1) ++ [⟨3, [], 0, 0⟩])) (js ++ [((p.length + 1 + lenM y : Nat) : Int)])
        (by simp only [List.length_append, List.length_cons, List.length_nil, hl]; omega) hb (hj.snoc (by simp only [List.length_append]; omega) (by simp only [List.length_append, List.length_cons, List.length_nil, hl]; omega))
        (by simp only [List.length_append, List.length_cons, List.length_nil, hl]; omega)
      refine ev_same2 (h y (by simp) (p ++ [⟨2, [], (p.length : Int) + 1, 0⟩]) (by simp only [List.length_append, List.length_singleton]; omega)) ih fun k h1 h2 => ?_
      rw [List.length_append, List.length_singleton] at h1
      have e2 : (p ++ [(⟨2, [], (p.length : Int) + 1, 0⟩ : TInst)] ++ layM y (p.length + 1)).length = p.length + 1 + lenM y := by
        simp only [List.length_append, List.length_singleton, hl]
      rw [orL, if_neg c, if_pos (by omega), layI_ok p _ (by omega), Option.bind_some, h1, Option.bind_some, layI_ok _ _ (by rw [e2]; omega), Option.bind_some, altsC_ok _ _ (inR_one (by rw [e3]; omega)), e3, e2, Option.bind_some, List.foldl_cons, List.foldl_nil]
      have e4 : altP ((p.length + 2 + lenM y : Nat) : Int) (p ++ [(⟨2, [], (p.length : Int) + 1, 0⟩ : TInst)] ++ layM y (p.length + 1) ++ [⟨3, [], 0, 0⟩]) (p.length : Int) = p ++ ⟨2, [], (p.length : Int) + 1, ((p.length + 2 + lenM y : Nat) : Int)⟩ :: (layM y (p.length + 1) ++ [⟨3, [], 0, 0⟩]) := by
        have := altP_at ((p.length + 2 + lenM y : Nat) : Int) p (layM y (p.length + 1) ++ [⟨3, [], 0, 0⟩]) ⟨2, [], (p.length : Int) + 1, 0⟩ p.length rfl
        rw [← this]
        simp only [List.append_assoc, List.singleton_append, List.cons_append, List.nil_append]
      rw [e4, h2, List.foldl_append, List.foldl_cons, List.foldl_nil, (F _ hj).1]
      have F2 := (F [] hj).2
      have e5 : List.foldl (toP (fin : Int)) p js ++ (⟨2, [], (p.length : Int) + 1, ((p.length + 2 + lenM y : Nat) : Int)⟩ : TInst) :: (layM y (p.length + 1) ++ [⟨3, [], 0, 0⟩]) = (List.foldl (toP (fin : Int)) p js ++ (⟨2, [], (p.length : Int) + 1, ((p.length + 2 + lenM y : Nat) : Int)⟩ : TInst) :: layM y (p.length + 1)) ++ ⟨3, [], 0, 0⟩ :: [] := by
        simp only [List.append_assoc, List.cons_append, List.nil_append]
      have e6 : (p ++ (⟨2, [], (p.length : Int) + 1, ((p.length + 2 + lenM y : Nat) : Int)⟩ : TInst) :: (layM y (p.length + 1) ++ [⟨3, [], 0, 0⟩])).length = p.length + 2 + lenM y := by
        simp only [List.length_append, List.length_cons, List.length_nil, hl]
        omega
      rw [e5, toP_at (fin : Int) _ _ _ _ (by rw [List.length_append, F2, List.length_cons, hl]; omega), e6, orM, if_neg c]
      simp only [List.append_assoc, List.cons_append, List.nil_append]
theorem optC_ev (y : TNode) (h : LaysC y) (fin : Nat) : ∀ (n : Nat) (p : List TInst) (js : List Int), p.length + n * (lenM y + 1) = fin → fin ≤ 1000000000000 → inR js p.length → js.length ≤ p.length →
    Ev (fun k => (optC (nodeC k y) n p js).bind fun q => altsC q.1 q.2) (js.foldl (altP (fin : Int)) p ++ optM (fun b => layM y b) (lenM y) fin n p.length)
  | 0, p, js, hf, hb, hj, hn => ev_now fun k => by
    rw [Nat.zero_mul, Nat.add_zero] at hf
    rw [optC, Option.bind_some, altsC_ok _ _ hj, optM, List.append_nil, ← hf]
  | n + 1, p, js, hf, hb, hj, hn => by
    rw [Nat.succ_mul] at hf
    have hl := layM_len y (p.length + 1)
    have F := fold_app _ (altP_app (fin : Int)) js p
    have e2 : (p ++ [(⟨2, [], (p.length : Int) + 1, 0⟩ : TInst)] ++ layM y (p.length + 1)).length = p.length + 1 + lenM y := by
      simp only [List.length_append, List.length_singleton, hl]
    have ih := optC_ev y h fin n (p ++ [⟨2, [], (p.length : Int) + 1, 0⟩] ++ layM y (p.length + 1)) (js ++ [(p.length : Int)]) (by rw [e2]; omega) hb (hj.snoc (by rw [e2]; omega) (by rw [e2]; omega))
      (by rw [e2, List.length_append, List.length_singleton]; omega)
    refine ev_same2 (h (p ++ [⟨2, [], (p.length : Int) + 1, 0⟩]) (by simp only [List.length_append, List.length_singleton]; omega)) ih fun k h1 h2 => ?_
    rw [List.length_append, List.length_singleton] at h1
    rw [optC, if_pos (by omega), layI_ok p _ (by omega), Option.bind_some, h1, Option.bind_some, h2, List.foldl_append, List.foldl_cons, List.foldl_nil, List.append_assoc, (F _ hj).1]
    have F2 := (F [] hj).2
    rw [List.singleton_append, altP_at (fin : Int) _ _ _ _ F2.symm, List.length_append, List.length_cons, hl, optM]
    simp only [List.append_assoc, List.cons_append, List.nil_append]
    have e7 : p.length + (lenM y + 1) = p.length + 1 + lenM y := by omega
    rw [e7]
theorem laysC (x : TNode) : WfN x → letB x = true → LaysC x := by
  induction x using node_ind with
  | h x ih =>
    intro hw hl p hp
    obtain ⟨_, h0, h1, l1, h2, h3, l4, hk⟩ := hw
    obtain ⟨f0, f1, f2, f3, f4⟩ := x
    simp only at ih l1 l4 hk
    rw [letB] at hl
    rw [lenM] at hp
    rw [layM]
    by_cases c0 : f0 < 1 ∨ f0 > 7
    · rw [if_pos c0] at hl
      cases hl
    rw [if_neg c0] at hl
    by_cases c2 : f0 = 2
    · rw [if_pos c2] at hp ⊢
      refine ev_one fun k => ?_
      rw [nodeC, if_pos c2, if_pos l1, layI_ok _ _ (by omega)]
    rw [if_neg c2] at hp ⊢
    by_cases c6 : f0 = 6
    · rw [if_pos c6] at hp ⊢
      refine ev_one fun k => ?_
      rw [nodeC, if_neg c2, if_pos c6, layI_ok _ _ (by omega)]
    rw [if_neg c6] at hp ⊢
    by_cases c7 : f0 = 7
    · rw [if_pos c7] at hp ⊢
      refine ev_one fun k => ?_
      rw [nodeC, if_neg c2, if_neg c6, if_pos c7, layI_ok _ _ (by omega)]
    rw [if_neg c7] at hp ⊢
    by_cases c3 : f0 = 3
    · rw [if_pos c3] at hp ⊢
      rw [if_neg (by omega), if_pos (.inl c3)] at hl
      refine ev_step (joinC_ev f4 (fun y hy => ih y hy (hk y hy) (letsB_all f4 hl y hy)) p hp) fun k h => ?_
      rw [nodeC, if_neg c2, if_neg c6, if_neg c7, if_pos c3]
      exact h
    rw [if_neg c3] at hp ⊢
    by_cases c4 : f0 = 4
    · rw [if_pos c4] at hp ⊢
      rw [if_neg (by omega), if_pos (.inr c4)] at hl
      refine ev_step (orC_ev _ f4 (fun y hy => ih y hy (hk y hy) (letsB_all f4 hl y hy)) p [] rfl hp (fun j hj => by simp at hj) (Nat.zero_le _)) fun k h => ?_
      rw [nodeC, if_neg c2, if_neg c6, if_neg c7, if_neg c3, if_pos c4]
      exact h
    rw [if_neg c4] at hp ⊢
    by_cases c5 : f0 = 5
    · rw [if_pos c5] at hp ⊢
      rw [if_pos c5, Bool.and_eq_true] at hl
      obtain ⟨r1, r2, r3, r4, r5, r6⟩ := repB_iff hl.1
      obtain ⟨y, rfl⟩ := List.length_eq_one_iff.1 r1
      have hy := ih y (by simp) (hk y (by simp)) (letsB_all [y] hl.2 y (by simp))
      rw [headN] at hp ⊢
      have em : (fun b => headM [y] b) = fun b => layM y b := by
        funext b
        rw [headM]
      rw [em]
      have hg : ([y] : List TNode).getD 0 z25 = y := rfl
      have ht := timesC_ev y hy f2.toNat p (by omega)
      have hq : (p ++ timesM (fun b => layM y b) (lenM y) f2.toNat p.length).length = p.length + f2.toNat * lenM y := by
        rw [List.length_append, timesM_len _ _ (layM_len y)]
      by_cases c8 : f3 < 0
      · rw [if_pos c8] at hp ⊢
        have hs := hy (p ++ timesM (fun b => layM y b) (lenM y) f2.toNat p.length ++ [⟨2, [], ((p.length + f2.toNat * lenM y : Nat) : Int) + 1, 0⟩]) (by rw [List.length_append, hq, List.length_singleton]; omega)
        refine ev_step2 ht hs fun k g1 g2 => ?_
        rw [List.length_append, hq, List.length_singleton] at g2
        rw [nodeC, if_neg c2, if_neg c6, if_neg c7, if_neg c3, if_neg c4, if_pos c5, repC]
        dsimp only
        rw [if_neg (by simp), if_pos ⟨r2, r3, r4, r5⟩, hg, g1, Option.bind_some, if_pos c8, layI_ok _ _ (by omega), Option.bind_some, hq, g2, Option.bind_some]
        generalize timesM (fun b => layM y b) (lenM y) f2.toNat p.length = tm at *
        have hl2 := layM_len y (p.length + f2.toNat * lenM y + 1)
        have e9 : (p ++ tm ++ [(⟨2, [], ((p.length + f2.toNat * lenM y : Nat) : Int) + 1, 0⟩ : TInst)] ++ layM y (p.length + f2.toNat * lenM y + 1)).length = p.length + f2.toNat * lenM y + 1 + lenM y := by
          rw [List.length_append, List.length_append, hq, hl2, List.length_singleton]
        rw [layI_ok _ _ (by rw [e9]; omega), Option.bind_some, altsC_ok _ _ (inR_one (by rw [List.length_append, e9, List.length_singleton]; omega)), List.foldl_cons, List.foldl_nil, List.length_append, e9, List.length_singleton]
        have e11 : ∀ (Q L : List TInst) (s j : TInst), Q ++ [s] ++ L ++ [j] = Q ++ s :: (L ++ [j]) := fun Q L s j => by simp
        rw [e11, altP_at _ (p ++ tm) _ _ _ hq.symm, starM, List.append_assoc]
        have e10 : p.length + f2.toNat * lenM y + 1 + lenM y + 1 = p.length + f2.toNat * lenM y + 2 + lenM y := by omega
        rw [e10]
      · rw [if_neg c8] at hp ⊢
        have ho := optC_ev y hy (p.length + f2.toNat * lenM y + (f3 - f2).toNat * (lenM y + 1)) (f3 - f2).toNat (p ++ timesM (fun b => layM y b) (lenM y) f2.toNat p.length) [] (by rw [hq]) (by omega) (fun j hj => by simp at hj) (Nat.zero_le _)
        refine ev_step2 ht ho fun k g1 g2 => ?_
        rw [nodeC, if_neg c2, if_neg c6, if_neg c7, if_neg c3, if_neg c4, if_pos c5, repC]
        dsimp only
        rw [if_neg (by simp), if_pos ⟨r2, r3, r4, r5⟩, hg, g1, Option.bind_some, if_neg c8, g2, List.foldl_nil, hq, List.append_assoc]
    rw [if_neg c5] at hp ⊢
    refine ev_one fun k => ?_
    rw [nodeC, if_neg c2, if_neg c6, if_neg c7, if_neg c3, if_neg c4, if_neg c5, List.append_nil]
end Go.Proofs.Ytbbplchdgedhcaa.P
namespace Go.Proofs.Ytbbplchdgedhcaa.P
open Go.RowKit Go.Proofs.YtbbplchdgedhcaaW.PrintWords Go.Proofs.YtbbplchdgedhcaaW.PrintLast
set_option linter.unusedVariables false
set_option linter.unusedSimpArgs false

abbrev layE (k : Nat) (x : TNode) (a : Int) : Option (List TInst) := ductusref19_lay.f k x.f0 x.f1 x.f2 x.f3 x.f4 a
def LaysR (x : TNode) : Prop := ∀ a : Nat, a + lenM x ≤ 1000000000000 → Ev (fun k => layE k x (a : Int)) (layM x a)
theorem w_len (a : Nat) (p : List TInst) (h : a + p.length ≤ 1000000000000) : wrap64 ((a : Int) + (p.length : Int)) = ((a + p.length : Nat) : Int) := by
  rw [wrap_id (by omega) (by omega)]
  omega
theorem w_two (n : Nat) (h : n ≤ 1000000000000) : wrap64 ((n : Int) + 2) = ((n + 2 : Nat) : Int) := by
  rw [wrap_id (by omega) (by omega)]
  omega
theorem w_cast (n m : Nat) (h : n + m ≤ 1000000000000) : wrap64 ((n : Int) + (m : Int)) = ((n + m : Nat) : Int) := by
  rw [wrap_id (by omega) (by omega)]
  omega
theorem w_pred (n : Nat) (h : n < 2199023255552) : wrap64 ((n : Int) - 1) = (n : Int) - 1 := wrap_id (by omega) (by omega)
theorem set_to (p : List TInst) (j n : Int) : p.set j.toNat (⟨(rd_T39 p j).f0, (rd_T39 p j).f1, n, (rd_T39 p j).f3⟩ : TInst) = toP n p j := rfl
theorem set_alt (p : List TInst) (j n : Int) : p.set j.toNat (⟨(rd_T39 p j).f0, (rd_T39 p j).f1, (rd_T39 p j).f2, n⟩ : TInst) = altP n p j := rfl
theorem l2_ev (a : Nat) (js : List Int) (n : Nat) (hn : a + n ≤ 1000000000000) (hj : inR js n) (hjl : js.length ≤ n) (m : Nat) : ∀ (i : Nat) (p : List TInst), i + m = js.length → p.length = n →
    Ev (fun k => ductusref19_lay.l2 k (a : Int) p js (i : Int)) ((js.drop i).foldl (toP ((a + n : Nat) : Int)) p) := by
  induction m with
  | zero =>
    intro i p hi hp
    refine ev_one fun k => ?_
    rw [ductusref19_lay.l2, if_neg (by omega), List.drop_eq_nil_of_le (by omega), List.foldl_nil]
  | succ m ih =>
    intro i p hi hp
    have hr := hj _ (show rd js (i : Int) ∈ js by rw [rd_get js i (by omega)]; exact List.getElem_mem _)
    have hF := toP_app ((a + n : Nat) : Int) p [] (rd js (i : Int)) (by omega)
    refine ev_step (ih (i + 1) (toP ((a + n : Nat) : Int) p (rd js (i : Int))) (by omega) (by rw [hF.2, hp])) fun k h => ?_
    rw [ductusref19_lay.l2, if_pos (by omega), if_pos (by omega), if_pos hr.1, if_pos (by omega), w_len a p (by omega), hp, set_to, wrap_succ i (by omega), h, drop_cons js i (by omega), List.foldl_cons]
theorem l5_ev (a : Nat) (js : List Int) (n : Nat) (hn : a + n ≤ 1000000000000) (hj : inR js n) (hjl : js.length ≤ n) (m : Nat) : ∀ (i : Nat) (p : List TInst), i + m = js.length → p.length = n →
    Ev (fun k => ductusref19_lay.l5 k (a : Int) p js (i : Int)) ((js.drop i).foldl (altP ((a + n : Nat) : Int)) p) := by
  induction m with
  | zero =>
    intro i p hi hp
    refine ev_one fun k => ?_
    rw [ductusref19_lay.l5, if_neg (by omega), List.drop_eq_nil_of_le (by omega), List.foldl_nil]
  | succ m ih =>
    intro i p hi hp
    have hr := hj _ (show rd js (i : Int) ∈ js by rw [rd_get js i (by omega)]; exact List.getElem_mem _)
    have hF := altP_app ((a + n : Nat) : Int) p [] (rd js (i : Int)) (by omega)
    refine ev_step (ih (i + 1) (altP ((a + n : Nat) : Int) p (rd js (i : Int))) (by omega) (by rw [hF.2, hp])) fun k h => ?_
    rw [ductusref19_lay.l5, if_pos (by omega), if_pos (by omega), if_pos hr.1, if_pos (by omega), w_len a p (by omega), hp, set_alt, wrap_succ i (by omega), h, drop_cons js i (by omega), List.foldl_cons]
section
variable (f0 : Int) (f1 : List TRange) (f2 f3 : Int) (l : List TNode)
theorem tn_drop (i : Nat) (h : i < l.length) : l.drop i = rd_T25 l (i : Int) :: l.drop (i + 1) := by
  rw [tn_rd l i h]
  exact List.drop_eq_getElem_cons h
theorem l0_ev (hl : l.length < 2199023255552) (hk : ∀ y ∈ l, LaysR y) (a m : Nat) : ∀ (i : Nat) (p : List TInst), i + m = l.length → a + p.length + joinN (l.drop i) ≤ 1000000000000 →
    Ev (fun k => ductusref19_lay.l0 k (a : Int) p (i : Int) f0 f1 f2 f3 l) (p ++ joinM (l.drop i) (a + p.length)) := by
  induction m with
  | zero =>
    intro i p hi hp
    refine ev_one fun k => ?_
    rw [ductusref19_lay.l0, if_neg (by omega), List.drop_eq_nil_of_le (by omega), joinM, List.append_nil]
  | succ m ih =>
    intro i p hi hp
    rw [tn_drop l i (by omega), joinN] at hp
    rw [tn_drop l i (by omega), joinM]
    generalize hy : rd_T25 l (i : Int) = y at hp ⊢
    have hy0 : y ∈ l := by rw [← hy]; exact tn_mem l i (by omega)
    have hll := layM_len y (a + p.length)
    have ih := ih (i + 1) (p ++ layM y (a + p.length)) (by omega) (by rw [List.length_append, hll]; omega)
    rw [List.length_append, hll] at ih
    refine ev_step2 (hk y hy0 (a + p.length) (by omega)) ih fun k h1 h2 => ?_
    rw [ductusref19_lay.l0, if_pos (by omega), if_pos (by omega), hy, w_len a p (by omega)]
    rw [show ductusref19_lay.f k y.f0 y.f1 y.f2 y.f3 y.f4 ((a + p.length : Nat) : Int) = some (layM y (a + p.length)) from h1, Option.bind_some, if_pos (by omega), wrap_succ i (by omega), h2, List.append_assoc, Nat.add_assoc]
theorem l1_ev (hl : l.length < 2199023255552) (hk : ∀ y ∈ l, LaysR y) (a fin m : Nat) (hb : fin ≤ 1000000000000) : ∀ (i : Nat) (p : List TInst) (js : List Int), i + m = l.length → a + p.length + orN (l.drop i) = fin → inR js p.length → js.length ≤ p.length →
    Ev (fun k => ductusref19_lay.l1 k (a : Int) p js (i : Int) f0 f1 f2 f3 l) (js.foldl (toP (fin : Int)) p ++ orM (l.drop i) (a + p.length) fin) := by
  induction m with
  | zero =>
    intro i p js hi hf hj hn
    rw [List.drop_eq_nil_of_le (by omega), orN, Nat.add_zero] at hf
    rw [List.drop_eq_nil_of_le (by omega), orM, List.append_nil, ← hf]
    have := l2_ev a js p.length (by omega) hj hn js.length 0 p (by omega) rfl
    refine ev_step this fun k h => ?_
    rw [ductusref19_lay.l1, if_neg (by omega)]
    exact h
  | succ m ih =>
    intro i p js hi hf hj hn
    rw [tn_drop l i (by omega), orN] at hf
    rw [tn_drop l i (by omega), orM]
    generalize hy : rd_T25 l (i : Int) = y at hf ⊢
    have hy0 : y ∈ l := by rw [← hy]; exact tn_mem l i (by omega)
    have F := fold_app _ (toP_app (fin : Int)) js p
    by_cases c : (l.drop (i + 1)).length = 0
    · rw [if_pos c] at hf ⊢
      have hll := layM_len y (a + p.length)
      have e0 : l.drop (i + 1) = [] := List.eq_nil_of_length_eq_zero c
      have ih := ih (i + 1) (p ++ layM y (a + p.length)) js (by omega) (by rw [List.length_append, hll, e0, orN]; omega) (hj.mono (by rw [List.length_append]; omega)) (by rw [List.length_append]; omega)
      rw [e0, orM, List.append_nil, (F _ hj).1] at ih
      rw [List.length_drop] at c
      refine ev_step2 (hk y hy0 (a + p.length) (by omega)) ih fun k h1 h2 => ?_
      rw [ductusref19_lay.l1, if_pos (by omega), w_pred _ hl, if_pos (by omega), if_pos (by omega), hy, w_len a p (by omega)]
      rw [show ductusref19_lay.f k y.f0 y.f1 y.f2 y.f3 y.f4 ((a + p.length : Nat) : Int) = some (layM y (a + p.length)) from h1, Option.bind_some, if_pos (by omega), wrap_succ i (by omega), h2]
    · rw [if_neg c] at hf ⊢
      have hll := layM_len y (a + p.length + 1)
      have e2 : (p ++ [(⟨2, [], ((a + p.length : Nat) : Int) + 1, ((a + p.length + 2 + lenM y : Nat) : Int)⟩ : TInst)] ++ layM y (a + p.length + 1)).length = p.length + 1 + lenM y := by
        simp only [List.length_append, List.length_singleton, hll]
      have e3 : (p ++ [(⟨2, [], ((a + p.length : Nat) : Int) + 1, ((a + p.length + 2 + lenM y : Nat) : Int)⟩ : TInst)] ++ layM y (a + p.length + 1) ++ [(⟨3, [], 0, 0⟩ : TInst)]).length = p.length + 2 + lenM y := by
        rw [List.length_append, e2, List.length_singleton]
        omega
      have ih := ih (i + 1) (p ++ [⟨2, [], ((a + p.length : Nat) : Int) + 1, ((a + p.length + 2 + lenM y : Nat) : Int)⟩] ++ layM y (a + p.length + 1) ++ [⟨3, [], 0, 0⟩]) (js ++ [((p.length + 1 + lenM y : Nat) : Int)]) (by omega) (by rw [e3]; omega)
        (hj.snoc (by rw [e3]; omega) (by rw [e3]; omega)) (by rw [e3, List.length_append, List.length_singleton]; omega)
      rw [List.length_drop] at c
      refine ev_step2 (hk y hy0 (a + p.length + 1) (by omega)) ih fun k h1 h2 => ?_
      rw [ductusref19_lay.l1, if_pos (by omega), w_pred _ hl, if_neg (by omega), if_pos (by omega), hy, w_len a p (by omega), wrap_succ (a + p.length) (by omega)]
      rw [show ductusref19_lay.f k y.f0 y.f1 y.f2 y.f3 y.f4 ((a + p.length + 1 : Nat) : Int) = some (layM y (a + p.length + 1)) from h1, Option.bind_some, if_pos (by omega), hll, w_two (a + p.length) (by omega), w_cast (a + p.length + 2) (lenM y) (by omega), Option.bind_some,
        if_pos (by simp only [List.length_append, List.length_singleton]; omega), Option.bind_some]
      have e9 : ((a + p.length + 1 : Nat) : Int) = ((a + p.length : Nat) : Int) + 1 := by omega
      rw [e9, e2, if_pos (by omega), if_pos (by omega), wrap_succ i (by omega), h2, List.foldl_append, List.foldl_cons, List.foldl_nil]
      have e11 : ∀ (Q L : List TInst) (s j : TInst), Q ++ [s] ++ L ++ [j] = Q ++ s :: (L ++ [j]) := fun Q L s j => by simp
      rw [e3, e11, (F _ hj).1]
      have F2 := (F [] hj).2
      have e12 : ∀ (Q L : List TInst) (s j : TInst), Q ++ s :: (L ++ [j]) = (Q ++ s :: L) ++ j :: [] := fun Q L s j => by simp
      rw [e12, toP_at (fin : Int) _ _ _ _ (by rw [List.length_append, F2, List.length_cons, hll]; omega)]
      have e13 : a + (p.length + 2 + lenM y) = a + p.length + 2 + lenM y := by omega
      rw [e13]
      simp only [List.append_assoc, List.cons_append, List.nil_append]
end
section
variable (f0 : Int) (f1 : List TRange) (n2 : Nat) (f3 : Int) (y : TNode)
theorem l4_ev (hk : LaysR y) (n3 : Nat) (h3 : n3 ≤ 20) (a fin m : Nat) (hb : fin ≤ 1000000000000) : ∀ (i : Nat) (p : List TInst) (js : List Int), i + m = n3 → a + p.length + m * (lenM y + 1) = fin → inR js p.length → js.length ≤ p.length →
    Ev (fun k => ductusref19_lay.l4 k (a : Int) p js (i : Int) f0 f1 (n2 : Int) (n3 : Int) [y]) (js.foldl (altP (fin : Int)) p ++ optM (fun b => layM y b) (lenM y) fin m (a + p.length)) := by
  induction m with
  | zero =>
    intro i p js hi hf hj hn
    rw [Nat.zero_mul, Nat.add_zero] at hf
    rw [optM, List.append_nil, ← hf]
    have := l5_ev a js p.length (by omega) hj hn js.length 0 p (by omega) rfl
    refine ev_step this fun k h => ?_
    rw [ductusref19_lay.l4, if_neg (by omega)]
    exact h
  | succ m ih =>
    intro i p js hi hf hj hn
    rw [Nat.succ_mul] at hf
    have F := fold_app _ (altP_app (fin : Int)) js p
    have hll := layM_len y (a + p.length + 1)
    have e1 : (p ++ [(⟨2, [], ((a + p.length : Nat) : Int) + 1, 0⟩ : TInst)]).length = p.length + 1 := by rw [List.length_append, List.length_singleton]
    have e2 : (p ++ [(⟨2, [], ((a + p.length : Nat) : Int) + 1, 0⟩ : TInst)] ++ layM y (a + p.length + 1)).length = p.length + 1 + lenM y := by
      simp only [List.length_append, List.length_singleton, hll]
    have ih := ih (i + 1) (p ++ [⟨2, [], ((a + p.length : Nat) : Int) + 1, 0⟩] ++ layM y (a + p.length + 1)) (js ++ [(p.length : Int)]) (by omega) (by rw [e2]; omega) (hj.snoc (by rw [e2]; omega) (by rw [e2]; omega)) (by rw [e2, List.length_append, List.length_singleton]; omega)
    refine ev_step2 (hk (a + p.length + 1) (by omega)) ih fun k h1 h2 => ?_
    have e9 : ((a + p.length + 1 : Nat) : Int) = ((a + p.length : Nat) : Int) + 1 := by omega
    rw [ductusref19_lay.l4, if_pos (by omega), if_pos (by omega), if_pos (by omega), w_len a p (by omega), wrap_succ (a + p.length) (by omega), Option.bind_some, if_pos (by simp), e9, w_len a _ (by rw [e1]; omega), e1]
    rw [show ductusref19_lay.f k (rd_T25 [y] 0).f0 (rd_T25 [y] 0).f1 (rd_T25 [y] 0).f2 (rd_T25 [y] 0).f3 (rd_T25 [y] 0).f4 ((a + (p.length + 1) : Nat) : Int) = some (layM y (a + p.length + 1)) from h1, Option.bind_some, if_pos (by omega), wrap_succ i (by omega), h2]
    rw [List.append_assoc p, List.singleton_append, List.foldl_append, List.foldl_cons, List.foldl_nil, (F _ hj).1]
    have F2 := (F [] hj).2
    rw [altP_at (fin : Int) _ _ _ _ F2.symm, optM, List.length_append, List.length_cons, hll]
    have e13 : a + (p.length + (lenM y + 1)) = a + p.length + 1 + lenM y := by omega
    rw [e13]
    simp only [List.append_assoc, List.cons_append, List.nil_append]
def tailM (a : Nat) : List TInst := if f3 < 0 then starM (fun b => layM y b) (lenM y) a
  else optM (fun b => layM y b) (lenM y) (a + (f3 - (n2 : Int)).toNat * (lenM y + 1)) (f3 - (n2 : Int)).toNat a
def tailN : Nat := if f3 < 0 then lenM y + 2 else (f3 - (n2 : Int)).toNat * (lenM y + 1)
theorem l3_ev (hk : LaysR y) (h2 : n2 ≤ 20) (h3 : f3 ≤ 20) (hh : f3 < 0 ∨ (n2 : Int) ≤ f3) (a m : Nat) : ∀ (i : Nat) (p : List TInst), i + m = n2 → a + p.length + m * lenM y + tailN n2 f3 y ≤ 1000000000000 →
    Ev (fun k => ductusref19_lay.l3 k (a : Int) p (i : Int) f0 f1 (n2 : Int) f3 [y]) (p ++ timesM (fun b => layM y b) (lenM y) m (a + p.length) ++ tailM n2 f3 y (a + p.length + m * lenM y)) := by
  induction m with
  | zero =>
    intro i p hi hp
    rw [Nat.zero_mul, Nat.add_zero] at hp ⊢
    rw [timesM, List.append_nil]
    have hll := layM_len y (a + p.length + 1)
    by_cases c : f3 < 0
    · rw [tailN, if_pos c] at hp
      rw [tailM, if_pos c]
      refine ev_step (hk (a + p.length + 1) (by omega)) fun k h1 => ?_
      have e9 : ((a + p.length + 1 : Nat) : Int) = ((a + p.length : Nat) : Int) + 1 := by omega
      rw [ductusref19_lay.l3, if_neg (by omega), if_pos c, if_pos (by simp), w_len a p (by omega), wrap_succ (a + p.length) (by omega)]
      rw [show ductusref19_lay.f k (rd_T25 [y] 0).f0 (rd_T25 [y] 0).f1 (rd_T25 [y] 0).f2 (rd_T25 [y] 0).f3 (rd_T25 [y] 0).f4 ((a + p.length + 1 : Nat) : Int) = some (layM y (a + p.length + 1)) from h1, Option.bind_some, if_pos (by omega), hll, w_two (a + p.length) (by omega), w_cast (a + p.length + 2) (lenM y) (by omega), Option.bind_some,
        if_pos (by simp only [List.length_append, List.length_singleton]; omega), Option.bind_some, if_pos (by simp only [List.length_append, List.length_singleton, hll]; omega), e9, starM]
      simp only [List.append_assoc, List.cons_append, List.nil_append]
    · rw [tailN, if_neg c] at hp
      rw [tailM, if_neg c]
      obtain ⟨n3, rfl⟩ : ∃ n : Nat, f3 = (n : Int) := ⟨f3.toNat, by omega⟩
      have e : ((n3 : Int) - (n2 : Int)).toNat = n3 - n2 := by omega
      rw [e] at hp ⊢
      have := l4_ev f0 f1 n2 y hk n3 (by omega) a (a + p.length + (n3 - n2) * (lenM y + 1)) (n3 - n2) hp n2 p [] (by omega) rfl (fun j hj => by simp at hj) (Nat.zero_le _)
      refine ev_step this fun k h => ?_
      rw [ductusref19_lay.l3, if_neg (by omega), if_neg c]
      exact h
  | succ m ih =>
    intro i p hi hp
    rw [Nat.succ_mul] at hp
    have hll := layM_len y (a + p.length)
    have ih := ih (i + 1) (p ++ layM y (a + p.length)) (by omega) (by rw [List.length_append, hll]; omega)
    refine ev_step2 (hk (a + p.length) (by omega)) ih fun k h1 h2 => ?_
    rw [ductusref19_lay.l3, if_pos (by omega), if_pos (by simp), w_len a p (by omega)]
    rw [show ductusref19_lay.f k (rd_T25 [y] 0).f0 (rd_T25 [y] 0).f1 (rd_T25 [y] 0).f2 (rd_T25 [y] 0).f3 (rd_T25 [y] 0).f4 ((a + p.length : Nat) : Int) = some (layM y (a + p.length)) from h1, Option.bind_some, if_pos (by omega), wrap_succ i (by omega), h2]
    rw [timesM, List.length_append, hll]
    have e13 : a + (p.length + lenM y) = a + p.length + lenM y := by omega
    have e14 : a + p.length + lenM y + m * lenM y = a + p.length + (m + 1) * lenM y := by rw [Nat.succ_mul]; omega
    rw [e13, e14]
    simp only [List.append_assoc]
end
theorem laysR (x : TNode) : WfN x → letB x = true → LaysR x := by
  induction x using node_ind with
  | h x ih =>
    intro hw hl a hp
    obtain ⟨_, h0, h1, l1, h2, h3, l4, hk⟩ := hw
    obtain ⟨f0, f1, f2, f3, f4⟩ := x
    simp only at ih l1 l4 hk
    rw [letB] at hl
    rw [lenM] at hp
    rw [layM]
    show Ev (fun k => ductusref19_lay.f k f0 f1 f2 f3 f4 (a : Int)) _
    by_cases c0 : f0 < 1 ∨ f0 > 7
    · rw [if_pos c0] at hl
      cases hl
    rw [if_neg c0] at hl
    by_cases c2 : f0 = 2
    · rw [if_pos c2] at hp ⊢
      refine ev_one fun k => ?_
      rw [ductusref19_lay.f, if_pos c2, if_pos (by simp), List.nil_append]
    rw [if_neg c2] at hp ⊢
    by_cases c6 : f0 = 6
    · rw [if_pos c6] at hp ⊢
      refine ev_one fun k => ?_
      rw [ductusref19_lay.f, if_neg c2, if_pos c6, if_pos (by simp), List.nil_append]
    rw [if_neg c6] at hp ⊢
    by_cases c7 : f0 = 7
    · rw [if_pos c7] at hp ⊢
      refine ev_one fun k => ?_
      rw [ductusref19_lay.f, if_neg c2, if_neg c6, if_pos c7, if_pos (by simp), List.nil_append]
    rw [if_neg c7] at hp ⊢
    by_cases c3 : f0 = 3
    · rw [if_pos c3] at hp ⊢
      rw [if_neg (by omega), if_pos (.inl c3)] at hl
      have := l0_ev f0 f1 f2 f3 f4 l4 (fun y hy => ih y hy (hk y hy) (letsB_all f4 hl y hy)) a f4.length 0 [] (by omega) (by simpa using hp)
      refine ev_step this fun k h => ?_
      rw [ductusref19_lay.f, if_neg c2, if_neg c6, if_neg c7, if_pos c3]
      exact h
    rw [if_neg c3] at hp ⊢
    by_cases c4 : f0 = 4
    · rw [if_pos c4] at hp ⊢
      rw [if_neg (by omega), if_pos (.inr c4)] at hl
      have := l1_ev f0 f1 f2 f3 f4 l4 (fun y hy => ih y hy (hk y hy) (letsB_all f4 hl y hy)) a (a + orN f4) f4.length hp 0 [] [] (by omega) (by simp) (fun j hj => by simp at hj) (Nat.zero_le _)
      refine ev_step this fun k h => ?_
      rw [ductusref19_lay.f, if_neg c2, if_neg c6, if_neg c7, if_neg c3, if_pos c4]
      exact h
    rw [if_neg c4] at hp ⊢
    by_cases c5 : f0 = 5
    · rw [if_pos c5] at hp ⊢
      rw [if_pos c5, Bool.and_eq_true] at hl
      obtain ⟨r1, r2, r3, r4, r5, r6⟩ := repB_iff hl.1
      obtain ⟨y, rfl⟩ := List.length_eq_one_iff.1 r1
      have hy := ih y (by simp) (hk y (by simp)) (letsB_all [y] hl.2 y (by simp))
      rw [headN] at hp ⊢
      have em : (fun b => headM [y] b) = fun b => layM y b := by
        funext b
        rw [headM]
      rw [em]
      obtain ⟨n2, rfl⟩ : ∃ n : Nat, f2 = (n : Int) := ⟨f2.toNat, by omega⟩
      rw [Int.toNat_natCast] at hp ⊢
      have := l3_ev f0 f1 n2 f3 y hy (by omega) r5 (by omega) a n2 0 [] (by omega) (by rw [tailN, List.length_nil]; omega)
      refine ev_step this fun k h => ?_
      rw [ductusref19_lay.f, if_neg c2, if_neg c6, if_neg c7, if_neg c3, if_neg c4, if_pos c5]
      exact h
    rw [if_neg c5] at hp ⊢
    refine ev_one fun k => ?_
    rw [ductusref19_lay.f, if_neg c2, if_neg c6, if_neg c7, if_neg c3, if_neg c4, if_neg c5]
end Go.Proofs.Ytbbplchdgedhcaa.P
namespace Go.Proofs.Ytbbplchdgedhcaa.P
open Go.RowKit Go.Proofs.YtbbplchdgedhcaaW.PrintWords Go.Proofs.YtbbplchdgedhcaaW.PrintLast
set_option linter.unusedVariables false
set_option linter.unusedSimpArgs false

theorem anyS_ev : ∀ (l : List TNode), (∀ y ∈ l, Ev (fun k => letS k y) (letB y)) → Ev (fun k => anyS (fun y => (letS k y).map (!·)) l) (!letsB l)
  | [], _ => ev_now fun k => by simp [anyS, letsB]
  | x :: l, h => by
    refine ev_same2 (h x (by simp)) (anyS_ev l fun y hy => h y (by simp [hy])) fun k h1 h2 => ?_
    rw [anyS, h1, letsB]
    cases letB x with
    | false => rfl
    | true => exact h2
theorem letS_ev (x : TNode) : Ev (fun k => letS k x) (letB x) := by
  induction x using node_ind with
  | h x ih =>
    obtain ⟨f0, f1, f2, f3, f4⟩ := x
    refine ev_step (anyS_ev f4 ih) fun k h => ?_
    rw [letS, letB]
    dsimp only
    by_cases c1 : f0 = 1 ∨ f0 = 2 ∨ f0 = 6 ∨ f0 = 7
    · rw [if_pos c1, if_neg (by omega), if_neg (by omega), if_neg (by omega)]
    rw [if_neg c1]
    by_cases c0 : f0 < 1 ∨ f0 > 7
    · rw [if_pos c0, if_neg (by omega), if_neg (by omega)]
    rw [if_neg c0]
    by_cases c5 : f0 = 5
    · rw [if_pos c5]
      by_cases c6 : (f4.length ≠ 1 ∨ f2 < 0 ∨ f2 > 20 ∨ f3 < -1 ∨ f3 > 20 ∨ f3 ≥ 0 ∧ f3 < f2)
      · have e : repB f2 f3 f4.length = false := by
          rw [repB, decide_eq_true c6]
          rfl
        rw [if_pos ⟨c5, c6⟩, e]
        rfl
      · have e : repB f2 f3 f4.length = true := by
          rw [repB, decide_eq_false c6]
          rfl
        rw [if_neg (fun hh => c6 hh.2), if_pos (.inr (.inr c5)), h, e]
        simp
    · rw [if_neg c5, if_neg (fun hh => c5 hh.1), if_pos (by omega), h]
      simp
      omega
abbrev letE (k : Nat) (x : TNode) : Option Bool := ductusref19_Let.f k x.f0 x.f1 x.f2 x.f3 x.f4
theorem letE_loop (f0 : Int) (f1 : List TRange) (f2 f3 : Int) (l : List TNode) (hl : l.length < 2199023255552) (hf : 3 ≤ f0 ∧ f0 ≤ 5) (hk : ∀ y ∈ l, Ev (fun k => letE k y) (letB y)) (m : Nat) :
    ∀ (i : Nat), i + m = l.length → Ev (fun k => ductusref19_Let.l0 k (i : Int) f0 f1 f2 f3 l) (letsB (l.drop i)) := by
  induction m with
  | zero =>
    intro i hi
    have e : Ev (fun k => ductusref19_Let.j2 k (i : Int) false f0 f1 f2 f3 l) true := ev_one fun k => by
      rw [ductusref19_Let.j2, if_neg (by decide)]
    refine ev_step e fun k h => ?_
    rw [ductusref19_Let.l0, if_neg (by omega), h, List.drop_eq_nil_of_le (by omega), letsB]
  | succ m ih =>
    intro i hi
    have c1 : (i : Int) < (l.length : Int) := by omega
    have c2 : (0 : Int) ≤ (i : Int) := by omega
    have w3 : wrap64 ((i : Int) + 1) = ((i + 1 : Nat) : Int) := wrap_succ i (by omega)
    have e : Ev (fun k => ductusref19_Let.j2 k (i : Int) true f0 f1 f2 f3 l) (letsB (l.drop i)) := by
      refine ev_step2 (hk _ (tn_mem l i (by omega))) (ih (i + 1) (by omega)) fun k h1 h2 => ?_
      have h1' : ductusref19_Let.f k (rd_T25 l (i : Int)).f0 (rd_T25 l (i : Int)).f1 (rd_T25 l (i : Int)).f2 (rd_T25 l (i : Int)).f3 (rd_T25 l (i : Int)).f4 = some (letB (rd_T25 l (i : Int))) := h1
      rw [ductusref19_Let.j2, if_pos rfl, if_pos c2, if_pos c1, h1', Option.bind_some, w3, h2, List.drop_eq_getElem_cons (show i < l.length by omega), letsB, tn_rd l i (by omega)]
      cases letB l[i] with
      | false => rfl
      | true => rfl
    refine ev_step e fun k h => ?_
    rw [ductusref19_Let.l0, if_pos c1, if_pos hf.1, decide_eq_true hf.2]
    exact h
theorem letE_other (f0 : Int) (f1 : List TRange) (f2 f3 : Int) (l : List TNode) (hf : f0 < 3 ∨ 5 < f0) : Ev (fun k => ductusref19_Let.l0 k 0 f0 f1 f2 f3 l) true := by
  have e : Ev (fun k => ductusref19_Let.j2 k 0 false f0 f1 f2 f3 l) true := ev_one fun k => by
    rw [ductusref19_Let.j2, if_neg (by decide)]
  refine ev_step e fun k h => ?_
  rw [ductusref19_Let.l0]
  by_cases c : f0 ≥ 3
  · rw [if_pos c, decide_eq_false (show ¬ f0 ≤ 5 by omega)]
    split <;> exact h
  · rw [if_neg c]
    split <;> exact h
theorem letE_ev (x : TNode) : WfN x → Ev (fun k => letE k x) (letB x) := by
  induction x using node_ind with
  | h x ih =>
    intro hw
    obtain ⟨_, h0, h1, l1, h2, h3, l4, hk⟩ := hw
    obtain ⟨f0, f1, f2, f3, f4⟩ := x
    simp only at ih l4 hk
    have jt : Ev (fun k => ductusref19_Let.j0 k true f0 f1 f2 f3 f4) false := ev_one fun k => by rw [ductusref19_Let.j0, if_pos rfl]
    have jf : Ev (fun k => ductusref19_Let.j0 k false f0 f1 f2 f3 f4) (if 3 ≤ f0 ∧ f0 ≤ 5 then letsB f4 else true) := by
      by_cases c : 3 ≤ f0 ∧ f0 ≤ 5
      · rw [if_pos c]
        have := letE_loop f0 f1 f2 f3 f4 l4 c (fun y hy => ih y hy (hk y hy)) f4.length 0 (by omega)
        refine ev_step this fun k h => ?_
        rw [ductusref19_Let.j0, if_neg (by decide)]
        exact h
      · rw [if_neg c]
        refine ev_step (letE_other f0 f1 f2 f3 f4 (by omega)) fun k h => ?_
        rw [ductusref19_Let.j0, if_neg (by decide)]
        exact h
    refine ev_step2 jt jf fun k ht hf => ?_
    show ductusref19_Let.f (k + 1) f0 f1 f2 f3 f4 = some (letB ⟨f0, f1, f2, f3, f4⟩)
    rw [ductusref19_Let.f, letB]
    by_cases c1 : f0 < 1
    · rw [if_pos c1, if_pos (.inl c1)]
      exact ht
    by_cases c2 : f0 > 7
    · rw [if_neg c1, if_pos c2, if_pos (.inr c2)]
      exact ht
    rw [if_neg c1, if_neg c2, if_neg (show ¬ (f0 < 1 ∨ f0 > 7) by omega)]
    by_cases c5 : f0 = 5
    · rw [if_pos c5, if_pos c5]
      rw [if_pos (show 3 ≤ f0 ∧ f0 ≤ 5 by omega)] at hf
      by_cases d1 : (f4.length : Int) = 1
      rotate_left
      · have e : repB f2 f3 f4.length = false := by
          rw [repB, decide_eq_true (.inl (by omega))]
          rfl
        rw [if_neg d1, ht, e]
        rfl
      rw [if_pos d1]
      by_cases d2 : f2 < 0
      · have e : repB f2 f3 f4.length = false := by
          rw [repB, decide_eq_true (.inr (.inl d2))]
          rfl
        rw [if_pos d2, ht, e]
        rfl
      rw [if_neg d2]
      by_cases d3 : f2 > 20
      · have e : repB f2 f3 f4.length = false := by
          rw [repB, decide_eq_true (.inr (.inr (.inl d3)))]
          rfl
        rw [if_pos d3, ht, e]
        rfl
      rw [if_neg d3]
      by_cases d4 : f3 < -1
      · have e : repB f2 f3 f4.length = false := by
          rw [repB, decide_eq_true (.inr (.inr (.inr (.inl d4))))]
          rfl
        rw [if_pos d4, ht, e]
        rfl
      rw [if_neg d4]
      by_cases d5 : f3 > 20
      · have e : repB f2 f3 f4.length = false := by
          rw [repB, decide_eq_true (.inr (.inr (.inr (.inr (.inl d5)))))]
          rfl
        rw [if_pos d5, ht, e]
        rfl
      rw [if_neg d5]
      by_cases d6 : f3 ≥ 0
      · rw [if_pos d6]
        by_cases d7 : f3 < f2
        · have e : repB f2 f3 f4.length = false := by
            rw [repB, decide_eq_true (.inr (.inr (.inr (.inr (.inr ⟨d6, d7⟩)))))]
            rfl
          rw [decide_eq_true d7, ht, e]
          rfl
        · have e : repB f2 f3 f4.length = true := by
            rw [repB, decide_eq_false (by omega)]
            rfl
          rw [decide_eq_false d7, hf, e]
          rfl
      · have e : repB f2 f3 f4.length = true := by
          rw [repB, decide_eq_false (by omega)]
          rfl
        rw [if_neg d6, hf, e]
        rfl
    · rw [if_neg c5, if_neg c5, hf]
      congr 1
      by_cases d : f0 = 3 ∨ f0 = 4
      · rw [if_pos d, if_pos (by omega)]
      · rw [if_neg d, if_neg (by omega)]
end Go.Proofs.Ytbbplchdgedhcaa.P
namespace Go.Proofs.Ytbbplchdgedhcaa.P
open Go.RowKit Go.Proofs.YtbbplchdgedhcaaW.PrintWords Go.Proofs.YtbbplchdgedhcaaW.PrintLast Go.Proofs.YtbbplchdgedhcaaW.PrintMore
attribute [local go_sem] max2_int min2_int max_two min_two
set_option linter.unusedVariables false
set_option linter.unusedSimpArgs false

def ductusref19_Count.l0 : Nat → List (S39) → Int → Int → Int → Option (Int)
  | 0, _, _, _, _ => none
  | k + 1, x0, x1, x5, x6 => if x6 < (x0.length : Int) then (if 0 ≤ x6 then (if ((rd_T39 x0 x6).f0) = x1 then (ductusref19_Count.l0 k x0 x1 (wrap64 (x5 + 1)) (wrap64 (x6 + 1))) else (ductusref19_Count.l0 k x0 x1 x5 (wrap64 (x6 + 1)))) else (none)) else (some x5)
def ductusref19_Count.f (k : Nat) (l0 : List (S39)) (a1 : Int) : Option (Int) := ductusref19_Count.l0 k l0 a1 0 0
end Go.Proofs.Ytbbplchdgedhcaa.P
namespace Go.Proofs.Ytbbplchdgedhcaa.P
open Go.RowKit Go.Proofs.YtbbplchdgedhcaaW.PrintWords Go.Proofs.YtbbplchdgedhcaaW.PrintLast
set_option linter.unusedVariables false
set_option linter.unusedSimpArgs false

abbrev QR : Type := S42
abbrev QI : Type := S39
theorem ranges_ev (a b : List QR) (hl : a.length = b.length) (hb : a.length < 1152921504606846976) (m : Nat) : ∀ i : Nat, i + m = a.length →
    ∃ r, Ev (fun k => slices_Equal_api_Range.l0 k a b (a.length : Int) (i : Int)) r ∧ Ev (fun k => ductusref16_SameSets.l0 k a b (i : Int)) r ∧ (a = b → r = true) := by
  induction m with
  | zero =>
    intro i hi
    refine ⟨true, ev_one fun k => ?_, ev_one fun k => ?_, fun _ => rfl⟩
    · rw [slices_Equal_api_Range.l0, if_neg (by omega)]
    · rw [ductusref16_SameSets.l0, if_neg (by omega)]
  | succ m ih =>
    intro i hi
    obtain ⟨r, h1, h2, h3⟩ := ih (i + 1) (by omega)
    by_cases c : (!(((rd_T42 a (i : Int)).f0) == ((rd_T42 b (i : Int)).f0)) || (!(((rd_T42 a (i : Int)).f1) == ((rd_T42 b (i : Int)).f1)))) = true
    · refine ⟨false, ev_one fun k => ?_, ev_one fun k => ?_, fun e => ?_⟩
      · rw [slices_Equal_api_Range.l0, if_pos (by omega), if_pos (by omega), if_pos (by omega), if_pos (by omega), if_pos c]
      · rw [ductusref16_SameSets.l0, if_pos (by omega), if_pos (by omega), if_pos (by omega), if_pos c]
      · subst e
        simp at c
    · refine ⟨r, ev_step h1 fun k h => ?_, ev_step h2 fun k h => ?_, h3⟩
      · rw [slices_Equal_api_Range.l0, if_pos (by omega), if_pos (by omega), if_pos (by omega), if_pos (by omega), if_neg c, wrap_succ i (by omega)]
        exact h
      · rw [ductusref16_SameSets.l0, if_pos (by omega), if_pos (by omega), if_pos (by omega), if_neg c, wrap_succ i (by omega)]
        exact h
theorem sets_ev (a b : List QR) (hb : a.length < 1152921504606846976) : ∃ r, Ev (fun k => slices_Equal_api_Range.f k a b) r ∧ Ev (fun k => ductusref16_SameSets.f k a b) r ∧ (a = b → r = true) := by
  by_cases c : a.length = b.length
  · obtain ⟨r, h1, h2, h3⟩ := ranges_ev a b c hb a.length 0 (by omega)
    refine ⟨r, ev_same h1 fun k h => ?_, ev_same h2 fun k h => ?_, h3⟩
    · rw [slices_Equal_api_Range.f, if_pos (by omega)]
      exact h
    · rw [ductusref16_SameSets.f, if_pos (by omega)]
      exact h
  · refine ⟨false, ev_now fun k => ?_, ev_now fun k => ?_, fun e => (c (congrArg List.length e)).elim⟩
    · rw [slices_Equal_api_Range.f, if_neg (by omega)]
    · rw [ductusref16_SameSets.f, if_neg (by omega)]
theorem insts_ev (a b : List QI) (hl : a.length = b.length) (hb : a.length < 1152921504606846976) (hr : ∀ e ∈ a, e.f1.length < 1152921504606846976) (m : Nat) : ∀ i : Nat, i + m = a.length →
    ∃ r, Ev (fun k => slices_EqualFunc_api_Inst_api_Inst_nfa_Same_1.l0 k b a (a.length : Int) (i : Int)) r ∧ Ev (fun k => ductusref19_Same.l0 k a b (i : Int)) r ∧ (a = b → r = true) := by
  induction m with
  | zero =>
    intro i hi
    refine ⟨true, ev_one fun k => ?_, ev_one fun k => ?_, fun _ => rfl⟩
    · rw [slices_EqualFunc_api_Inst_api_Inst_nfa_Same_1.l0, if_neg (by omega)]
    · rw [ductusref19_Same.l0, if_neg (by omega)]
  | succ m ih =>
    intro i hi
    obtain ⟨r, h1, h2, h3⟩ := ih (i + 1) (by omega)
    have ha : rd_T39 a (i : Int) ∈ a := by
      unfold rd_T39
      rw [Int.toNat_natCast, List.getD_eq_getElem?_getD, List.getElem?_eq_getElem (show i < a.length by omega), Option.getD_some]
      exact List.getElem_mem _
    obtain ⟨s, g1, g2, g3⟩ := sets_ev (rd_T39 a (i : Int)).f1 (rd_T39 b (i : Int)).f1 (hr _ ha)
    by_cases c0 : (rd_T39 a (i : Int)).f0 = (rd_T39 b (i : Int)).f0
    rotate_left
    · refine ⟨false, ev_step g1 fun k h => ?_, ev_one fun k => ?_, fun e => (c0 (by rw [e])).elim⟩
      · rw [slices_EqualFunc_api_Inst_api_Inst_nfa_Same_1.l0, if_pos (by omega), if_pos (by omega), if_pos (by omega), if_pos (by omega), nfa_Same_1.f, if_neg c0, Option.bind_some, if_neg (by decide)]
      · rw [ductusref19_Same.l0, if_pos (by omega), if_pos (by omega), if_pos (by omega), if_neg c0]
    by_cases c2 : (rd_T39 a (i : Int)).f2 = (rd_T39 b (i : Int)).f2
    rotate_left
    · refine ⟨false, ev_step g1 fun k h => ?_, ev_one fun k => ?_, fun e => (c2 (by rw [e])).elim⟩
      · rw [slices_EqualFunc_api_Inst_api_Inst_nfa_Same_1.l0, if_pos (by omega), if_pos (by omega), if_pos (by omega), if_pos (by omega), nfa_Same_1.f, if_pos c0, if_neg c2, Option.bind_some, if_neg (by decide)]
      · rw [ductusref19_Same.l0, if_pos (by omega), if_pos (by omega), if_pos (by omega), if_pos c0, if_neg c2]
    by_cases c3 : (rd_T39 a (i : Int)).f3 = (rd_T39 b (i : Int)).f3
    rotate_left
    · refine ⟨false, ev_step g1 fun k h => ?_, ev_one fun k => ?_, fun e => (c3 (by rw [e])).elim⟩
      · rw [slices_EqualFunc_api_Inst_api_Inst_nfa_Same_1.l0, if_pos (by omega), if_pos (by omega), if_pos (by omega), if_pos (by omega), nfa_Same_1.f, if_pos c0, if_pos c2, if_neg c3, Option.bind_some, if_neg (by decide)]
      · rw [ductusref19_Same.l0, if_pos (by omega), if_pos (by omega), if_pos (by omega), if_pos c0, if_pos c2, if_neg c3]
    refine ⟨s && r, ev_step2 g1 h1 fun k h h' => ?_, ev_step2 g2 h2 fun k h h' => ?_, fun e => ?_⟩
    · rw [slices_EqualFunc_api_Inst_api_Inst_nfa_Same_1.l0, if_pos (by omega), if_pos (by omega), if_pos (by omega), if_pos (by omega), nfa_Same_1.f, if_pos c0, if_pos c2, if_pos c3, h, Option.bind_some, Option.bind_some]
      cases s with
      | false => rfl
      | true => rw [if_pos rfl, wrap_succ i (by omega), Bool.true_and]; exact h'
    · rw [ductusref19_Same.l0, if_pos (by omega), if_pos (by omega), if_pos (by omega), if_pos c0, if_pos c2, if_pos c3, h, Option.bind_some]
      cases s with
      | false => rfl
      | true => rw [if_pos rfl, wrap_succ i (by omega), Bool.true_and]; exact h'
    · rw [g3 (by rw [e]), h3 e]
      rfl
theorem same_ev (a b : List QI) (hb : a.length < 1152921504606846976) (hr : ∀ e ∈ a, e.f1.length < 1152921504606846976) : ∃ r, Ev (fun k => nfa_Same.f k a b) r ∧ Ev (fun k => ductusref19_Same.f k a b) r ∧ (a = b → r = true) := by
  by_cases c : a.length = b.length
  · obtain ⟨r, h1, h2, h3⟩ := insts_ev a b c hb hr a.length 0 (by omega)
    refine ⟨r, ev_same h1 fun k h => ?_, ev_same h2 fun k h => ?_, h3⟩
    · rw [nfa_Same.f, slices_EqualFunc_api_Inst_api_Inst_nfa_Same_1.f, if_pos (by omega)]
      have h' : slices_EqualFunc_api_Inst_api_Inst_nfa_Same_1.l0 k b a (a.length : Int) 0 = some r := h
      rw [h', Option.bind_some]
    · rw [ductusref19_Same.f, if_pos (by omega)]
      exact h
  · refine ⟨false, ev_now fun k => ?_, ev_now fun k => ?_, fun e => (c (congrArg List.length e)).elim⟩
    · rw [nfa_Same.f, slices_EqualFunc_api_Inst_api_Inst_nfa_Same_1.f, if_neg (by omega), Option.bind_some]
    · rw [ductusref19_Same.f, if_neg (by omega)]
theorem same_self (a : List QI) (hb : a.length < 1152921504606846976) (hr : ∀ e ∈ a, e.f1.length < 1152921504606846976) : Ev (fun k => nfa_Same.f k a a) true ∧ Ev (fun k => ductusref19_Same.f k a a) true := by
  obtain ⟨r, h1, h2, h3⟩ := same_ev a a hb hr
  rw [h3 rfl] at h1 h2
  exact ⟨h1, h2⟩
/-- How many of an Op, from a place on. -/
def cntI (op : Int) : List QI → Int
  | [] => 0
  | e :: l => (if e.f0 = op then 1 else 0) + cntI op l
theorem ti_drop (l : List QI) (i : Nat) (h : i < l.length) : l.drop i = rd_T39 l (i : Int) :: l.drop (i + 1) := by
  unfold rd_T39
  rw [Int.toNat_natCast, List.getD_eq_getElem?_getD, List.getElem?_eq_getElem h, Option.getD_some]
  exact List.drop_eq_getElem_cons h
theorem count_ev (l : List QI) (op : Int) (hb : l.length < 1152921504606846976) (m : Nat) : ∀ (i n : Nat), i + m = l.length → n ≤ i →
    Ev (fun k => nfa_Count.l0 k op (n : Int) l (l.length : Int) (i : Int)) ((n : Int) + cntI op (l.drop i)) ∧ Ev (fun k => ductusref19_Count.l0 k l op (n : Int) (i : Int)) ((n : Int) + cntI op (l.drop i)) := by
  induction m with
  | zero =>
    intro i n hi hn
    rw [List.drop_eq_nil_of_le (by omega), cntI, Int.add_zero]
    refine ⟨ev_one fun k => ?_, ev_one fun k => ?_⟩
    · rw [nfa_Count.l0, if_neg (by omega)]
    · rw [ductusref19_Count.l0, if_neg (by omega)]
  | succ m ih =>
    intro i n hi hn
    rw [ti_drop l i (by omega), cntI]
    by_cases c : (rd_T39 l (i : Int)).f0 = op
    · obtain ⟨h1, h2⟩ := ih (i + 1) (n + 1) (by omega) (by omega)
      have e : (((n + 1 : Nat) : Int) + cntI op (l.drop (i + 1))) = ((n : Int) + (1 + cntI op (l.drop (i + 1)))) := by omega
      rw [e] at h1 h2
      rw [if_pos c]
      refine ⟨ev_step h1 fun k h => ?_, ev_step h2 fun k h => ?_⟩
      · rw [nfa_Count.l0, if_pos (by omega), if_pos (by omega), if_pos (by omega), if_pos c, wrap_succ i (by omega), wrap_succ n (by omega)]
        exact h
      · rw [ductusref19_Count.l0, if_pos (by omega), if_pos (by omega), if_pos c, wrap_succ i (by omega), wrap_succ n (by omega)]
        exact h
    · obtain ⟨h1, h2⟩ := ih (i + 1) n (by omega) (by omega)
      rw [if_neg c, Int.zero_add]
      refine ⟨ev_step h1 fun k h => ?_, ev_step h2 fun k h => ?_⟩
      · rw [nfa_Count.l0, if_pos (by omega), if_pos (by omega), if_pos (by omega), if_neg c, wrap_succ i (by omega)]
        exact h
      · rw [ductusref19_Count.l0, if_pos (by omega), if_pos (by omega), if_neg c, wrap_succ i (by omega)]
        exact h
theorem counts (l : List QI) (op : Int) (hb : l.length < 1152921504606846976) : Ev (fun k => nfa_Count.f k l op) (cntI op l) ∧ Ev (fun k => ductusref19_Count.f k l op) (cntI op l) := by
  have := count_ev l op hb l.length 0 0 (by omega) (by omega)
  rw [List.drop_zero] at this
  have e : (((0 : Nat) : Int) + cntI op l) = cntI op l := Int.zero_add _
  rw [e] at this
  exact this
end Go.Proofs.Ytbbplchdgedhcaa.P
namespace Go.Proofs.Ytbbplchdgedhcaa.P
open Go.Deep Go.ChangeShapes Go.WideShapes Go.Proofs.YtbbplchdgedhcaaW.PrintWords
set_option linter.unusedVariables false
set_option linter.unusedSimpArgs false

/-- What an argument's data weigh is within the reach. -/
def Lite {H : Type} (P : Program) (t : TypeId) (d : DataW H) : Prop := ∀ q ∈ d.weights P t, q ≤ reachBytes
/-- What reads by a type, within m steps, is of a kind. -/
def Opens {α H : Type} (enc : TypeId × Value → H) (P : Program) (w : World) (base : Nat) (held : Bool) (t : TypeId) (d : Kd α) (wf : α → Prop) (m : Nat) : Prop :=
  ∀ (cs : List Value) (y : DataW H × List MemPlace), DataW.trod enc P w base (fun _ => true) held m t cs = some y → Lite P t y.1 → ∃ v, d.K w v cs ∧ wf v
section
variable {α H : Type} {enc : TypeId × Value → H} {P : Program} {w : World} {base : Nat} {held : Bool}
theorem weightsAll_mem {e : TypeId} {n : Nat} {d : DataW H} : ∀ {l : List (DataW H)}, d ∈ l → n ∈ d.weights P e → n ∈ DataW.weightsAll P e l
  | [], h, _ => by simp at h
  | x :: l, h, hn => by
    simp only [DataW.weightsAll, List.mem_append]
    rcases List.mem_cons.1 h with rfl | h
    · exact .inl hn
    · exact .inr (weightsAll_mem h hn)
theorem opens_slice [Inhabited α] {t e : TypeId} {d : Kd α} {wf : α → Prop} {B : Nat} (ht : P.underlying t = some (.slice e)) (hc : P.cellsOf e = d.sz) (hB : P.bytesOf e = B) (m : Nat) (ih : ∀ n, m = n + 1 → Opens enc P w base held e d wf n) :
    Opens enc P w base held t (Kd.slice e d) (fun l => l.length * B ≤ 140737488351232 ∧ ∀ x ∈ l, wf x) m := by
  intro cs y h hw
  rcases DataW.trod_slice ht h with ⟨rfl, _⟩ | ⟨a, len, cap, elems, rest, n, hn, rfl, rfl, hb, hl, hm, hlen, hel, _, _⟩
  · exact ⟨[], ⟨none, 0, rfl, Nat.le_refl _, ⟨rfl, by simp, fun h => absurd h (Nat.lt_irrefl 0)⟩⟩, by simp, by simp⟩
  · have hO := ih n hn
    have ex : ∀ i, i < len → ∃ v : α, (∃ c : List Value, c.length = d.sz ∧ d.K w v c ∧ ∀ j u, c[j]? = some u → w.cell? (a.add (i * d.sz + j)) = some u) ∧ wf v := by
      intro i hi
      have h1 := hel i hi
      rw [hc] at h1
      have h2 : elems[i]? = some (elems[i]'(by omega)) := List.getElem?_eq_getElem (by omega)
      rw [h2] at h1
      obtain ⟨c, hc1, hc2⟩ := Option.bind_eq_some_iff.mp h1
      obtain ⟨_, hcl, hcell⟩ := World.cells?_some hc1
      obtain ⟨v, hv, hwf⟩ := hO c _ hc2 (fun q hq => hw q (by
        simp only [DataW.weights, ht, List.mem_cons, List.mem_append]
        exact .inr (.inl (weightsAll_mem (List.mem_map_of_mem (List.getElem_mem (by omega))) hq))))
      refine ⟨v, ⟨c, hcl, hv, fun j u hu => ?_⟩, hwf⟩
      have hj : j < d.sz := by rw [← hcl]; exact (List.getElem?_eq_some_iff.1 hu).1
      rw [← Go.Deep.add_add, hcell j hj]
      exact hu
    obtain ⟨q, hq⟩ := choose_lt ex
    have hlen2 : ((List.range len).map q).length = len := by simp
    refine ⟨(List.range len).map q, ⟨some a, cap, by rw [hlen2], by rw [hlen2]; exact hl, ?_⟩, ?_, ?_⟩
    · rw [hlen2]
      refine ⟨hlen2, by have := Nat.le_trans hl hm; simp only [maxLen] at this; omega, fun _ => ⟨a, rfl, fun j p hp => ?_⟩⟩
      have hj : j < len := by
        have := (List.getElem?_eq_some_iff.1 hp).1
        rwa [hlen2] at this
      have hpq : p = q j := by
        rw [List.getElem?_map, List.getElem?_range hj] at hp
        exact (Option.some.inj hp).symm
      subst hpq
      obtain ⟨⟨c, h1, h2, h3⟩, _⟩ := hq j hj
      exact ⟨c, h1, h2, h3⟩
    · rw [hlen2]
      have := hw ((elems.length + rest.length) * B) (by simp only [DataW.weights, ht, List.length_map, hB]; exact List.mem_cons_self)
      have h2 : len * B ≤ (elems.length + rest.length) * B := Nat.mul_le_mul_right _ (by omega)
      exact Nat.le_trans h2 this
    · intro x hx
      obtain ⟨j, hj, rfl⟩ := List.mem_map.1 hx
      exact (hq j (List.mem_range.1 hj)).2
theorem okWide_struct {r : Reach} {b0 : Nat} {t : TypeId} {fs : Array Field} {v : Value} (ht : P.underlying t = some (.struct fs)) (h : Value.okWide P w r b0 t v) : ∃ cs, v = .agg cs ∧ cs.size = P.cellsOf t := by
  simp only [Value.okWide, ht] at h
  obtain ⟨cs, h1, h2, _⟩ := h
  exact ⟨cs, h1, h2⟩
end
section
variable {H : Type} {enc : TypeId × Value → H} {w : World} {base : Nat} {held : Bool}
def w64 (x : Int) : Prop := -9223372036854775808 ≤ x ∧ x ≤ 9223372036854775807
theorem w64_of {x : Int} (h : (Lit.int .i64 x).wf = true) : w64 x := by
  have hmin : IntKind.i64.min = -9223372036854775808 := rfl
  have hmax : IntKind.i64.max = 9223372036854775807 := rfl
  simp only [Lit.wf, Bool.and_eq_true, decide_eq_true_eq] at h
  unfold w64
  omega
theorem cells_int : Try.prog.cellsOf 3 = 1 := by kernel_rfl
theorem cells_ranges : Try.prog.cellsOf 22 = 1 := by kernel_rfl
theorem cells_nodes : Try.prog.cellsOf 23 = 1 := by kernel_rfl
theorem cells_range : Try.prog.cellsOf 42 = 2 := by kernel_rfl
theorem cells_node : Try.prog.cellsOf 25 = 5 := by kernel_rfl
theorem bytes_range : Try.prog.bytesOf 42 = 16 := by kernel_rfl
theorem bytes_node : Try.prog.bytesOf 25 = 72 := by kernel_rfl
instance : Inhabited S42 := ⟨z42⟩
instance : Inhabited S25 := ⟨z25⟩
theorem opens_range (m : Nat) : Opens enc Try.prog w base held 42 k42 (fun r => w64 r.f0 ∧ w64 r.f1) m := by
  intro cs y h _
  obtain ⟨xs, n, rfl, _, hl, hxl, hf⟩ := DataW.trod_struct Try.underlying42 h
  rw [cells_range] at hl
  match xs, hxl, cs, hl with
  | [y0, y1], _, [c0, c1], _ =>
    have g0 := hf 0 _ rfl
    have g1 := hf 1 _ rfl
    simp [cells_int] at g0 g1
    obtain ⟨x0, e0, _, w0⟩ := DataW.trod_int Try.underlying3 g0
    obtain ⟨x1, e1, _, w1⟩ := DataW.trod_int Try.underlying3 g1
    obtain rfl := (List.cons.inj e0).1
    obtain rfl := (List.cons.inj e1).1
    exact ⟨⟨x0, x1⟩, k42_mk w ⟨x0, x1⟩, w64_of w0, w64_of w1⟩
/-- A tree that was read. -/
inductive WfT : S25 → Prop
  | mk (x : S25) (h0 : w64 x.f0) (l1 : x.f1.length * 16 ≤ 140737488351232) (h1 : ∀ r ∈ x.f1, w64 r.f0 ∧ w64 r.f1) (h2 : w64 x.f2) (h3 : w64 x.f3) (l4 : x.f4.length * 72 ≤ 140737488351232) (hk : ∀ y ∈ x.f4, WfT y) : WfT x
theorem opens_ranges (m : Nat) : Opens enc Try.prog w base held 22 (Kd.slice 42 k42) (fun l => l.length * 16 ≤ 140737488351232 ∧ ∀ r ∈ l, w64 r.f0 ∧ w64 r.f1) m :=
  opens_slice Try.underlying22 (by rw [cells_range]; rfl) bytes_range m (fun n _ => opens_range n)
theorem opens_node : ∀ m : Nat, Opens enc Try.prog w base held 25 k25 WfT m := by
  intro m
  induction m using Nat.strongRecOn with
  | ind m ih =>
    intro cs y h hw
    obtain ⟨xs, n, rfl, rfl, hl, hxl, hf⟩ := DataW.trod_struct Try.underlying25 h
    rw [cells_node] at hl
    match xs, hxl, cs, hl with
    | [y0, y1, y2, y3, y4], _, [c0, c1, c2, c3, c4], _ =>
      have g0 := hf 0 _ rfl
      have g1 := hf 1 _ rfl
      have g2 := hf 2 _ rfl
      have g3 := hf 3 _ rfl
      have g4 := hf 4 _ rfl
      simp [cells_int, cells_ranges, cells_nodes] at g0 g1 g2 g3 g4
      obtain ⟨x0, e0, _, w0⟩ := DataW.trod_int Try.underlying3 g0
      obtain ⟨x2, e2, _, w2⟩ := DataW.trod_int Try.underlying3 g2
      obtain ⟨x3, e3, _, w3⟩ := DataW.trod_int Try.underlying3 g3
      obtain rfl := (List.cons.inj e0).1
      obtain rfl := (List.cons.inj e2).1
      obtain rfl := (List.cons.inj e3).1
      have hwe : ∀ (j : Nat) (t : TypeId) (d : DataW H), [3, 22, 3, 3, 23][j]? = some t → [y0.1, y1.1, y2.1, y3.1, y4.1][j]? = some d → Lite Try.prog t d := by
        intro j t d ht hd q hq
        refine hw q ?_
        simp only [DataW.weights, Try.underlying25]
        exact DataW.weights_mem_each (j := j) ht hd q hq
      obtain ⟨l1, hk1, hl1⟩ := opens_ranges n [c1] y1 g1 (hwe 1 _ _ rfl rfl)
      obtain ⟨l4, hk4, hl4⟩ := opens_slice (wf := WfT) Try.underlying23 (by rw [cells_node]; rfl) bytes_node n (fun q hq => ih q (by omega)) [c4] y4 g4 (hwe 4 _ _ rfl rfl)
      obtain ⟨A1, d1, he1, hd1, hC1⟩ := hk1
      obtain ⟨A4, d4, he4, hd4, hC4⟩ := hk4
      obtain rfl := (List.cons.inj he1).1
      obtain rfl := (List.cons.inj he4).1
      exact ⟨⟨x0, l1, x2, x3, l4⟩, k25_mk w ⟨x0, l1, x2, x3, l4⟩ hd1 hC1 hd4 hC4, .mk _ (w64_of w0) hl1.1 hl1.2 (w64_of w2) (w64_of w3) hl4.1 hl4.2⟩
/-- An argument that is a tree. -/
theorem open_node {r : Reach} {b0 : Nat} {v : Value} {d : DataW H} {p : List MemPlace} (hv : Value.okWide Try.prog w r b0 25 v) (h : DataW.Trod enc Try.prog w base (fun _ => true) held 25 v d p) (hw : Lite Try.prog 25 d) :
    ∃ (x : S25) (A1 : Option Addr) (c1 : Nat) (A4 : Option Addr) (c4 : Nat), v = .agg #[.int .i64 x.f0, .slice A1 x.f1.length c1, .int .i64 x.f2, .int .i64 x.f3, .slice A4 x.f4.length c4] ∧ x.f1.length ≤ c1 ∧ Kd.C k42 w A1 x.f1.length x.f1 ∧ x.f4.length ≤ c4 ∧ Kd.C k25 w A4 x.f4.length x.f4 ∧ WfT x := by
  obtain ⟨cs, rfl, hs⟩ := okWide_struct Try.underlying25 hv
  obtain ⟨fuel, hf⟩ := h
  obtain ⟨x, hK, hwf⟩ := opens_node fuel _ _ hf hw
  obtain ⟨A1, c1, A4, c4, he, l1, g1, l4, g4⟩ := k25_open hK
  refine ⟨x, A1, c1, A4, c4, ?_, l1, g1, l4, g4, hwf⟩
  have he2 : cs.toList = [.int .i64 x.f0, .slice A1 x.f1.length c1, .int .i64 x.f2, .int .i64 x.f3, .slice A4 x.f4.length c4] := he
  rw [show cs = #[.int .i64 x.f0, .slice A1 x.f1.length c1, .int .i64 x.f2, .int .i64 x.f3, .slice A4 x.f4.length c4] from Array.toList_inj.1 (by simpa using he2)]
theorem lite_of {ts : List TypeId} {ds : List (DataW H)} {j : Nat} {t : TypeId} {d : DataW H} (hsz : (DataW.weightsEach Try.prog ts ds).all (· ≤ reachBytes) = true) (ht : ts[j]? = some t) (hd : ds[j]? = some d) : Lite Try.prog t d := fun q hq => by
  simpa using List.all_eq_true.1 hsz q (DataW.weights_mem_each ht hd q hq)
end
end Go.Proofs.Ytbbplchdgedhcaa.P
namespace Go.Proofs.Ytbbplchdgedhcaa.P
open Go.RowKit Go.Proofs.YtbbplchdgedhcaaW.PrintWords Go.Proofs.YtbbplchdgedhcaaW.PrintLast
set_option linter.unusedVariables false
set_option linter.unusedSimpArgs false

theorem wf_of (x : TNode) : WfT x → WfN x := by
  induction x using node_ind with
  | h x ih =>
    intro hw
    obtain ⟨_, h0, l1, h1, h2, h3, l4, hk⟩ := hw
    exact .mk x h0 h1 (by omega) h2 h3 (by omega) fun y hy => ih y hy (hk y hy)
def lastI : TInst := ⟨0, [], 0, 0⟩
def compM (x : TNode) : List TInst × Int := if letB x = true then compT (layM x 0 ++ [lastI]) else ([], 1)
theorem compC_ev (x : TNode) (hw : WfN x) (hl : letB x = true → lenM x ≤ 9000) : Ev (fun k => nfa_Compile.f k x.f0 x.f1 x.f2 x.f3 x.f4) (compM x) := by
  have e : (fun k => nfa_Compile.f k x.f0 x.f1 x.f2 x.f3 x.f4) = fun k => compX k x := by
    funext k
    obtain ⟨f0, f1, f2, f3, f4⟩ := x
    rfl
  rw [e]
  by_cases c : letB x = true
  · have hn := hl c
    have hs := letS_ev x
    have hy := laysC x hw c [] (by rw [List.length_nil]; omega)
    rw [c] at hs
    refine ev_same2 hs hy fun k h h' => ?_
    rw [compX, h, Option.bind_some, if_pos rfl, h', Option.bind_some, List.nil_append, List.length_nil, layI_ok _ _ (by rw [layM_len]; omega), compM, if_pos c]
    rfl
  · have hs := letS_ev x
    have c' : letB x = false := by simpa using c
    rw [c'] at hs
    refine ev_same hs fun k h => ?_
    rw [compX, h, Option.bind_some, if_neg (by decide), compM, if_neg c]
theorem compR_ev (x : TNode) (hw : WfN x) (hl : letB x = true → lenM x ≤ 9000) : Ev (fun k => ductusref19_Compile.f k x.f0 x.f1 x.f2 x.f3 x.f4) (compM x) := by
  by_cases c : letB x = true
  · have hn := hl c
    have hs := letE_ev x hw
    have hy := laysR x hw c 0 (by omega)
    rw [c] at hs
    refine ev_same2 hs hy fun k h h' => ?_
    have h2 : ductusref19_lay.f k x.f0 x.f1 x.f2 x.f3 x.f4 0 = some (layM x 0) := h'
    have h1 : ductusref19_Let.f k x.f0 x.f1 x.f2 x.f3 x.f4 = some true := h
    rw [ductusref19_Compile.f, h1, Option.bind_some, if_pos rfl, h2, Option.bind_some, if_pos (by rw [layM_len]; omega), Option.bind_some, compM, if_pos c]
    unfold compT
    show (if ((layM x 0 ++ [lastI]).length : Int) > 1000 then some ([], 10) else some (layM x 0 ++ [lastI], 0)) = some (if ((layM x 0 ++ [lastI]).length : Int) > 1000 then ([], 10) else (layM x 0 ++ [lastI], 0))
    by_cases c2 : ((layM x 0 ++ [lastI]).length : Int) > 1000
    · rw [if_pos c2, if_pos c2]
    · rw [if_neg c2, if_neg c2]
  · have hs := letE_ev x hw
    have c' : letB x = false := by simpa using c
    rw [c'] at hs
    refine ev_same hs fun k h => ?_
    have h1 : ductusref19_Let.f k x.f0 x.f1 x.f2 x.f3 x.f4 = some false := h
    rw [ductusref19_Compile.f, h1, Option.bind_some, if_neg (by decide), compM, if_neg c]
theorem len_small (x : TNode) (n : Nat) (hn : n < 1000000) (h : sizeT x ≤ n) : letB x = true → lenM x ≤ 3 * n := fun c => by
  have := len_le x c (by omega)
  omega
abbrev rgs (l : List TInst) : Prop := ∀ e ∈ l, e.f1.length < 8796093022208
theorem rgs_app {l m : List TInst} (h : rgs l) (h' : rgs m) : rgs (l ++ m) := fun e he => (List.mem_append.1 he).elim (h e) (h' e)
theorem rgs_cons {x : TInst} {m : List TInst} (h : x.f1 = []) (h' : rgs m) : rgs (x :: m) := fun e he => by
  rcases List.mem_cons.1 he with rfl | he
  · rw [h]
    decide
  · exact h' e he
theorem rgs_nil : rgs [] := fun e he => by cases he
theorem rgs_times (g : Nat → List TInst) (len : Nat) (hg : ∀ a, rgs (g a)) : ∀ n a, rgs (timesM g len n a)
  | 0, _ => rgs_nil
  | n + 1, a => rgs_app (hg a) (rgs_times g len hg n _)
theorem rgs_opt (g : Nat → List TInst) (len fin : Nat) (hg : ∀ a, rgs (g a)) : ∀ n a, rgs (optM g len fin n a)
  | 0, _ => rgs_nil
  | n + 1, a => rgs_cons rfl (rgs_app (hg _) (rgs_opt g len fin hg n _))
theorem rgs_join : ∀ (l : List TNode), (∀ y ∈ l, ∀ a, rgs (layM y a)) → ∀ a, rgs (joinM l a)
  | [], _, a => by rw [joinM]; exact rgs_nil
  | x :: l, h, a => by
    rw [joinM]
    exact rgs_app (h x (by simp) a) (rgs_join l (fun y hy => h y (by simp [hy])) _)
theorem rgs_or : ∀ (l : List TNode), (∀ y ∈ l, ∀ a, rgs (layM y a)) → ∀ a fin, rgs (orM l a fin)
  | [], _, a, fin => by rw [orM]; exact rgs_nil
  | x :: l, h, a, fin => by
    rw [orM]
    split
    · exact h x (by simp) a
    · exact rgs_cons rfl (rgs_app (h x (by simp) _) (rgs_cons rfl (rgs_or l (fun y hy => h y (by simp [hy])) _ _)))
theorem rgs_lay (x : TNode) : WfN x → ∀ a, rgs (layM x a) := by
  induction x using node_ind with
  | h x ih =>
    intro hw a
    obtain ⟨_, h0, h1, l1, h2, h3, l4, hk⟩ := hw
    obtain ⟨f0, f1, f2, f3, f4⟩ := x
    simp only at ih l1 hk
    have hh : ∀ b, rgs ((fun b => headM f4 b) b) := fun b => by
      show rgs (headM f4 b)
      cases f4 with
      | nil => rw [headM]; exact rgs_nil
      | cons y l =>
        rw [headM]
        exact ih y (by simp) (hk y (by simp)) b
    rw [layM]
    repeat' split
    all_goals first
      | exact rgs_nil
      | exact rgs_cons rfl rgs_nil
      | exact rgs_join f4 (fun y hy => ih y hy (hk y hy)) a
      | exact rgs_or f4 (fun y hy => ih y hy (hk y hy)) a _
      | exact rgs_app (rgs_times _ _ hh _ _) (rgs_cons rfl (rgs_app (hh _) (rgs_cons rfl rgs_nil)))
      | exact rgs_app (rgs_times _ _ hh _ _) (rgs_opt _ _ _ hh _ _)
      | (intro e he
         rw [List.mem_singleton.1 he]
         exact l1)
theorem comp_rgs (x : TNode) (hw : WfN x) : rgs (compM x).1 ∧ (compM x).1.length ≤ 1000 := by
  unfold compM compT
  split
  · split
    · exact ⟨rgs_nil, by simp⟩
    · exact ⟨rgs_app (rgs_lay x hw 0) (rgs_cons rfl rgs_nil), by show (layM x 0 ++ [lastI]).length ≤ 1000; omega⟩
  · exact ⟨rgs_nil, by simp⟩
theorem alive_ok : ductuslaw19_alive.f = some true := by kernel_rfl
end Go.Proofs.Ytbbplchdgedhcaa.P
namespace Go.Proofs.Ytbbplchdgedhcaa.Pure
open Go.RowKit Go.Proofs.Ytbbplchdgedhcaa.P Go.Proofs.YtbbplchdgedhcaaW.PrintWords Go.Proofs.YtbbplchdgedhcaaW.PrintLast
set_option linter.unusedVariables false
set_option linter.unusedSimpArgs false

theorem NfaCompiles (x : TNode) (h : WfT x) : ∃ k, ductuslaw19_NfaCompiles.f k x.f0 x.f1 x.f2 x.f3 x.f4 = some true := by
  have hw := wf_of x h
  obtain ⟨W, hW, _, _⟩ := weight_ev x hw 0 (by omega)
  have hS := size_ev x hw
  have hsr := size_rng x
  have jt : Ev (fun k => ductuslaw19_NfaCompiles.j0 k true x.f0 x.f1 x.f2 x.f3 x.f4) true := ev_one fun k => by rw [ductuslaw19_NfaCompiles.j0, if_pos rfl]
  have jd : Ev (fun k => ductuslaw19_NfaCompiles.j0 k (decide (sizeT x > 3000)) x.f0 x.f1 x.f2 x.f3 x.f4) true := by
    by_cases c : sizeT x > 3000
    · rw [decide_eq_true c]
      exact jt
    · rw [decide_eq_false c]
      have hl := len_small x 3000 (by omega) (by omega)
      have hr := comp_rgs x hw
      have hs := same_self (compM x).1 (by omega) (fun e he => by have := hr.1 e he; omega)
      refine ev_step3 (compC_ev x hw hl) (compR_ev x hw hl) hs.2 fun k h1 h2 h3 => ?_
      rw [ductuslaw19_NfaCompiles.j0, if_neg (by decide), h1, Option.bind_some, h2, Option.bind_some, h3, Option.bind_some, if_pos rfl]
      simp
  obtain ⟨k, hk⟩ : Ev (fun k => ductuslaw19_NfaCompiles.f k x.f0 x.f1 x.f2 x.f3 x.f4) true := by
    by_cases c : W > 1000
    · refine ev_same2 hW jt fun k h1 h2 => ?_
      have h1' : ductusref16_Weight.f k x.f0 x.f1 x.f2 x.f3 x.f4 0 = some W := h1
      rw [ductuslaw19_NfaCompiles.f, alive_ok, Option.bind_some, if_pos rfl, h1', Option.bind_some, if_pos c]
      exact h2
    · refine ev_same3 hW hS jd fun k h1 h2 h3 => ?_
      have h1' : ductusref16_Weight.f k x.f0 x.f1 x.f2 x.f3 x.f4 0 = some W := h1
      have h2' : ductusref16_Size.f k x.f0 x.f1 x.f2 x.f3 x.f4 = some (sizeT x) := h2
      rw [ductuslaw19_NfaCompiles.f, alive_ok, Option.bind_some, if_pos rfl, h1', Option.bind_some, if_neg c, h2', Option.bind_some]
      exact h3
  exact ⟨k, hk k (Nat.le_refl _)⟩
end Go.Proofs.Ytbbplchdgedhcaa.Pure
