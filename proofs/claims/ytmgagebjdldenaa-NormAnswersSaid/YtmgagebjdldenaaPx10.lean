/- Printed by a program of this claim's own over the translation: Lean functions of the Go functions, each with its proof; no condition beyond those written. -/
import Derived.Test.YtmgagebjdldenaaPx0
import Derived.Test.YtmgagebjdldenaaPx1
import Derived.Test.YtmgagebjdldenaaPx3
import Derived.Test.YtmgagebjdldenaaPx4
import Derived.Test.YtmgagebjdldenaaPx5
import Derived.Test.YtmgagebjdldenaaPx6
import Derived.Test.YtmgagebjdldenaaPx7
import Derived.Test.YtmgagebjdldenaaPx8
import Derived.Test.YtmgagebjdldenaaPx9
namespace Go.Proofs.Ytmgagebjdldenaa.P
open Go.RowKit Go.Proofs.YtmgagebjdldenaaW.PrintWords Go.Proofs.YtmgagebjdldenaaW.PrintLast Go.Proofs.YtmgagebjdldenaaW.PrintMore
attribute [local go_sem] max2_int min2_int max_two min_two max_three min_three max_four min_four   -- for this text's walks alone
set_option linter.unusedVariables false
set_option linter.unusedSimpArgs false

attribute [local go_sem high] eqA24
/-! ### ductuslaw23_NormAnswers: function 3 -/
def ductuslaw23_NormAnswers.f (k : Nat) (l0 : List Int) (a1_0 : Int) (a1_1 : Int) (a2_0 : Int) (a2_1 : Int) (a2_2 : Int) : Option (Bool) := (ductuslaw23_alive.f k).bind fun t293 => (if t293 = true then (if (l0.length : Int) > 2000 then (some true) else ((norm_Of.f k l0 a2_0).bind fun bt294 => ((ductusref23_Of.f k l0 a2_0).bind fun bt300 => ((norm_Back.f l0 a1_0 a1_1).bind fun bt306 => ((ductusref23_Back.f k l0 a1_0 a1_1).bind fun bt310 => ((norm_Bytes.f l0 a1_0 a1_1).bind fun bt314 => ((ductusref23_Bytes.f l0 a1_0 a1_1).bind fun bt318 => ((ductusref01_Ints.f k bt294.1 bt300.1).bind fun t322 => (if t322 = true then ((ductusref01_Ints.f k bt294.2 bt300.2).bind fun t323 => (if t323 = true then (if (bt306.1 == bt310.1 && (bt306.2.1 == bt310.2.1)) = true then (if (bt306.2.2 == bt310.2.2) = true then (if (bt314.1 == bt318.1 && (bt314.2.1 == bt318.2.1)) = true then (if (bt314.2.2 == bt318.2.2) = true then ((norm_Ahead.f k l0 a2_1).bind fun t324 => ((ductusref23_Ahead.f k l0 a2_1).bind fun t325 => (if t324 = t325 then ((norm_Control.f k a2_2).bind fun t326 => ((ductusref23_Control.f a2_2).bind fun t327 => (some (t326 == t327)))) else (none)))) else (none)) else (none)) else (none)) else (none)) else (none))) else (none)))))))))) else (none))
theorem ductuslaw23_NormAnswers.mono : ∀ a0 a1 a2 a3 a4 a5 k, LeO (ductuslaw23_NormAnswers.f k a0 a1 a2 a3 a4 a5) (ductuslaw23_NormAnswers.f (k + 1) a0 a1 a2 a3 a4 a5) := by
  intro a0 a1 a2 a3 a4 a5 k
  unfold ductuslaw23_NormAnswers.f
  repeat' first
      | (with_reducible exact ductuslaw23_alive.mono _)
      | (with_reducible exact ductusref01_Ints.mono _ _ _)
      | (with_reducible exact ductusref23_Ahead.mono _ _ _)
      | (with_reducible exact ductusref23_Back.mono _ _ _ _)
      | (with_reducible exact ductusref23_Of.mono _ _ _)
      | (with_reducible exact norm_Ahead.mono _ _ _)
      | (with_reducible exact norm_Control.mono _ _)
      | (with_reducible exact norm_Of.mono _ _ _)
      | (with_reducible exact LeO.refl _)
      | (with_reducible exact LeO.none _)
      | (with_reducible refine LeO.ite ?_ ?_)
      | (with_reducible refine LeO.bind ?_ (fun _ => ?_))
      | exact ductuslaw23_alive.mono _
      | exact ductusref01_Ints.mono _ _ _
      | exact ductusref23_Ahead.mono _ _ _
      | exact ductusref23_Back.mono _ _ _ _
      | exact ductusref23_Of.mono _ _ _
      | exact norm_Ahead.mono _ _ _
      | exact norm_Control.mono _ _
      | exact norm_Of.mono _ _ _
      | exact LeO.none _
      | refine LeO.ite ?_ ?_
      | refine LeO.bind ?_ (fun _ => ?_)
def ductuslaw23_NormAnswers.T11 : Bool × List (List Nat × List Nat) := (true, [([], []), ([], []), ([0, 1], [0, 1]), ([2, 2], [2]), ([3], [3]), ([3], [3]), ([4, 5, 3, 3], [3, 4, 5]), ([3, 6], [3, 6]), ([7, 6], [7]), ([8], [8]), ([8], [8]), ([9, 10, 8], [8, 9, 10]), ([8, 11], [8, 11]), ([12, 8], [12]), ([13], [13]), ([13], [13]), ([14, 15, 13], [13, 14, 15]), ([13, 16], [13, 16]), ([17, 13], [17]), ([18], [18]), ([18], [18]), ([19, 20, 18], [18, 19, 20]), ([18, 21], [18, 21]), ([22, 18], [22]), ([23], [23]), ([23], [23]), ([24, 25, 23], [23, 24, 25]), ([23, 26], [23, 26]), ([27, 23], [27]), ([28], [28]), ([28], [28]), ([30, 28], [28, 30]), ([29, 31, 28, 28], [28, 29, 31]), ([28], [28]), ([28], [28]), ([34, 28], [28, 34]), ([33, 35, 32, 28], [28, 33, 35]), ([32, 36, 28], [28, 32, 36]), ([28, 37], [28, 37]), ([38, 36], [38]), ([39], [39]), ([40, 39], [39, 40]), ([41, 39, 39], [39, 41]), ([39], [39]), ([43, 39], [39, 43]), ([44, 42, 39], [39, 44]), ([42, 45, 39], [39, 42, 45]), ([39, 46], [39, 46]), ([47, 45, 0, 1, 2, 3, 4, 5, 6, 7, 8, 9, 10, 11, 12, 13, 14, 15, 16, 17, 18, 19, 20, 21, 22, 23, 24, 25, 26, 27, 28, 29, 30, 31, 32, 33, 34, 35, 36, 37, 38, 39, 40, 41, 42, 43, 44, 45, 46, 47], [47])])
def ductuslaw23_NormAnswers.B11 : List Nat := [0, 0, 3, 7, 15, 15, 63, 127, 255, 511, 511, 2047, 4095, 8191, 16383, 16383, 65535, 131071, 262143, 524287, 524287, 2097151, 4194303, 8388607, 16777215, 16777215, 67108863, 134217727, 268435455, 536870911, 536870911, 1610612735, 4294967295, 536870911, 536870911, 17716740095, 68719476735, 137438953471, 274877906943, 549755813887, 1099511627775, 2199023255551, 4398046511103, 1099511627775, 9895604649983, 35184372088831, 70368744177663, 140737488355327, 281474976710655]
theorem ductuslaw23_NormAnswers.tab11 : rtab .any (opsOf Try.f3 11) = ductuslaw23_NormAnswers.T11 := by kernel_rfl
theorem ductuslaw23_NormAnswers.bits11 : waitsOk ductuslaw23_NormAnswers.T11.2 ductuslaw23_NormAnswers.B11 = true := by kernel_rfl
set_option maxHeartbeats 8000000 in
set_option maxRecDepth 100000 in
theorem ductuslaw23_NormAnswers.calls (k : Nat) (A0 : Option Addr) (c0 : Nat) (l0 : List Int) (a1_0 : Int) (a1_1 : Int) (a2_0 : Int) (a2_1 : Int) (a2_2 : Int) (r : Bool) (w : World) (hr0 : Kd.C (Kd.int .i64) w A0 l0.length l0) (hc0 : l0.length ≤ c0) (h : ductuslaw23_NormAnswers.f k l0 a1_0 a1_1 a2_0 a2_1 a2_2 = some r) :
    Calls Try.prog 3 #[.slice A0 l0.length c0, .agg #[.int .i64 a1_0, .int .i64 a1_1], .agg #[.int .i64 a2_0, .int .i64 a2_1, .int .i64 a2_2]] w fun e w' => e = .returned (.bool r) ∧ Below w.heap.size w w' := by
  have hu24 := Try.underlying24
  have hu25 := Try.underlying25
  have HR0 := Aside0.mk hr0
  have HC0 := Aside0.mk hc0
  clear hr0 hc0
  have HB := Aside0.mk (Below.refl w.heap.size w)
  have H : ((ductuslaw23_alive.f k).bind fun t293 => (if t293 = true then (if (l0.length : Int) > 2000 then (some true) else ((norm_Of.f k l0 a2_0).bind fun bt294 => ((ductusref23_Of.f k l0 a2_0).bind fun bt300 => ((norm_Back.f l0 a1_0 a1_1).bind fun bt306 => ((ductusref23_Back.f k l0 a1_0 a1_1).bind fun bt310 => ((norm_Bytes.f l0 a1_0 a1_1).bind fun bt314 => ((ductusref23_Bytes.f l0 a1_0 a1_1).bind fun bt318 => ((ductusref01_Ints.f k bt294.1 bt300.1).bind fun t322 => (if t322 = true then ((ductusref01_Ints.f k bt294.2 bt300.2).bind fun t323 => (if t323 = true then (if (bt306.1 == bt310.1 && (bt306.2.1 == bt310.2.1)) = true then (if (bt306.2.2 == bt310.2.2) = true then (if (bt314.1 == bt318.1 && (bt314.2.1 == bt318.2.1)) = true then (if (bt314.2.2 == bt318.2.2) = true then ((norm_Ahead.f k l0 a2_1).bind fun t324 => ((ductusref23_Ahead.f k l0 a2_1).bind fun t325 => (if t324 = t325 then ((norm_Control.f k a2_2).bind fun t326 => ((ductusref23_Control.f a2_2).bind fun t327 => (some (t326 == t327)))) else (none)))) else (none)) else (none)) else (none)) else (none)) else (none))) else (none)))))))))) else (none))) = some r := h
  clear h
  replace H := Option.bind_eq_some_iff.mp H
  obtain ⟨t293, A40, H⟩ := H
  replace H : (if t293 = true then (if (l0.length : Int) > 2000 then (some true) else ((norm_Of.f k l0 a2_0).bind fun bt294 => ((ductusref23_Of.f k l0 a2_0).bind fun bt300 => ((norm_Back.f l0 a1_0 a1_1).bind fun bt306 => ((ductusref23_Back.f k l0 a1_0 a1_1).bind fun bt310 => ((norm_Bytes.f l0 a1_0 a1_1).bind fun bt314 => ((ductusref23_Bytes.f l0 a1_0 a1_1).bind fun bt318 => ((ductusref01_Ints.f k bt294.1 bt300.1).bind fun t322 => (if t322 = true then ((ductusref01_Ints.f k bt294.2 bt300.2).bind fun t323 => (if t323 = true then (if (bt306.1 == bt310.1 && (bt306.2.1 == bt310.2.1)) = true then (if (bt306.2.2 == bt310.2.2) = true then (if (bt314.1 == bt318.1 && (bt314.2.1 == bt318.2.1)) = true then (if (bt314.2.2 == bt318.2.2) = true then ((norm_Ahead.f k l0 a2_1).bind fun t324 => ((ductusref23_Ahead.f k l0 a2_1).bind fun t325 => (if t324 = t325 then ((norm_Control.f k a2_2).bind fun t326 => ((ductusref23_Control.f a2_2).bind fun t327 => (some (t326 == t327)))) else (none)))) else (none)) else (none)) else (none)) else (none)) else (none))) else (none)))))))))) else (none)) = some r := H
  have A4 := Aside0.mk A40
  clear A40
  by_cases c5 : t293 = true
  rotate_left
  · replace c5 := Bool.eq_false_iff.mpr c5
    subst c5
    have H1 : (none) = some r := by rw [if_neg (show ¬ (false = true) by decide)] at H; exact H
    clear H
    have H := H1
    clear H1
    exact absurd H (by simp)
  subst c5
  have H1 : (if (l0.length : Int) > 2000 then (some true) else ((norm_Of.f k l0 a2_0).bind fun bt294 => ((ductusref23_Of.f k l0 a2_0).bind fun bt300 => ((norm_Back.f l0 a1_0 a1_1).bind fun bt306 => ((ductusref23_Back.f k l0 a1_0 a1_1).bind fun bt310 => ((norm_Bytes.f l0 a1_0 a1_1).bind fun bt314 => ((ductusref23_Bytes.f l0 a1_0 a1_1).bind fun bt318 => ((ductusref01_Ints.f k bt294.1 bt300.1).bind fun t322 => (if t322 = true then ((ductusref01_Ints.f k bt294.2 bt300.2).bind fun t323 => (if t323 = true then (if (bt306.1 == bt310.1 && (bt306.2.1 == bt310.2.1)) = true then (if (bt306.2.2 == bt310.2.2) = true then (if (bt314.1 == bt318.1 && (bt314.2.1 == bt318.2.1)) = true then (if (bt314.2.2 == bt318.2.2) = true then ((norm_Ahead.f k l0 a2_1).bind fun t324 => ((ductusref23_Ahead.f k l0 a2_1).bind fun t325 => (if t324 = t325 then ((norm_Control.f k a2_2).bind fun t326 => ((ductusref23_Control.f a2_2).bind fun t327 => (some (t326 == t327)))) else (none)))) else (none)) else (none)) else (none)) else (none)) else (none))) else (none)))))))))) = some r := by rw [if_pos rfl] at H; exact H
  clear H
  have H := H1
  clear H1
  by_cases c6 : (l0.length : Int) > 2000
  · rw [if_pos c6] at H
    have c6b0 : decide (2000 < (l0.length : Int)) = true := decide_eq_true c6
    have c6b1 : decide (2000 < l0.length) = true := decide_eq_true (by omega)
    clear c6
    obtain rfl := Option.some.inj H
    go_enter Try.func3, Try.ntmps3
    go_wp2_with (first | ((with_reducible refine gate_dst (N := 4) rfl ?_); refine box_event ?hg (N := 4) ?hd (cs := #[.int .i64 a1_0, .int .i64 a1_1]) (t := 24) ?hr ?_; (case hd => rfl); (case hg => rfl); (case hr => first | (go_simp; done) | (go_simp; rfl)); intro gb291 hg w7 hbox hb; have n0_ := Aside0.mk (below_step (by repeat (first | (with_reducible first | exact HB.out | apply below_alloc | apply pw_below_drewN | apply below_drew1) | exact HB.out)) hb); have n1_ := Aside0.mk (hbox); have n2_ := Aside0.mk ((by rw [hg]; exact (below_size (by repeat (first | (with_reducible first | exact HB.out | apply below_alloc | apply pw_below_drewN | apply below_drew1) | exact HB.out))) : w.heap.size ≤ gb291)); have n3_ := Aside0.mk ((by rw [hg]; exact (below_size (by repeat (first | (with_reducible first | exact HB.out | apply below_alloc | apply pw_below_drewN | apply below_drew1) | exact HB.out))) : w.heap.size ≤ gb291)); clear HB; have HB := n0_; have BK291 := n1_; have GW291 := n2_; have GE291 := n3_; clear n0_ n1_ n2_ n3_; clear hb hbox hg) | ((with_reducible refine gate_dst (N := 5) rfl ?_); refine box_event ?hg (N := 5) ?hd (cs := #[.int .i64 a2_0, .int .i64 a2_1, .int .i64 a2_2]) (t := 25) ?hr ?_; (case hd => rfl); (case hg => rfl); (case hr => first | (go_simp; done) | (go_simp; rfl)); intro gb292 hg w8 hbox hb; have n0_ := Aside0.mk (blk_below (g := gb291) (o := .cells #[.int .i64 a1_0, .int .i64 a1_1] 24 (0, 0)) (by (with_reducible repeat (first | refine blk_drewN ?_ _ | refine blk_drew ?_ | refine blk_alloc ?_ _)); exact BK291.out) hb); have n1_ := Aside0.mk (below_step (by repeat (first | (with_reducible first | exact HB.out | apply below_alloc | apply pw_below_drewN | apply below_drew1 | refine below_set ?_ GE291.out) | exact HB.out)) hb); have n2_ := Aside0.mk (hbox); have n3_ := Aside0.mk ((by rw [hg]; exact (below_size (by repeat (first | (with_reducible first | exact HB.out | apply below_alloc | apply pw_below_drewN | apply below_drew1 | refine below_set ?_ GE291.out) | exact HB.out))) : w.heap.size ≤ gb292)); have n4_ := Aside0.mk ((by rw [hg]; exact (below_size (by repeat (first | (with_reducible first | exact HB.out | apply below_alloc | apply pw_below_drewN | apply below_drew1 | refine below_set ?_ GE291.out) | exact HB.out))) : w.heap.size ≤ gb292)); have n5_ := Aside0.mk ((by rw [hg]; exact Nat.ne_of_lt (blk_lt (g := gb291) (o := .cells #[.int .i64 a1_0, .int .i64 a1_1] 24 (0, 0)) (by (with_reducible repeat (first | refine blk_drewN ?_ _ | refine blk_drew ?_ | refine blk_alloc ?_ _)); exact BK291.out)) : gb291 ≠ gb292)); have n6_ := Aside0.mk ((by rw [hg]; exact Nat.ne_of_gt (blk_lt (g := gb291) (o := .cells #[.int .i64 a1_0, .int .i64 a1_1] 24 (0, 0)) (by (with_reducible repeat (first | refine blk_drewN ?_ _ | refine blk_drew ?_ | refine blk_alloc ?_ _)); exact BK291.out)) : gb292 ≠ gb291)); clear BK291; clear HB; have BK291 := n0_; have HB := n1_; have BK292 := n2_; have GW292 := n3_; have GE292 := n4_; have NB291_292 := n5_; have NB292_291 := n6_; clear n0_ n1_ n2_ n3_ n4_ n5_ n6_; clear hb hbox hg) | ((with_reducible refine gate_callee (f := 8) rfl ?_); refine goesL_ (some 19) rfl rfl Try.func8 (by kernel_rfl) rfl #[] rfl (by (try simp only [List.map_toArray, List.map_cons, List.map_nil]); first | done | rfl | (simp only [List.length_drop, List.length_take]; rfl)) ?_; (with_reducible refine (ductuslaw23_alive.calls k  true _ A4.out).mono ?_); rintro e w9 ⟨rfl, hb⟩; refine ⟨_, rfl, ?_⟩; have n0_ := Aside0.mk (blk_below (g := gb291) (o := .cells #[.int .i64 a1_0, .int .i64 a1_1] 24 (0, 0)) (by (with_reducible repeat (first | refine blk_drewN ?_ _ | refine blk_drew ?_ | refine blk_alloc ?_ _)); exact BK291.out) hb); have n1_ := Aside0.mk (blk_below (g := gb292) (o := .cells #[.int .i64 a2_0, .int .i64 a2_1, .int .i64 a2_2] 25 (0, 0)) (by (with_reducible repeat (first | refine blk_drewN ?_ _ | refine blk_drew ?_ | refine blk_alloc ?_ _)); exact BK292.out) hb); have n2_ := Aside0.mk (below_step (by repeat (first | (with_reducible first | exact HB.out | apply below_alloc | apply pw_below_drewN | apply below_drew1 | refine below_set ?_ GE291.out | refine below_set ?_ GE292.out) | exact HB.out)) hb); clear BK291; clear BK292; clear HB; have BK291 := n0_; have BK292 := n1_; have HB := n2_; clear n0_ n1_ n2_; (try clear hb); (try clear hb2); (try clear hk); (try clear hi)))
    go_ret
    exact ⟨by first | rfl | (simp [errW_none, errW_some] <;> rfl) | (simp [*, errW_none, errW_some] <;> rfl), by repeat (first | (with_reducible first | exact HB.out | apply below_alloc | apply pw_below_drewN | apply below_drew1 | refine below_set ?_ GE291.out | refine below_set ?_ GE292.out) | exact HB.out)⟩
  rw [if_neg c6] at H
  have c6b0 : decide (2000 < (l0.length : Int)) = false := decide_eq_false c6
  have c6b1 : decide (2000 < l0.length) = false := decide_eq_false (by omega)
  clear c6
  replace H := Option.bind_eq_some_iff.mp H
  obtain ⟨⟨t294, t295⟩, A100, H⟩ := H
  replace H : ((ductusref23_Of.f k l0 a2_0).bind fun bt300 => ((norm_Back.f l0 a1_0 a1_1).bind fun bt306 => ((ductusref23_Back.f k l0 a1_0 a1_1).bind fun bt310 => ((norm_Bytes.f l0 a1_0 a1_1).bind fun bt314 => ((ductusref23_Bytes.f l0 a1_0 a1_1).bind fun bt318 => ((ductusref01_Ints.f k t294 bt300.1).bind fun t322 => (if t322 = true then ((ductusref01_Ints.f k t295 bt300.2).bind fun t323 => (if t323 = true then (if (bt306.1 == bt310.1 && (bt306.2.1 == bt310.2.1)) = true then (if (bt306.2.2 == bt310.2.2) = true then (if (bt314.1 == bt318.1 && (bt314.2.1 == bt318.2.1)) = true then (if (bt314.2.2 == bt318.2.2) = true then ((norm_Ahead.f k l0 a2_1).bind fun t324 => ((ductusref23_Ahead.f k l0 a2_1).bind fun t325 => (if t324 = t325 then ((norm_Control.f k a2_2).bind fun t326 => ((ductusref23_Control.f a2_2).bind fun t327 => (some (t326 == t327)))) else (none)))) else (none)) else (none)) else (none)) else (none)) else (none))) else (none)))))))) = some r := H
  have A10 := Aside0.mk A100
  clear A100
  replace H := Option.bind_eq_some_iff.mp H
  obtain ⟨⟨t300, t301⟩, A110, H⟩ := H
  replace H : ((norm_Back.f l0 a1_0 a1_1).bind fun bt306 => ((ductusref23_Back.f k l0 a1_0 a1_1).bind fun bt310 => ((norm_Bytes.f l0 a1_0 a1_1).bind fun bt314 => ((ductusref23_Bytes.f l0 a1_0 a1_1).bind fun bt318 => ((ductusref01_Ints.f k t294 t300).bind fun t322 => (if t322 = true then ((ductusref01_Ints.f k t295 t301).bind fun t323 => (if t323 = true then (if (bt306.1 == bt310.1 && (bt306.2.1 == bt310.2.1)) = true then (if (bt306.2.2 == bt310.2.2) = true then (if (bt314.1 == bt318.1 && (bt314.2.1 == bt318.2.1)) = true then (if (bt314.2.2 == bt318.2.2) = true then ((norm_Ahead.f k l0 a2_1).bind fun t324 => ((ductusref23_Ahead.f k l0 a2_1).bind fun t325 => (if t324 = t325 then ((norm_Control.f k a2_2).bind fun t326 => ((ductusref23_Control.f a2_2).bind fun t327 => (some (t326 == t327)))) else (none)))) else (none)) else (none)) else (none)) else (none)) else (none))) else (none))))))) = some r := H
  have A11 := Aside0.mk A110
  clear A110
  replace H := Option.bind_eq_some_iff.mp H
  obtain ⟨⟨t306, t307, t308⟩, A120, H⟩ := H
  replace H : ((ductusref23_Back.f k l0 a1_0 a1_1).bind fun bt310 => ((norm_Bytes.f l0 a1_0 a1_1).bind fun bt314 => ((ductusref23_Bytes.f l0 a1_0 a1_1).bind fun bt318 => ((ductusref01_Ints.f k t294 t300).bind fun t322 => (if t322 = true then ((ductusref01_Ints.f k t295 t301).bind fun t323 => (if t323 = true then (if (t306 == bt310.1 && (t307 == bt310.2.1)) = true then (if (t308 == bt310.2.2) = true then (if (bt314.1 == bt318.1 && (bt314.2.1 == bt318.2.1)) = true then (if (bt314.2.2 == bt318.2.2) = true then ((norm_Ahead.f k l0 a2_1).bind fun t324 => ((ductusref23_Ahead.f k l0 a2_1).bind fun t325 => (if t324 = t325 then ((norm_Control.f k a2_2).bind fun t326 => ((ductusref23_Control.f a2_2).bind fun t327 => (some (t326 == t327)))) else (none)))) else (none)) else (none)) else (none)) else (none)) else (none))) else (none)))))) = some r := H
  have A12 := Aside0.mk A120
  clear A120
  replace H := Option.bind_eq_some_iff.mp H
  obtain ⟨⟨t310, t311, t312⟩, A130, H⟩ := H
  replace H : ((norm_Bytes.f l0 a1_0 a1_1).bind fun bt314 => ((ductusref23_Bytes.f l0 a1_0 a1_1).bind fun bt318 => ((ductusref01_Ints.f k t294 t300).bind fun t322 => (if t322 = true then ((ductusref01_Ints.f k t295 t301).bind fun t323 => (if t323 = true then (if (t306 == t310 && (t307 == t311)) = true then (if (t308 == t312) = true then (if (bt314.1 == bt318.1 && (bt314.2.1 == bt318.2.1)) = true then (if (bt314.2.2 == bt318.2.2) = true then ((norm_Ahead.f k l0 a2_1).bind fun t324 => ((ductusref23_Ahead.f k l0 a2_1).bind fun t325 => (if t324 = t325 then ((norm_Control.f k a2_2).bind fun t326 => ((ductusref23_Control.f a2_2).bind fun t327 => (some (t326 == t327)))) else (none)))) else (none)) else (none)) else (none)) else (none)) else (none))) else (none))))) = some r := H
  have A13 := Aside0.mk A130
  clear A130
  replace H := Option.bind_eq_some_iff.mp H
  obtain ⟨⟨t314, t315, t316⟩, A140, H⟩ := H
  replace H : ((ductusref23_Bytes.f l0 a1_0 a1_1).bind fun bt318 => ((ductusref01_Ints.f k t294 t300).bind fun t322 => (if t322 = true then ((ductusref01_Ints.f k t295 t301).bind fun t323 => (if t323 = true then (if (t306 == t310 && (t307 == t311)) = true then (if (t308 == t312) = true then (if (t314 == bt318.1 && (t315 == bt318.2.1)) = true then (if (t316 == bt318.2.2) = true then ((norm_Ahead.f k l0 a2_1).bind fun t324 => ((ductusref23_Ahead.f k l0 a2_1).bind fun t325 => (if t324 = t325 then ((norm_Control.f k a2_2).bind fun t326 => ((ductusref23_Control.f a2_2).bind fun t327 => (some (t326 == t327)))) else (none)))) else (none)) else (none)) else (none)) else (none)) else (none))) else (none)))) = some r := H
  have A14 := Aside0.mk A140
  clear A140
  replace H := Option.bind_eq_some_iff.mp H
  obtain ⟨⟨t318, t319, t320⟩, A150, H⟩ := H
  replace H : ((ductusref01_Ints.f k t294 t300).bind fun t322 => (if t322 = true then ((ductusref01_Ints.f k t295 t301).bind fun t323 => (if t323 = true then (if (t306 == t310 && (t307 == t311)) = true then (if (t308 == t312) = true then (if (t314 == t318 && (t315 == t319)) = true then (if (t316 == t320) = true then ((norm_Ahead.f k l0 a2_1).bind fun t324 => ((ductusref23_Ahead.f k l0 a2_1).bind fun t325 => (if t324 = t325 then ((norm_Control.f k a2_2).bind fun t326 => ((ductusref23_Control.f a2_2).bind fun t327 => (some (t326 == t327)))) else (none)))) else (none)) else (none)) else (none)) else (none)) else (none))) else (none))) = some r := H
  have A15 := Aside0.mk A150
  clear A150
  replace H := Option.bind_eq_some_iff.mp H
  obtain ⟨t322, A160, H⟩ := H
  replace H : (if t322 = true then ((ductusref01_Ints.f k t295 t301).bind fun t323 => (if t323 = true then (if (t306 == t310 && (t307 == t311)) = true then (if (t308 == t312) = true then (if (t314 == t318 && (t315 == t319)) = true then (if (t316 == t320) = true then ((norm_Ahead.f k l0 a2_1).bind fun t324 => ((ductusref23_Ahead.f k l0 a2_1).bind fun t325 => (if t324 = t325 then ((norm_Control.f k a2_2).bind fun t326 => ((ductusref23_Control.f a2_2).bind fun t327 => (some (t326 == t327)))) else (none)))) else (none)) else (none)) else (none)) else (none)) else (none))) else (none)) = some r := H
  have A16 := Aside0.mk A160
  clear A160
  by_cases c17 : t322 = true
  rotate_left
  · replace c17 := Bool.eq_false_iff.mpr c17
    subst c17
    have H1 : (none) = some r := by rw [if_neg (show ¬ (false = true) by decide)] at H; exact H
    clear H
    have H := H1
    clear H1
    exact absurd H (by simp)
  subst c17
  have H1 : ((ductusref01_Ints.f k t295 t301).bind fun t323 => (if t323 = true then (if (t306 == t310 && (t307 == t311)) = true then (if (t308 == t312) = true then (if (t314 == t318 && (t315 == t319)) = true then (if (t316 == t320) = true then ((norm_Ahead.f k l0 a2_1).bind fun t324 => ((ductusref23_Ahead.f k l0 a2_1).bind fun t325 => (if t324 = t325 then ((norm_Control.f k a2_2).bind fun t326 => ((ductusref23_Control.f a2_2).bind fun t327 => (some (t326 == t327)))) else (none)))) else (none)) else (none)) else (none)) else (none)) else (none))) = some r := by rw [if_pos rfl] at H; exact H
  clear H
  have H := H1
  clear H1
  replace H := Option.bind_eq_some_iff.mp H
  obtain ⟨t323, A180, H⟩ := H
  replace H : (if t323 = true then (if (t306 == t310 && (t307 == t311)) = true then (if (t308 == t312) = true then (if (t314 == t318 && (t315 == t319)) = true then (if (t316 == t320) = true then ((norm_Ahead.f k l0 a2_1).bind fun t324 => ((ductusref23_Ahead.f k l0 a2_1).bind fun t325 => (if t324 = t325 then ((norm_Control.f k a2_2).bind fun t326 => ((ductusref23_Control.f a2_2).bind fun t327 => (some (t326 == t327)))) else (none)))) else (none)) else (none)) else (none)) else (none)) else (none)) = some r := H
  have A18 := Aside0.mk A180
  clear A180
  by_cases c19 : t323 = true
  rotate_left
  · replace c19 := Bool.eq_false_iff.mpr c19
    subst c19
    have H1 : (none) = some r := by rw [if_neg (show ¬ (false = true) by decide)] at H; exact H
    clear H
    have H := H1
    clear H1
    exact absurd H (by simp)
  subst c19
  have H1 : (if (t306 == t310 && (t307 == t311)) = true then (if (t308 == t312) = true then (if (t314 == t318 && (t315 == t319)) = true then (if (t316 == t320) = true then ((norm_Ahead.f k l0 a2_1).bind fun t324 => ((ductusref23_Ahead.f k l0 a2_1).bind fun t325 => (if t324 = t325 then ((norm_Control.f k a2_2).bind fun t326 => ((ductusref23_Control.f a2_2).bind fun t327 => (some (t326 == t327)))) else (none)))) else (none)) else (none)) else (none)) else (none)) = some r := by rw [if_pos rfl] at H; exact H
  clear H
  have H := H1
  clear H1
  by_cases c20 : (t306 == t310 && (t307 == t311)) = true
  rotate_left
  · rw [if_neg c20] at H
    have c20b0 : (t306 == t310 && (t307 == t311)) = false := by simpa using c20
    (try (have c20b1 : decide (t306 = t310 && (t307 == t311)) = false := by simpa using c20))
    (try (have c20b2 : (t306 == t310 && (t307 == t311)) = false := by simpa using c20))
    (try (have c20b3 : ¬ (t306 = t310 && (t307 == t311)) := by simpa using c20))
    clear c20
    exact absurd H (by simp)
  rw [if_pos c20] at H
  have c20b0 : (t306 == t310 && (t307 == t311)) = true := c20
  (try (have c20b1 : decide (t306 = t310 && (t307 == t311)) = true := by simpa using c20))
  (try (have c20b2 : (t306 == t310 && (t307 == t311)) = true := by simpa using c20))
  clear c20
  by_cases c21 : (t308 == t312) = true
  rotate_left
  · rw [if_neg c21] at H
    have c21b0 : (t308 == t312) = false := by simpa using c21
    (try (have c21b1 : decide (t308 = t312) = false := by simpa using c21))
    (try (have c21b2 : (t308 == t312) = false := by simpa using c21))
    (try (have c21b3 : ¬ (t308 = t312) := by simpa using c21))
    clear c21
    exact absurd H (by simp)
  rw [if_pos c21] at H
  have c21b0 : (t308 == t312) = true := c21
  (try (have c21b1 : decide (t308 = t312) = true := by simpa using c21))
  (try (have c21b2 : (t308 == t312) = true := by simpa using c21))
  clear c21
  by_cases c22 : (t314 == t318 && (t315 == t319)) = true
  rotate_left
  · rw [if_neg c22] at H
    have c22b0 : (t314 == t318 && (t315 == t319)) = false := by simpa using c22
    (try (have c22b1 : decide (t314 = t318 && (t315 == t319)) = false := by simpa using c22))
    (try (have c22b2 : (t314 == t318 && (t315 == t319)) = false := by simpa using c22))
    (try (have c22b3 : ¬ (t314 = t318 && (t315 == t319)) := by simpa using c22))
    clear c22
    exact absurd H (by simp)
  rw [if_pos c22] at H
  have c22b0 : (t314 == t318 && (t315 == t319)) = true := c22
  (try (have c22b1 : decide (t314 = t318 && (t315 == t319)) = true := by simpa using c22))
  (try (have c22b2 : (t314 == t318 && (t315 == t319)) = true := by simpa using c22))
  clear c22
  by_cases c23 : (t316 == t320) = true
  rotate_left
  · rw [if_neg c23] at H
    have c23b0 : (t316 == t320) = false := by simpa using c23
    (try (have c23b1 : decide (t316 = t320) = false := by simpa using c23))
    (try (have c23b2 : (t316 == t320) = false := by simpa using c23))
    (try (have c23b3 : ¬ (t316 = t320) := by simpa using c23))
    clear c23
    exact absurd H (by simp)
  rw [if_pos c23] at H
  have c23b0 : (t316 == t320) = true := c23
  (try (have c23b1 : decide (t316 = t320) = true := by simpa using c23))
  (try (have c23b2 : (t316 == t320) = true := by simpa using c23))
  clear c23
  replace H := Option.bind_eq_some_iff.mp H
  obtain ⟨t324, A240, H⟩ := H
  replace H : ((ductusref23_Ahead.f k l0 a2_1).bind fun t325 => (if t324 = t325 then ((norm_Control.f k a2_2).bind fun t326 => ((ductusref23_Control.f a2_2).bind fun t327 => (some (t326 == t327)))) else (none))) = some r := H
  have A24 := Aside0.mk A240
  clear A240
  replace H := Option.bind_eq_some_iff.mp H
  obtain ⟨t325, A250, H⟩ := H
  replace H : (if t324 = t325 then ((norm_Control.f k a2_2).bind fun t326 => ((ductusref23_Control.f a2_2).bind fun t327 => (some (t326 == t327)))) else (none)) = some r := H
  have A25 := Aside0.mk A250
  clear A250
  by_cases c26 : t324 = t325
  rotate_left
  · rw [if_neg c26] at H
    have c26b0 : (t324 == t325) = false := beq_eq_false_iff_ne.mpr c26
    have c26b1 : (t324 != t325) = true := bne_iff_ne.mpr c26
    exact absurd H (by simp)
  rw [if_pos c26] at H
  have c26b0 : (t324 == t325) = true := beq_iff_eq.mpr c26
  have c26b1 : (t324 != t325) = false := bne_eq_false_iff_eq.mpr c26
  clear c26
  replace H := Option.bind_eq_some_iff.mp H
  obtain ⟨t326, A270, H⟩ := H
  replace H : ((ductusref23_Control.f a2_2).bind fun t327 => (some (t326 == t327))) = some r := H
  have A27 := Aside0.mk A270
  clear A270
  replace H := Option.bind_eq_some_iff.mp H
  obtain ⟨t327, A280, H⟩ := H
  replace H : (some (t326 == t327)) = some r := H
  have A28 := Aside0.mk A280
  clear A280
  obtain rfl := Option.some.inj H
  go_enter Try.func3, Try.ntmps3
  try go_wp2_with (first | ((with_reducible refine gate_dst (N := 4) rfl ?_); refine box_event ?hg (N := 4) ?hd (cs := #[.int .i64 a1_0, .int .i64 a1_1]) (t := 24) ?hr ?_; (case hd => rfl); (case hg => rfl); (case hr => first | (go_simp; done) | (go_simp; rfl)); intro gb291 hg w29 hbox hb; have n0_ := Aside0.mk (below_step (by repeat (first | (with_reducible first | exact HB.out | apply below_alloc | apply pw_below_drewN | apply below_drew1) | exact HB.out)) hb); have n1_ := Aside0.mk (hbox); have n2_ := Aside0.mk ((by rw [hg]; exact (below_size (by repeat (first | (with_reducible first | exact HB.out | apply below_alloc | apply pw_below_drewN | apply below_drew1) | exact HB.out))) : w.heap.size ≤ gb291)); have n3_ := Aside0.mk ((by rw [hg]; exact (below_size (by repeat (first | (with_reducible first | exact HB.out | apply below_alloc | apply pw_below_drewN | apply below_drew1) | exact HB.out))) : w.heap.size ≤ gb291)); clear HB; have HB := n0_; have BK291 := n1_; have GW291 := n2_; have GE291 := n3_; clear n0_ n1_ n2_ n3_; clear hb hbox hg) | ((with_reducible refine gate_dst (N := 5) rfl ?_); refine box_event ?hg (N := 5) ?hd (cs := #[.int .i64 a2_0, .int .i64 a2_1, .int .i64 a2_2]) (t := 25) ?hr ?_; (case hd => rfl); (case hg => rfl); (case hr => first | (go_simp; done) | (go_simp; rfl)); intro gb292 hg w30 hbox hb; have n0_ := Aside0.mk (blk_below (g := gb291) (o := .cells #[.int .i64 a1_0, .int .i64 a1_1] 24 (0, 0)) (by (with_reducible repeat (first | refine blk_drewN ?_ _ | refine blk_drew ?_ | refine blk_alloc ?_ _)); exact BK291.out) hb); have n1_ := Aside0.mk (below_step (by repeat (first | (with_reducible first | exact HB.out | apply below_alloc | apply pw_below_drewN | apply below_drew1 | refine below_set ?_ GE291.out) | exact HB.out)) hb); have n2_ := Aside0.mk (hbox); have n3_ := Aside0.mk ((by rw [hg]; exact (below_size (by repeat (first | (with_reducible first | exact HB.out | apply below_alloc | apply pw_below_drewN | apply below_drew1 | refine below_set ?_ GE291.out) | exact HB.out))) : w.heap.size ≤ gb292)); have n4_ := Aside0.mk ((by rw [hg]; exact (below_size (by repeat (first | (with_reducible first | exact HB.out | apply below_alloc | apply pw_below_drewN | apply below_drew1 | refine below_set ?_ GE291.out) | exact HB.out))) : w.heap.size ≤ gb292)); have n5_ := Aside0.mk ((by rw [hg]; exact Nat.ne_of_lt (blk_lt (g := gb291) (o := .cells #[.int .i64 a1_0, .int .i64 a1_1] 24 (0, 0)) (by (with_reducible repeat (first | refine blk_drewN ?_ _ | refine blk_drew ?_ | refine blk_alloc ?_ _)); exact BK291.out)) : gb291 ≠ gb292)); have n6_ := Aside0.mk ((by rw [hg]; exact Nat.ne_of_gt (blk_lt (g := gb291) (o := .cells #[.int .i64 a1_0, .int .i64 a1_1] 24 (0, 0)) (by (with_reducible repeat (first | refine blk_drewN ?_ _ | refine blk_drew ?_ | refine blk_alloc ?_ _)); exact BK291.out)) : gb292 ≠ gb291)); clear BK291; clear HB; have BK291 := n0_; have HB := n1_; have BK292 := n2_; have GW292 := n3_; have GE292 := n4_; have NB291_292 := n5_; have NB292_291 := n6_; clear n0_ n1_ n2_ n3_ n4_ n5_ n6_; clear hb hbox hg) | ((with_reducible refine gate_callee (f := 8) rfl ?_); refine goesL_ (some 19) rfl rfl Try.func8 (by kernel_rfl) rfl #[] rfl (by (try simp only [List.map_toArray, List.map_cons, List.map_nil]); first | done | rfl | (simp only [List.length_drop, List.length_take]; rfl)) ?_; (with_reducible refine (ductuslaw23_alive.calls k  true _ A4.out).mono ?_); rintro e w31 ⟨rfl, hb⟩; refine ⟨_, rfl, ?_⟩; have n0_ := Aside0.mk (blk_below (g := gb291) (o := .cells #[.int .i64 a1_0, .int .i64 a1_1] 24 (0, 0)) (by (with_reducible repeat (first | refine blk_drewN ?_ _ | refine blk_drew ?_ | refine blk_alloc ?_ _)); exact BK291.out) hb); have n1_ := Aside0.mk (blk_below (g := gb292) (o := .cells #[.int .i64 a2_0, .int .i64 a2_1, .int .i64 a2_2] 25 (0, 0)) (by (with_reducible repeat (first | refine blk_drewN ?_ _ | refine blk_drew ?_ | refine blk_alloc ?_ _)); exact BK292.out) hb); have n2_ := Aside0.mk (below_step (by repeat (first | (with_reducible first | exact HB.out | apply below_alloc | apply pw_below_drewN | apply below_drew1 | refine below_set ?_ GE291.out | refine below_set ?_ GE292.out) | exact HB.out)) hb); clear BK291; clear BK292; clear HB; have BK291 := n0_; have BK292 := n1_; have HB := n2_; clear n0_ n1_ n2_; (try clear hb); (try clear hb2); (try clear hk); (try clear hi); have hnb32 := NB292_291.out; have hnc32 := NB291_292.out; have hcz33_0 : w31.cell? ⟨gb292, 0, none⟩ = some (.int .i64 a2_0) := (blk_cell BK292.out 0).trans rfl; have hcz33_1 : w31.cell? ⟨gb292, 1, none⟩ = some (.int .i64 a2_1) := (blk_cell BK292.out 1).trans rfl; have hcz33_2 : w31.cell? ⟨gb292, 2, none⟩ = some (.int .i64 a2_2) := (blk_cell BK292.out 2).trans rfl; have hfz33_0 := blk_frozen BK292.out 0; have hfz33_1 := blk_frozen BK292.out 1; have hfz33_2 := blk_frozen BK292.out 2) | ((with_reducible refine gate_callee (f := 9) rfl ?_); refine goesL_ (some 28) rfl rfl Try.func9 (by kernel_rfl) rfl #[.slice A0 l0.length c0, .int .i64 a2_0] rfl (by (try simp only [List.map_toArray, List.map_cons, List.map_nil]); first | done | rfl | (simp only [List.length_drop, List.length_take]; rfl)) ?_; (with_reducible refine (norm_Of.calls k _ _ l0 a2_0 t294 t295 _ ?side1 ?side2 A10.out).mono ?_); (case side1 => repeat (first | exact (Kd.C_below HR0.out HB.out) | (with_reducible refine Kd.C_alloc ?_ _) | (with_reducible refine Kd.C_drewN ?_ _) | (with_reducible refine Kd.C_drew ?_))); (case side2 => exact HC0.out); rintro e w34 ⟨v296, v298, rfl, ho0, ho1, hb⟩; refine ⟨_, rfl, ?_⟩; have n0_ := Aside0.mk (Kd.R_lower ho0 (below_size (by repeat (first | (with_reducible first | exact HB.out | apply below_alloc | apply pw_below_drewN | apply below_drew1 | refine below_set ?_ GE291.out | refine below_set ?_ GE292.out) | exact HB.out)))); have n1_ := Aside0.mk (Kd.R_lower ho1 (below_size (by repeat (first | (with_reducible first | exact HB.out | apply below_alloc | apply pw_below_drewN | apply below_drew1 | refine below_set ?_ GE291.out | refine below_set ?_ GE292.out) | exact HB.out)))); have n2_ := Aside0.mk (blk_below (g := gb291) (o := .cells #[.int .i64 a1_0, .int .i64 a1_1] 24 (0, 0)) (by (with_reducible repeat (first | refine blk_drewN ?_ _ | refine blk_drew ?_ | refine blk_alloc ?_ _)); exact BK291.out) hb); have n3_ := Aside0.mk (blk_below (g := gb292) (o := .cells #[.int .i64 a2_0, .int .i64 a2_1, .int .i64 a2_2] 25 (0, 0)) (by (with_reducible repeat (first | refine blk_drewN ?_ _ | refine blk_drew ?_ | refine blk_alloc ?_ _)); exact BK292.out) hb); have n4_ := Aside0.mk (below_step (by repeat (first | (with_reducible first | exact HB.out | apply below_alloc | apply pw_below_drewN | apply below_drew1 | refine below_set ?_ GE291.out | refine below_set ?_ GE292.out) | exact HB.out)) hb); clear BK291; clear BK292; clear HB; have HO297 := n0_; have HO299 := n1_; have BK291 := n2_; have BK292 := n3_; have HB := n4_; clear n0_ n1_ n2_ n3_ n4_; (try clear hb); (try clear hb2); (try clear hk); (try clear hi); (try clear ho0); (try clear ho1); have hcz35_0 : w34.cell? ⟨gb292, 0, none⟩ = some (.int .i64 a2_0) := (blk_cell BK292.out 0).trans rfl; have hcz35_1 : w34.cell? ⟨gb292, 1, none⟩ = some (.int .i64 a2_1) := (blk_cell BK292.out 1).trans rfl; have hcz35_2 : w34.cell? ⟨gb292, 2, none⟩ = some (.int .i64 a2_2) := (blk_cell BK292.out 2).trans rfl; have hfz35_0 := blk_frozen BK292.out 0; have hfz35_1 := blk_frozen BK292.out 1; have hfz35_2 := blk_frozen BK292.out 2) | ((with_reducible refine gate_callee (f := 10) rfl ?_); refine goesL_ (some 35) rfl rfl Try.func10 (by kernel_rfl) rfl #[.slice A0 l0.length c0, .int .i64 a2_0] rfl (by (try simp only [List.map_toArray, List.map_cons, List.map_nil]); first | done | rfl | (simp only [List.length_drop, List.length_take]; rfl)) ?_; (with_reducible refine (ductusref23_Of.calls k _ _ l0 a2_0 t300 t301 _ ?side1 ?side2 A11.out).mono ?_); (case side1 => repeat (first | exact (Kd.C_below HR0.out HB.out) | (with_reducible refine Kd.C_alloc ?_ _) | (with_reducible refine Kd.C_drewN ?_ _) | (with_reducible refine Kd.C_drew ?_))); (case side2 => exact HC0.out); rintro e w36 ⟨v302, v304, rfl, ho0, ho1, hb⟩; refine ⟨_, rfl, ?_⟩; have n0_ := Aside0.mk (Kd.R_mono (Kd.R_told (Kd.R_told (Kd.R_old (by (with_reducible repeat (first | apply Kd.R_alloc | apply Kd.R_drewN | apply Kd.R_drew)); exact HO297.out) hb) (Kd.R_base ho0)) (Kd.R_base ho1)) (fun _ h_ => h_.1)); have n1_ := Aside0.mk (Kd.R_mono (Kd.R_told (Kd.R_told (Kd.R_old (by (with_reducible repeat (first | apply Kd.R_alloc | apply Kd.R_drewN | apply Kd.R_drew)); exact HO299.out) hb) (Kd.R_base ho0)) (Kd.R_base ho1)) (fun _ h_ => h_.1)); have n2_ := Aside0.mk (Kd.R_lower (Kd.R_new' (Kd.R_new' ho0 (Kd.R_lt (by (with_reducible repeat (first | apply Kd.R_alloc | apply Kd.R_drewN | apply Kd.R_drew)); exact HO297.out))) (Kd.R_lt (by (with_reducible repeat (first | apply Kd.R_alloc | apply Kd.R_drewN | apply Kd.R_drew)); exact HO299.out))) (below_size (by repeat (first | (with_reducible first | exact HB.out | apply below_alloc | apply pw_below_drewN | apply below_drew1 | refine below_set ?_ GE291.out | refine below_set ?_ GE292.out) | exact HB.out)))); have n3_ := Aside0.mk (Kd.R_lower (Kd.R_new' (Kd.R_new' ho1 (Kd.R_lt (by (with_reducible repeat (first | apply Kd.R_alloc | apply Kd.R_drewN | apply Kd.R_drew)); exact HO297.out))) (Kd.R_lt (by (with_reducible repeat (first | apply Kd.R_alloc | apply Kd.R_drewN | apply Kd.R_drew)); exact HO299.out))) (below_size (by repeat (first | (with_reducible first | exact HB.out | apply below_alloc | apply pw_below_drewN | apply below_drew1 | refine below_set ?_ GE291.out | refine below_set ?_ GE292.out) | exact HB.out)))); have n4_ := Aside0.mk (blk_below (g := gb291) (o := .cells #[.int .i64 a1_0, .int .i64 a1_1] 24 (0, 0)) (by (with_reducible repeat (first | refine blk_drewN ?_ _ | refine blk_drew ?_ | refine blk_alloc ?_ _)); exact BK291.out) hb); have n5_ := Aside0.mk (blk_below (g := gb292) (o := .cells #[.int .i64 a2_0, .int .i64 a2_1, .int .i64 a2_2] 25 (0, 0)) (by (with_reducible repeat (first | refine blk_drewN ?_ _ | refine blk_drew ?_ | refine blk_alloc ?_ _)); exact BK292.out) hb); have n6_ := Aside0.mk (below_step (by repeat (first | (with_reducible first | exact HB.out | apply below_alloc | apply pw_below_drewN | apply below_drew1 | refine below_set ?_ GE291.out | refine below_set ?_ GE292.out) | exact HB.out)) hb); clear HO297; clear HO299; clear BK291; clear BK292; clear HB; have HO297 := n0_; have HO299 := n1_; have HO303 := n2_; have HO305 := n3_; have BK291 := n4_; have BK292 := n5_; have HB := n6_; clear n0_ n1_ n2_ n3_ n4_ n5_ n6_; (try clear hb); (try clear hb2); (try clear hk); (try clear hi); (try clear ho0); (try clear ho1); have hcz37_0 : w36.cell? ⟨gb291, 0, none⟩ = some (.int .i64 a1_0) := (blk_cell BK291.out 0).trans rfl; have hcz37_1 : w36.cell? ⟨gb291, 1, none⟩ = some (.int .i64 a1_1) := (blk_cell BK291.out 1).trans rfl; have hfz37_0 := blk_frozen BK291.out 0; have hfz37_1 := blk_frozen BK291.out 1) | ((with_reducible refine gate_callee (f := 11) rfl ?_); refine goesL_ (some 41) rfl rfl Try.func11 (by kernel_rfl) rfl #[.slice A0 l0.length c0, .agg #[.int .i64 a1_0, .int .i64 a1_1]] rfl (by (try simp only [List.map_toArray, List.map_cons, List.map_nil]); first | done | rfl | (simp only [List.length_drop, List.length_take]; rfl)) ?_; (with_reducible refine (norm_Back.calls _ _ l0 a1_0 a1_1 t306 t307 t308 _ ?side1 ?side2 A12.out).mono ?_); (case side1 => repeat (first | exact (Kd.C_below HR0.out HB.out) | (with_reducible refine Kd.C_alloc ?_ _) | (with_reducible refine Kd.C_drewN ?_ _) | (with_reducible refine Kd.C_drew ?_))); (case side2 => exact HC0.out); rintro e w38 ⟨rfl, hb⟩; refine ⟨_, rfl, ?_⟩; have n0_ := Aside0.mk (Kd.R_below (by (with_reducible repeat (first | apply Kd.R_alloc | apply Kd.R_drewN | apply Kd.R_drew)); exact HO297.out) hb); have n1_ := Aside0.mk (Kd.R_below (by (with_reducible repeat (first | apply Kd.R_alloc | apply Kd.R_drewN | apply Kd.R_drew)); exact HO299.out) hb); have n2_ := Aside0.mk (Kd.R_below (by (with_reducible repeat (first | apply Kd.R_alloc | apply Kd.R_drewN | apply Kd.R_drew)); exact HO303.out) hb); have n3_ := Aside0.mk (Kd.R_below (by (with_reducible repeat (first | apply Kd.R_alloc | apply Kd.R_drewN | apply Kd.R_drew)); exact HO305.out) hb); have n4_ := Aside0.mk (blk_below (g := gb291) (o := .cells #[.int .i64 a1_0, .int .i64 a1_1] 24 (0, 0)) (by (with_reducible repeat (first | refine blk_drewN ?_ _ | refine blk_drew ?_ | refine blk_alloc ?_ _)); exact BK291.out) hb); have n5_ := Aside0.mk (blk_below (g := gb292) (o := .cells #[.int .i64 a2_0, .int .i64 a2_1, .int .i64 a2_2] 25 (0, 0)) (by (with_reducible repeat (first | refine blk_drewN ?_ _ | refine blk_drew ?_ | refine blk_alloc ?_ _)); exact BK292.out) hb); have n6_ := Aside0.mk (below_step (by repeat (first | (with_reducible first | exact HB.out | apply below_alloc | apply pw_below_drewN | apply below_drew1 | refine below_set ?_ GE291.out | refine below_set ?_ GE292.out) | exact HB.out)) hb); clear HO297; clear HO299; clear HO303; clear HO305; clear BK291; clear BK292; clear HB; have HO297 := n0_; have HO299 := n1_; have HO303 := n2_; have HO305 := n3_; have BK291 := n4_; have BK292 := n5_; have HB := n6_; clear n0_ n1_ n2_ n3_ n4_ n5_ n6_; (try clear hb); (try clear hb2); (try clear hk); (try clear hi)) | ((with_reducible refine gate_dst (N := 11) rfl ?_); refine box_event ?hg (N := 11) ?hd (cs := #[.int .i64 0, .int .i64 0]) (t := 24) ?hr ?_; (case hd => rfl); (case hg => rfl); (case hr => first | (go_simp; done) | (go_simp; rfl)); intro gb309 hg w39 hbox hb; have n0_ := Aside0.mk (Kd.R_below (by (with_reducible repeat (first | apply Kd.R_alloc | apply Kd.R_drewN | apply Kd.R_drew)); exact HO297.out) hb); have n1_ := Aside0.mk (Kd.R_below (by (with_reducible repeat (first | apply Kd.R_alloc | apply Kd.R_drewN | apply Kd.R_drew)); exact HO299.out) hb); have n2_ := Aside0.mk (Kd.R_below (by (with_reducible repeat (first | apply Kd.R_alloc | apply Kd.R_drewN | apply Kd.R_drew)); exact HO303.out) hb); have n3_ := Aside0.mk (Kd.R_below (by (with_reducible repeat (first | apply Kd.R_alloc | apply Kd.R_drewN | apply Kd.R_drew)); exact HO305.out) hb); have n4_ := Aside0.mk (blk_below (g := gb291) (o := .cells #[.int .i64 a1_0, .int .i64 a1_1] 24 (0, 0)) (by (with_reducible repeat (first | refine blk_drewN ?_ _ | refine blk_drew ?_ | refine blk_alloc ?_ _)); exact BK291.out) hb); have n5_ := Aside0.mk (blk_below (g := gb292) (o := .cells #[.int .i64 a2_0, .int .i64 a2_1, .int .i64 a2_2] 25 (0, 0)) (by (with_reducible repeat (first | refine blk_drewN ?_ _ | refine blk_drew ?_ | refine blk_alloc ?_ _)); exact BK292.out) hb); have n6_ := Aside0.mk (below_step (by repeat (first | (with_reducible first | exact HB.out | apply below_alloc | apply pw_below_drewN | apply below_drew1 | refine below_set ?_ GE291.out | refine below_set ?_ GE292.out) | exact HB.out)) hb); have n7_ := Aside0.mk (hbox); have n8_ := Aside0.mk ((by rw [hg]; exact (below_size (by repeat (first | (with_reducible first | exact HB.out | apply below_alloc | apply pw_below_drewN | apply below_drew1 | refine below_set ?_ GE291.out | refine below_set ?_ GE292.out) | exact HB.out))) : w.heap.size ≤ gb309)); have n9_ := Aside0.mk ((by rw [hg]; exact (below_size (by repeat (first | (with_reducible first | exact HB.out | apply below_alloc | apply pw_below_drewN | apply below_drew1 | refine below_set ?_ GE291.out | refine below_set ?_ GE292.out) | exact HB.out))) : w.heap.size ≤ gb309)); have n10_ := Aside0.mk ((by rw [hg]; exact Nat.ne_of_lt (blk_lt (g := gb291) (o := .cells #[.int .i64 a1_0, .int .i64 a1_1] 24 (0, 0)) (by (with_reducible repeat (first | refine blk_drewN ?_ _ | refine blk_drew ?_ | refine blk_alloc ?_ _)); exact BK291.out)) : gb291 ≠ gb309)); have n11_ := Aside0.mk ((by rw [hg]; exact Nat.ne_of_gt (blk_lt (g := gb291) (o := .cells #[.int .i64 a1_0, .int .i64 a1_1] 24 (0, 0)) (by (with_reducible repeat (first | refine blk_drewN ?_ _ | refine blk_drew ?_ | refine blk_alloc ?_ _)); exact BK291.out)) : gb309 ≠ gb291)); have n12_ := Aside0.mk ((by rw [hg]; exact Nat.ne_of_lt (blk_lt (g := gb292) (o := .cells #[.int .i64 a2_0, .int .i64 a2_1, .int .i64 a2_2] 25 (0, 0)) (by (with_reducible repeat (first | refine blk_drewN ?_ _ | refine blk_drew ?_ | refine blk_alloc ?_ _)); exact BK292.out)) : gb292 ≠ gb309)); have n13_ := Aside0.mk ((by rw [hg]; exact Nat.ne_of_gt (blk_lt (g := gb292) (o := .cells #[.int .i64 a2_0, .int .i64 a2_1, .int .i64 a2_2] 25 (0, 0)) (by (with_reducible repeat (first | refine blk_drewN ?_ _ | refine blk_drew ?_ | refine blk_alloc ?_ _)); exact BK292.out)) : gb309 ≠ gb292)); clear HO297; clear HO299; clear HO303; clear HO305; clear BK291; clear BK292; clear HB; have HO297 := n0_; have HO299 := n1_; have HO303 := n2_; have HO305 := n3_; have BK291 := n4_; have BK292 := n5_; have HB := n6_; have BK309 := n7_; have GW309 := n8_; have GE309 := n9_; have NB291_309 := n10_; have NB309_291 := n11_; have NB292_309 := n12_; have NB309_292 := n13_; clear n0_ n1_ n2_ n3_ n4_ n5_ n6_ n7_ n8_ n9_ n10_ n11_ n12_ n13_; clear hb hbox hg; have hnb40 := NB309_291.out; have hnc40 := NB291_309.out; have hnb41 := NB309_292.out; have hnc41 := NB292_309.out; have hcz42_0 : w39.cell? ⟨gb309, 0, none⟩ = some (.int .i64 0) := (blk_cell BK309.out 0).trans rfl; have hcz42_1 : w39.cell? ⟨gb309, 1, none⟩ = some (.int .i64 0) := (blk_cell BK309.out 1).trans rfl; have hfz42_0 := blk_frozen BK309.out 0; have hfz42_1 := blk_frozen BK309.out 1; have hcz43_0 : w39.cell? ⟨gb291, 0, none⟩ = some (.int .i64 a1_0) := (blk_cell BK291.out 0).trans rfl; have hcz43_1 : w39.cell? ⟨gb291, 1, none⟩ = some (.int .i64 a1_1) := (blk_cell BK291.out 1).trans rfl; have hfz43_0 := blk_frozen BK291.out 0; have hfz43_1 := blk_frozen BK291.out 1) | ((with_reducible refine gate_callee (f := 12) rfl ?_); refine goesL_ (some 47) rfl rfl Try.func12 (by kernel_rfl) rfl #[.slice A0 l0.length c0, .agg #[.int .i64 a1_0, .int .i64 a1_1]] rfl (by (try simp only [List.map_toArray, List.map_cons, List.map_nil]); first | done | rfl | (simp only [List.length_drop, List.length_take]; rfl)) ?_; (with_reducible refine (ductusref23_Back.calls k _ _ l0 a1_0 a1_1 t310 t311 t312 _ ?side1 ?side2 A13.out).mono ?_); (case side1 => exact Kd.C_below HR0.out (by repeat (first | (with_reducible first | exact HB.out | apply below_alloc | apply pw_below_drewN | apply below_drew1 | refine below_set ?_ GE291.out | refine below_set ?_ GE292.out | refine below_set ?_ GE309.out) | exact HB.out))); (case side2 => exact HC0.out); rintro e w44 ⟨rfl, hb⟩; refine ⟨_, rfl, ?_⟩; have n0_ := Aside0.mk (Kd.R_below (by (with_reducible repeat (first | apply Kd.R_alloc | apply Kd.R_drewN | apply Kd.R_drew)); exact (Kd.R_mono (Kd.R_far (p := ⟨gb309, 1, none⟩) (Kd.R_far (p := ⟨gb309, 0, none⟩) (Kd.R_types HO297.out BK309.out (by decide)) (fun _ hk => hk.2) (.int .i64 t306)) (fun _ hk => hk.2) (.int .i64 t307)) (fun _ h_ => h_.1))) hb); have n1_ := Aside0.mk (Kd.R_below (by (with_reducible repeat (first | apply Kd.R_alloc | apply Kd.R_drewN | apply Kd.R_drew)); exact (Kd.R_mono (Kd.R_far (p := ⟨gb309, 1, none⟩) (Kd.R_far (p := ⟨gb309, 0, none⟩) (Kd.R_types HO299.out BK309.out (by decide)) (fun _ hk => hk.2) (.int .i64 t306)) (fun _ hk => hk.2) (.int .i64 t307)) (fun _ h_ => h_.1))) hb); have n2_ := Aside0.mk (Kd.R_below (by (with_reducible repeat (first | apply Kd.R_alloc | apply Kd.R_drewN | apply Kd.R_drew)); exact (Kd.R_mono (Kd.R_far (p := ⟨gb309, 1, none⟩) (Kd.R_far (p := ⟨gb309, 0, none⟩) (Kd.R_types HO303.out BK309.out (by decide)) (fun _ hk => hk.2) (.int .i64 t306)) (fun _ hk => hk.2) (.int .i64 t307)) (fun _ h_ => h_.1))) hb); have n3_ := Aside0.mk (Kd.R_below (by (with_reducible repeat (first | apply Kd.R_alloc | apply Kd.R_drewN | apply Kd.R_drew)); exact (Kd.R_mono (Kd.R_far (p := ⟨gb309, 1, none⟩) (Kd.R_far (p := ⟨gb309, 0, none⟩) (Kd.R_types HO305.out BK309.out (by decide)) (fun _ hk => hk.2) (.int .i64 t306)) (fun _ hk => hk.2) (.int .i64 t307)) (fun _ h_ => h_.1))) hb); have n4_ := Aside0.mk (blk_below (g := gb291) (o := .cells #[.int .i64 a1_0, .int .i64 a1_1] 24 (0, 0)) (by (with_reducible repeat (first | refine blk_drewN ?_ _ | refine blk_drew ?_ | refine blk_alloc ?_ _)); refine blk_far ?_ NB291_309.out _; (with_reducible repeat (first | refine blk_drewN ?_ _ | refine blk_drew ?_ | refine blk_alloc ?_ _)); refine blk_far ?_ NB291_309.out _; (with_reducible repeat (first | refine blk_drewN ?_ _ | refine blk_drew ?_ | refine blk_alloc ?_ _)); exact BK291.out) hb); have n5_ := Aside0.mk (blk_below (g := gb292) (o := .cells #[.int .i64 a2_0, .int .i64 a2_1, .int .i64 a2_2] 25 (0, 0)) (by (with_reducible repeat (first | refine blk_drewN ?_ _ | refine blk_drew ?_ | refine blk_alloc ?_ _)); refine blk_far ?_ NB292_309.out _; (with_reducible repeat (first | refine blk_drewN ?_ _ | refine blk_drew ?_ | refine blk_alloc ?_ _)); refine blk_far ?_ NB292_309.out _; (with_reducible repeat (first | refine blk_drewN ?_ _ | refine blk_drew ?_ | refine blk_alloc ?_ _)); exact BK292.out) hb); have n6_ := Aside0.mk (blk_below (g := gb309) (o := .cells #[.int .i64 t306, .int .i64 t307] 24 (0, 0)) (by (with_reducible repeat (first | refine blk_drewN ?_ _ | refine blk_drew ?_ | refine blk_alloc ?_ _)); refine blk_put (cs := #[.int .i64 t306, .int .i64 0]) ?_ 1 _ rfl; (with_reducible repeat (first | refine blk_drewN ?_ _ | refine blk_drew ?_ | refine blk_alloc ?_ _)); refine blk_put (cs := #[.int .i64 0, .int .i64 0]) ?_ 0 _ rfl; (with_reducible repeat (first | refine blk_drewN ?_ _ | refine blk_drew ?_ | refine blk_alloc ?_ _)); exact BK309.out) hb); have n7_ := Aside0.mk (below_step (by repeat (first | (with_reducible first | exact HB.out | apply below_alloc | apply pw_below_drewN | apply below_drew1 | refine below_set ?_ GE291.out | refine below_set ?_ GE292.out | refine below_set ?_ GE309.out) | exact HB.out)) hb); clear HO297; clear HO299; clear HO303; clear HO305; clear BK291; clear BK292; clear BK309; clear HB; have HO297 := n0_; have HO299 := n1_; have HO303 := n2_; have HO305 := n3_; have BK291 := n4_; have BK292 := n5_; have BK309 := n6_; have HB := n7_; clear n0_ n1_ n2_ n3_ n4_ n5_ n6_ n7_; (try clear hb); (try clear hb2); (try clear hk); (try clear hi)) | ((with_reducible refine gate_dst (N := 13) rfl ?_); refine box_event ?hg (N := 13) ?hd (cs := #[.int .i64 0, .int .i64 0]) (t := 24) ?hr ?_; (case hd => rfl); (case hg => rfl); (case hr => first | (go_simp; done) | (go_simp; rfl)); intro gb313 hg w45 hbox hb; have n0_ := Aside0.mk (Kd.R_below (by (with_reducible repeat (first | apply Kd.R_alloc | apply Kd.R_drewN | apply Kd.R_drew)); exact HO297.out) hb); have n1_ := Aside0.mk (Kd.R_below (by (with_reducible repeat (first | apply Kd.R_alloc | apply Kd.R_drewN | apply Kd.R_drew)); exact HO299.out) hb); have n2_ := Aside0.mk (Kd.R_below (by (with_reducible repeat (first | apply Kd.R_alloc | apply Kd.R_drewN | apply Kd.R_drew)); exact HO303.out) hb); have n3_ := Aside0.mk (Kd.R_below (by (with_reducible repeat (first | apply Kd.R_alloc | apply Kd.R_drewN | apply Kd.R_drew)); exact HO305.out) hb); have n4_ := Aside0.mk (blk_below (g := gb291) (o := .cells #[.int .i64 a1_0, .int .i64 a1_1] 24 (0, 0)) (by (with_reducible repeat (first | refine blk_drewN ?_ _ | refine blk_drew ?_ | refine blk_alloc ?_ _)); exact BK291.out) hb); have n5_ := Aside0.mk (blk_below (g := gb292) (o := .cells #[.int .i64 a2_0, .int .i64 a2_1, .int .i64 a2_2] 25 (0, 0)) (by (with_reducible repeat (first | refine blk_drewN ?_ _ | refine blk_drew ?_ | refine blk_alloc ?_ _)); exact BK292.out) hb); have n6_ := Aside0.mk (blk_below (g := gb309) (o := .cells #[.int .i64 t306, .int .i64 t307] 24 (0, 0)) (by (with_reducible repeat (first | refine blk_drewN ?_ _ | refine blk_drew ?_ | refine blk_alloc ?_ _)); exact BK309.out) hb); have n7_ := Aside0.mk (below_step (by repeat (first | (with_reducible first | exact HB.out | apply below_alloc | apply pw_below_drewN | apply below_drew1 | refine below_set ?_ GE291.out | refine below_set ?_ GE292.out | refine below_set ?_ GE309.out) | exact HB.out)) hb); have n8_ := Aside0.mk (hbox); have n9_ := Aside0.mk ((by rw [hg]; exact (below_size (by repeat (first | (with_reducible first | exact HB.out | apply below_alloc | apply pw_below_drewN | apply below_drew1 | refine below_set ?_ GE291.out | refine below_set ?_ GE292.out | refine below_set ?_ GE309.out) | exact HB.out))) : w.heap.size ≤ gb313)); have n10_ := Aside0.mk ((by rw [hg]; exact (below_size (by repeat (first | (with_reducible first | exact HB.out | apply below_alloc | apply pw_below_drewN | apply below_drew1 | refine below_set ?_ GE291.out | refine below_set ?_ GE292.out | refine below_set ?_ GE309.out) | exact HB.out))) : w.heap.size ≤ gb313)); have n11_ := Aside0.mk ((by rw [hg]; exact Nat.ne_of_lt (blk_lt (g := gb291) (o := .cells #[.int .i64 a1_0, .int .i64 a1_1] 24 (0, 0)) (by (with_reducible repeat (first | refine blk_drewN ?_ _ | refine blk_drew ?_ | refine blk_alloc ?_ _)); exact BK291.out)) : gb291 ≠ gb313)); have n12_ := Aside0.mk ((by rw [hg]; exact Nat.ne_of_gt (blk_lt (g := gb291) (o := .cells #[.int .i64 a1_0, .int .i64 a1_1] 24 (0, 0)) (by (with_reducible repeat (first | refine blk_drewN ?_ _ | refine blk_drew ?_ | refine blk_alloc ?_ _)); exact BK291.out)) : gb313 ≠ gb291)); have n13_ := Aside0.mk ((by rw [hg]; exact Nat.ne_of_lt (blk_lt (g := gb292) (o := .cells #[.int .i64 a2_0, .int .i64 a2_1, .int .i64 a2_2] 25 (0, 0)) (by (with_reducible repeat (first | refine blk_drewN ?_ _ | refine blk_drew ?_ | refine blk_alloc ?_ _)); exact BK292.out)) : gb292 ≠ gb313)); have n14_ := Aside0.mk ((by rw [hg]; exact Nat.ne_of_gt (blk_lt (g := gb292) (o := .cells #[.int .i64 a2_0, .int .i64 a2_1, .int .i64 a2_2] 25 (0, 0)) (by (with_reducible repeat (first | refine blk_drewN ?_ _ | refine blk_drew ?_ | refine blk_alloc ?_ _)); exact BK292.out)) : gb313 ≠ gb292)); have n15_ := Aside0.mk ((by rw [hg]; exact Nat.ne_of_lt (blk_lt (g := gb309) (o := .cells #[.int .i64 t306, .int .i64 t307] 24 (0, 0)) (by (with_reducible repeat (first | refine blk_drewN ?_ _ | refine blk_drew ?_ | refine blk_alloc ?_ _)); exact BK309.out)) : gb309 ≠ gb313)); have n16_ := Aside0.mk ((by rw [hg]; exact Nat.ne_of_gt (blk_lt (g := gb309) (o := .cells #[.int .i64 t306, .int .i64 t307] 24 (0, 0)) (by (with_reducible repeat (first | refine blk_drewN ?_ _ | refine blk_drew ?_ | refine blk_alloc ?_ _)); exact BK309.out)) : gb313 ≠ gb309)); clear HO297; clear HO299; clear HO303; clear HO305; clear BK291; clear BK292; clear BK309; clear HB; have HO297 := n0_; have HO299 := n1_; have HO303 := n2_; have HO305 := n3_; have BK291 := n4_; have BK292 := n5_; have BK309 := n6_; have HB := n7_; have BK313 := n8_; have GW313 := n9_; have GE313 := n10_; have NB291_313 := n11_; have NB313_291 := n12_; have NB292_313 := n13_; have NB313_292 := n14_; have NB309_313 := n15_; have NB313_309 := n16_; clear n0_ n1_ n2_ n3_ n4_ n5_ n6_ n7_ n8_ n9_ n10_ n11_ n12_ n13_ n14_ n15_ n16_; clear hb hbox hg; have hnb46 := NB313_291.out; have hnc46 := NB291_313.out; have hnb47 := NB313_292.out; have hnc47 := NB292_313.out; have hnb48 := NB313_309.out; have hnc48 := NB309_313.out; have hcz49_0 : w45.cell? ⟨gb313, 0, none⟩ = some (.int .i64 0) := (blk_cell BK313.out 0).trans rfl; have hcz49_1 : w45.cell? ⟨gb313, 1, none⟩ = some (.int .i64 0) := (blk_cell BK313.out 1).trans rfl; have hfz49_0 := blk_frozen BK313.out 0; have hfz49_1 := blk_frozen BK313.out 1; have hcz50_0 : w45.cell? ⟨gb291, 0, none⟩ = some (.int .i64 a1_0) := (blk_cell BK291.out 0).trans rfl; have hcz50_1 : w45.cell? ⟨gb291, 1, none⟩ = some (.int .i64 a1_1) := (blk_cell BK291.out 1).trans rfl; have hfz50_0 := blk_frozen BK291.out 0; have hfz50_1 := blk_frozen BK291.out 1) | ((with_reducible refine gate_callee (f := 13) rfl ?_); refine goesL_ (some 53) rfl rfl Try.func13 (by kernel_rfl) rfl #[.slice A0 l0.length c0, .agg #[.int .i64 a1_0, .int .i64 a1_1]] rfl (by (try simp only [List.map_toArray, List.map_cons, List.map_nil]); first | done | rfl | (simp only [List.length_drop, List.length_take]; rfl)) ?_; (with_reducible refine (norm_Bytes.calls _ _ l0 a1_0 a1_1 t314 t315 t316 _ ?side1 ?side2 A14.out).mono ?_); (case side1 => exact Kd.C_below HR0.out (by repeat (first | (with_reducible first | exact HB.out | apply below_alloc | apply pw_below_drewN | apply below_drew1 | refine below_set ?_ GE291.out | refine below_set ?_ GE292.out | refine below_set ?_ GE309.out | refine below_set ?_ GE313.out) | exact HB.out))); (case side2 => exact HC0.out); rintro e w51 ⟨rfl, hb⟩; refine ⟨_, rfl, ?_⟩; have n0_ := Aside0.mk (Kd.R_below (by (with_reducible repeat (first | apply Kd.R_alloc | apply Kd.R_drewN | apply Kd.R_drew)); exact (Kd.R_mono (Kd.R_far (p := ⟨gb313, 1, none⟩) (Kd.R_far (p := ⟨gb313, 0, none⟩) (Kd.R_types HO297.out BK313.out (by decide)) (fun _ hk => hk.2) (.int .i64 t310)) (fun _ hk => hk.2) (.int .i64 t311)) (fun _ h_ => h_.1))) hb); have n1_ := Aside0.mk (Kd.R_below (by (with_reducible repeat (first | apply Kd.R_alloc | apply Kd.R_drewN | apply Kd.R_drew)); exact (Kd.R_mono (Kd.R_far (p := ⟨gb313, 1, none⟩) (Kd.R_far (p := ⟨gb313, 0, none⟩) (Kd.R_types HO299.out BK313.out (by decide)) (fun _ hk => hk.2) (.int .i64 t310)) (fun _ hk => hk.2) (.int .i64 t311)) (fun _ h_ => h_.1))) hb); have n2_ := Aside0.mk (Kd.R_below (by (with_reducible repeat (first | apply Kd.R_alloc | apply Kd.R_drewN | apply Kd.R_drew)); exact (Kd.R_mono (Kd.R_far (p := ⟨gb313, 1, none⟩) (Kd.R_far (p := ⟨gb313, 0, none⟩) (Kd.R_types HO303.out BK313.out (by decide)) (fun _ hk => hk.2) (.int .i64 t310)) (fun _ hk => hk.2) (.int .i64 t311)) (fun _ h_ => h_.1))) hb); have n3_ := Aside0.mk (Kd.R_below (by (with_reducible repeat (first | apply Kd.R_alloc | apply Kd.R_drewN | apply Kd.R_drew)); exact (Kd.R_mono (Kd.R_far (p := ⟨gb313, 1, none⟩) (Kd.R_far (p := ⟨gb313, 0, none⟩) (Kd.R_types HO305.out BK313.out (by decide)) (fun _ hk => hk.2) (.int .i64 t310)) (fun _ hk => hk.2) (.int .i64 t311)) (fun _ h_ => h_.1))) hb); have n4_ := Aside0.mk (blk_below (g := gb291) (o := .cells #[.int .i64 a1_0, .int .i64 a1_1] 24 (0, 0)) (by (with_reducible repeat (first | refine blk_drewN ?_ _ | refine blk_drew ?_ | refine blk_alloc ?_ _)); refine blk_far ?_ NB291_313.out _; (with_reducible repeat (first | refine blk_drewN ?_ _ | refine blk_drew ?_ | refine blk_alloc ?_ _)); refine blk_far ?_ NB291_313.out _; (with_reducible repeat (first | refine blk_drewN ?_ _ | refine blk_drew ?_ | refine blk_alloc ?_ _)); exact BK291.out) hb); have n5_ := Aside0.mk (blk_below (g := gb292) (o := .cells #[.int .i64 a2_0, .int .i64 a2_1, .int .i64 a2_2] 25 (0, 0)) (by (with_reducible repeat (first | refine blk_drewN ?_ _ | refine blk_drew ?_ | refine blk_alloc ?_ _)); refine blk_far ?_ NB292_313.out _; (with_reducible repeat (first | refine blk_drewN ?_ _ | refine blk_drew ?_ | refine blk_alloc ?_ _)); refine blk_far ?_ NB292_313.out _; (with_reducible repeat (first | refine blk_drewN ?_ _ | refine blk_drew ?_ | refine blk_alloc ?_ _)); exact BK292.out) hb); have n6_ := Aside0.mk (blk_below (g := gb309) (o := .cells #[.int .i64 t306, .int .i64 t307] 24 (0, 0)) (by (with_reducible repeat (first | refine blk_drewN ?_ _ | refine blk_drew ?_ | refine blk_alloc ?_ _)); refine blk_far ?_ NB309_313.out _; (with_reducible repeat (first | refine blk_drewN ?_ _ | refine blk_drew ?_ | refine blk_alloc ?_ _)); refine blk_far ?_ NB309_313.out _; (with_reducible repeat (first | refine blk_drewN ?_ _ | refine blk_drew ?_ | refine blk_alloc ?_ _)); exact BK309.out) hb); have n7_ := Aside0.mk (blk_below (g := gb313) (o := .cells #[.int .i64 t310, .int .i64 t311] 24 (0, 0)) (by (with_reducible repeat (first | refine blk_drewN ?_ _ | refine blk_drew ?_ | refine blk_alloc ?_ _)); refine blk_put (cs := #[.int .i64 t310, .int .i64 0]) ?_ 1 _ rfl; (with_reducible repeat (first | refine blk_drewN ?_ _ | refine blk_drew ?_ | refine blk_alloc ?_ _)); refine blk_put (cs := #[.int .i64 0, .int .i64 0]) ?_ 0 _ rfl; (with_reducible repeat (first | refine blk_drewN ?_ _ | refine blk_drew ?_ | refine blk_alloc ?_ _)); exact BK313.out) hb); have n8_ := Aside0.mk (below_step (by repeat (first | (with_reducible first | exact HB.out | apply below_alloc | apply pw_below_drewN | apply below_drew1 | refine below_set ?_ GE291.out | refine below_set ?_ GE292.out | refine below_set ?_ GE309.out | refine below_set ?_ GE313.out) | exact HB.out)) hb); clear HO297; clear HO299; clear HO303; clear HO305; clear BK291; clear BK292; clear BK309; clear BK313; clear HB; have HO297 := n0_; have HO299 := n1_; have HO303 := n2_; have HO305 := n3_; have BK291 := n4_; have BK292 := n5_; have BK309 := n6_; have BK313 := n7_; have HB := n8_; clear n0_ n1_ n2_ n3_ n4_ n5_ n6_ n7_ n8_; (try clear hb); (try clear hb2); (try clear hk); (try clear hi)) | ((with_reducible refine gate_dst (N := 15) rfl ?_); refine box_event ?hg (N := 15) ?hd (cs := #[.int .i64 0, .int .i64 0]) (t := 24) ?hr ?_; (case hd => rfl); (case hg => rfl); (case hr => first | (go_simp; done) | (go_simp; rfl)); intro gb317 hg w52 hbox hb; have n0_ := Aside0.mk (Kd.R_below (by (with_reducible repeat (first | apply Kd.R_alloc | apply Kd.R_drewN | apply Kd.R_drew)); exact HO297.out) hb); have n1_ := Aside0.mk (Kd.R_below (by (with_reducible repeat (first | apply Kd.R_alloc | apply Kd.R_drewN | apply Kd.R_drew)); exact HO299.out) hb); have n2_ := Aside0.mk (Kd.R_below (by (with_reducible repeat (first | apply Kd.R_alloc | apply Kd.R_drewN | apply Kd.R_drew)); exact HO303.out) hb); have n3_ := Aside0.mk (Kd.R_below (by (with_reducible repeat (first | apply Kd.R_alloc | apply Kd.R_drewN | apply Kd.R_drew)); exact HO305.out) hb); have n4_ := Aside0.mk (blk_below (g := gb291) (o := .cells #[.int .i64 a1_0, .int .i64 a1_1] 24 (0, 0)) (by (with_reducible repeat (first | refine blk_drewN ?_ _ | refine blk_drew ?_ | refine blk_alloc ?_ _)); exact BK291.out) hb); have n5_ := Aside0.mk (blk_below (g := gb292) (o := .cells #[.int .i64 a2_0, .int .i64 a2_1, .int .i64 a2_2] 25 (0, 0)) (by (with_reducible repeat (first | refine blk_drewN ?_ _ | refine blk_drew ?_ | refine blk_alloc ?_ _)); exact BK292.out) hb); have n6_ := Aside0.mk (blk_below (g := gb309) (o := .cells #[.int .i64 t306, .int .i64 t307] 24 (0, 0)) (by (with_reducible repeat (first | refine blk_drewN ?_ _ | refine blk_drew ?_ | refine blk_alloc ?_ _)); exact BK309.out) hb); have n7_ := Aside0.mk (blk_below (g := gb313) (o := .cells #[.int .i64 t310, .int .i64 t311] 24 (0, 0)) (by (with_reducible repeat (first | refine blk_drewN ?_ _ | refine blk_drew ?_ | refine blk_alloc ?_ _)); exact BK313.out) hb); have n8_ := Aside0.mk (below_step (by repeat (first | (with_reducible first | exact HB.out | apply below_alloc | apply pw_below_drewN | apply below_drew1 | refine below_set ?_ GE291.out | refine below_set ?_ GE292.out | refine below_set ?_ GE309.out | refine below_set ?_ GE313.out) | exact HB.out)) hb); have n9_ := Aside0.mk (hbox); have n10_ := Aside0.mk ((by rw [hg]; exact (below_size (by repeat (first | (with_reducible first | exact HB.out | apply below_alloc | apply pw_below_drewN | apply below_drew1 | refine below_set ?_ GE291.out | refine below_set ?_ GE292.out | refine below_set ?_ GE309.out | refine below_set ?_ GE313.out) | exact HB.out))) : w.heap.size ≤ gb317)); have n11_ := Aside0.mk ((by rw [hg]; exact (below_size (by repeat (first | (with_reducible first | exact HB.out | apply below_alloc | apply pw_below_drewN | apply below_drew1 | refine below_set ?_ GE291.out | refine below_set ?_ GE292.out | refine below_set ?_ GE309.out | refine below_set ?_ GE313.out) | exact HB.out))) : w.heap.size ≤ gb317)); have n12_ := Aside0.mk ((by rw [hg]; exact Nat.ne_of_lt (blk_lt (g := gb291) (o := .cells #[.int .i64 a1_0, .int .i64 a1_1] 24 (0, 0)) (by (with_reducible repeat (first | refine blk_drewN ?_ _ | refine blk_drew ?_ | refine blk_alloc ?_ _)); exact BK291.out)) : gb291 ≠ gb317)); have n13_ := Aside0.mk ((by rw [hg]; exact Nat.ne_of_gt (blk_lt (g := gb291) (o := .cells #[.int .i64 a1_0, .int .i64 a1_1] 24 (0, 0)) (by (with_reducible repeat (first | refine blk_drewN ?_ _ | refine blk_drew ?_ | refine blk_alloc ?_ _)); exact BK291.out)) : gb317 ≠ gb291)); have n14_ := Aside0.mk ((by rw [hg]; exact Nat.ne_of_lt (blk_lt (g := gb292) (o := .cells #[.int .i64 a2_0, .int .i64 a2_1, .int .i64 a2_2] 25 (0, 0)) (by (with_reducible repeat (first | refine blk_drewN ?_ _ | refine blk_drew ?_ | refine blk_alloc ?_ _)); exact BK292.out)) : gb292 ≠ gb317)); have n15_ := Aside0.mk ((by rw [hg]; exact Nat.ne_of_gt (blk_lt (g := gb292) (o := .cells #[.int .i64 a2_0, .int .i64 a2_1, .int .i64 a2_2] 25 (0, 0)) (by (with_reducible repeat (first | refine blk_drewN ?_ _ | refine blk_drew ?_ | refine blk_alloc ?_ _)); exact BK292.out)) : gb317 ≠ gb292)); have n16_ := Aside0.mk ((by rw [hg]; exact Nat.ne_of_lt (blk_lt (g := gb309) (o := .cells #[.int .i64 t306, .int .i64 t307] 24 (0, 0)) (by (with_reducible repeat (first | refine blk_drewN ?_ _ | refine blk_drew ?_ | refine blk_alloc ?_ _)); exact BK309.out)) : gb309 ≠ gb317)); have n17_ := Aside0.mk ((by rw [hg]; exact Nat.ne_of_gt (blk_lt (g := gb309) (o := .cells #[.int .i64 t306, .int .i64 t307] 24 (0, 0)) (by (with_reducible repeat (first | refine blk_drewN ?_ _ | refine blk_drew ?_ | refine blk_alloc ?_ _)); exact BK309.out)) : gb317 ≠ gb309)); have n18_ := Aside0.mk ((by rw [hg]; exact Nat.ne_of_lt (blk_lt (g := gb313) (o := .cells #[.int .i64 t310, .int .i64 t311] 24 (0, 0)) (by (with_reducible repeat (first | refine blk_drewN ?_ _ | refine blk_drew ?_ | refine blk_alloc ?_ _)); exact BK313.out)) : gb313 ≠ gb317)); have n19_ := Aside0.mk ((by rw [hg]; exact Nat.ne_of_gt (blk_lt (g := gb313) (o := .cells #[.int .i64 t310, .int .i64 t311] 24 (0, 0)) (by (with_reducible repeat (first | refine blk_drewN ?_ _ | refine blk_drew ?_ | refine blk_alloc ?_ _)); exact BK313.out)) : gb317 ≠ gb313)); clear HO297; clear HO299; clear HO303; clear HO305; clear BK291; clear BK292; clear BK309; clear BK313; clear HB; have HO297 := n0_; have HO299 := n1_; have HO303 := n2_; have HO305 := n3_; have BK291 := n4_; have BK292 := n5_; have BK309 := n6_; have BK313 := n7_; have HB := n8_; have BK317 := n9_; have GW317 := n10_; have GE317 := n11_; have NB291_317 := n12_; have NB317_291 := n13_; have NB292_317 := n14_; have NB317_292 := n15_; have NB309_317 := n16_; have NB317_309 := n17_; have NB313_317 := n18_; have NB317_313 := n19_; clear n0_ n1_ n2_ n3_ n4_ n5_ n6_ n7_ n8_ n9_ n10_ n11_ n12_ n13_ n14_ n15_ n16_ n17_ n18_ n19_; clear hb hbox hg; have hnb53 := NB317_291.out; have hnc53 := NB291_317.out; have hnb54 := NB317_292.out; have hnc54 := NB292_317.out; have hnb55 := NB317_309.out; have hnc55 := NB309_317.out; have hnb56 := NB317_313.out; have hnc56 := NB313_317.out; have hcz57_0 : w52.cell? ⟨gb317, 0, none⟩ = some (.int .i64 0) := (blk_cell BK317.out 0).trans rfl; have hcz57_1 : w52.cell? ⟨gb317, 1, none⟩ = some (.int .i64 0) := (blk_cell BK317.out 1).trans rfl; have hfz57_0 := blk_frozen BK317.out 0; have hfz57_1 := blk_frozen BK317.out 1; have hcz58_0 : w52.cell? ⟨gb291, 0, none⟩ = some (.int .i64 a1_0) := (blk_cell BK291.out 0).trans rfl; have hcz58_1 : w52.cell? ⟨gb291, 1, none⟩ = some (.int .i64 a1_1) := (blk_cell BK291.out 1).trans rfl; have hfz58_0 := blk_frozen BK291.out 0; have hfz58_1 := blk_frozen BK291.out 1) | ((with_reducible refine gate_callee (f := 14) rfl ?_); refine goesL_ (some 59) rfl rfl Try.func14 (by kernel_rfl) rfl #[.slice A0 l0.length c0, .agg #[.int .i64 a1_0, .int .i64 a1_1]] rfl (by (try simp only [List.map_toArray, List.map_cons, List.map_nil]); first | done | rfl | (simp only [List.length_drop, List.length_take]; rfl)) ?_; (with_reducible refine (ductusref23_Bytes.calls _ _ l0 a1_0 a1_1 t318 t319 t320 _ ?side1 ?side2 A15.out).mono ?_); (case side1 => exact Kd.C_below HR0.out (by repeat (first | (with_reducible first | exact HB.out | apply below_alloc | apply pw_below_drewN | apply below_drew1 | refine below_set ?_ GE291.out | refine below_set ?_ GE292.out | refine below_set ?_ GE309.out | refine below_set ?_ GE313.out | refine below_set ?_ GE317.out) | exact HB.out))); (case side2 => exact HC0.out); rintro e w59 ⟨rfl, hb⟩; refine ⟨_, rfl, ?_⟩; have n0_ := Aside0.mk (Kd.R_below (by (with_reducible repeat (first | apply Kd.R_alloc | apply Kd.R_drewN | apply Kd.R_drew)); exact (Kd.R_mono (Kd.R_far (p := ⟨gb317, 1, none⟩) (Kd.R_far (p := ⟨gb317, 0, none⟩) (Kd.R_types HO297.out BK317.out (by decide)) (fun _ hk => hk.2) (.int .i64 t314)) (fun _ hk => hk.2) (.int .i64 t315)) (fun _ h_ => h_.1))) hb); have n1_ := Aside0.mk (Kd.R_below (by (with_reducible repeat (first | apply Kd.R_alloc | apply Kd.R_drewN | apply Kd.R_drew)); exact (Kd.R_mono (Kd.R_far (p := ⟨gb317, 1, none⟩) (Kd.R_far (p := ⟨gb317, 0, none⟩) (Kd.R_types HO299.out BK317.out (by decide)) (fun _ hk => hk.2) (.int .i64 t314)) (fun _ hk => hk.2) (.int .i64 t315)) (fun _ h_ => h_.1))) hb); have n2_ := Aside0.mk (Kd.R_below (by (with_reducible repeat (first | apply Kd.R_alloc | apply Kd.R_drewN | apply Kd.R_drew)); exact (Kd.R_mono (Kd.R_far (p := ⟨gb317, 1, none⟩) (Kd.R_far (p := ⟨gb317, 0, none⟩) (Kd.R_types HO303.out BK317.out (by decide)) (fun _ hk => hk.2) (.int .i64 t314)) (fun _ hk => hk.2) (.int .i64 t315)) (fun _ h_ => h_.1))) hb); have n3_ := Aside0.mk (Kd.R_below (by (with_reducible repeat (first | apply Kd.R_alloc | apply Kd.R_drewN | apply Kd.R_drew)); exact (Kd.R_mono (Kd.R_far (p := ⟨gb317, 1, none⟩) (Kd.R_far (p := ⟨gb317, 0, none⟩) (Kd.R_types HO305.out BK317.out (by decide)) (fun _ hk => hk.2) (.int .i64 t314)) (fun _ hk => hk.2) (.int .i64 t315)) (fun _ h_ => h_.1))) hb); have n4_ := Aside0.mk (blk_below (g := gb291) (o := .cells #[.int .i64 a1_0, .int .i64 a1_1] 24 (0, 0)) (by (with_reducible repeat (first | refine blk_drewN ?_ _ | refine blk_drew ?_ | refine blk_alloc ?_ _)); refine blk_far ?_ NB291_317.out _; (with_reducible repeat (first | refine blk_drewN ?_ _ | refine blk_drew ?_ | refine blk_alloc ?_ _)); refine blk_far ?_ NB291_317.out _; (with_reducible repeat (first | refine blk_drewN ?_ _ | refine blk_drew ?_ | refine blk_alloc ?_ _)); exact BK291.out) hb); have n5_ := Aside0.mk (blk_below (g := gb292) (o := .cells #[.int .i64 a2_0, .int .i64 a2_1, .int .i64 a2_2] 25 (0, 0)) (by (with_reducible repeat (first | refine blk_drewN ?_ _ | refine blk_drew ?_ | refine blk_alloc ?_ _)); refine blk_far ?_ NB292_317.out _; (with_reducible repeat (first | refine blk_drewN ?_ _ | refine blk_drew ?_ | refine blk_alloc ?_ _)); refine blk_far ?_ NB292_317.out _; (with_reducible repeat (first | refine blk_drewN ?_ _ | refine blk_drew ?_ | refine blk_alloc ?_ _)); exact BK292.out) hb); have n6_ := Aside0.mk (blk_below (g := gb309) (o := .cells #[.int .i64 t306, .int .i64 t307] 24 (0, 0)) (by (with_reducible repeat (first | refine blk_drewN ?_ _ | refine blk_drew ?_ | refine blk_alloc ?_ _)); refine blk_far ?_ NB309_317.out _; (with_reducible repeat (first | refine blk_drewN ?_ _ | refine blk_drew ?_ | refine blk_alloc ?_ _)); refine blk_far ?_ NB309_317.out _; (with_reducible repeat (first | refine blk_drewN ?_ _ | refine blk_drew ?_ | refine blk_alloc ?_ _)); exact BK309.out) hb); have n7_ := Aside0.mk (blk_below (g := gb313) (o := .cells #[.int .i64 t310, .int .i64 t311] 24 (0, 0)) (by (with_reducible repeat (first | refine blk_drewN ?_ _ | refine blk_drew ?_ | refine blk_alloc ?_ _)); refine blk_far ?_ NB313_317.out _; (with_reducible repeat (first | refine blk_drewN ?_ _ | refine blk_drew ?_ | refine blk_alloc ?_ _)); refine blk_far ?_ NB313_317.out _; (with_reducible repeat (first | refine blk_drewN ?_ _ | refine blk_drew ?_ | refine blk_alloc ?_ _)); exact BK313.out) hb); have n8_ := Aside0.mk (blk_below (g := gb317) (o := .cells #[.int .i64 t314, .int .i64 t315] 24 (0, 0)) (by (with_reducible repeat (first | refine blk_drewN ?_ _ | refine blk_drew ?_ | refine blk_alloc ?_ _)); refine blk_put (cs := #[.int .i64 t314, .int .i64 0]) ?_ 1 _ rfl; (with_reducible repeat (first | refine blk_drewN ?_ _ | refine blk_drew ?_ | refine blk_alloc ?_ _)); refine blk_put (cs := #[.int .i64 0, .int .i64 0]) ?_ 0 _ rfl; (with_reducible repeat (first | refine blk_drewN ?_ _ | refine blk_drew ?_ | refine blk_alloc ?_ _)); exact BK317.out) hb); have n9_ := Aside0.mk (below_step (by repeat (first | (with_reducible first | exact HB.out | apply below_alloc | apply pw_below_drewN | apply below_drew1 | refine below_set ?_ GE291.out | refine below_set ?_ GE292.out | refine below_set ?_ GE309.out | refine below_set ?_ GE313.out | refine below_set ?_ GE317.out) | exact HB.out)) hb); clear HO297; clear HO299; clear HO303; clear HO305; clear BK291; clear BK292; clear BK309; clear BK313; clear BK317; clear HB; have HO297 := n0_; have HO299 := n1_; have HO303 := n2_; have HO305 := n3_; have BK291 := n4_; have BK292 := n5_; have BK309 := n6_; have BK313 := n7_; have BK317 := n8_; have HB := n9_; clear n0_ n1_ n2_ n3_ n4_ n5_ n6_ n7_ n8_ n9_; (try clear hb); (try clear hb2); (try clear hk); (try clear hi)) | ((with_reducible refine gate_dst (N := 17) rfl ?_); refine box_event ?hg (N := 17) ?hd (cs := #[.int .i64 0, .int .i64 0]) (t := 24) ?hr ?_; (case hd => rfl); (case hg => rfl); (case hr => first | (go_simp; done) | (go_simp; rfl)); intro gb321 hg w60 hbox hb; have n0_ := Aside0.mk (Kd.R_below (by (with_reducible repeat (first | apply Kd.R_alloc | apply Kd.R_drewN | apply Kd.R_drew)); exact HO297.out) hb); have n1_ := Aside0.mk (Kd.R_below (by (with_reducible repeat (first | apply Kd.R_alloc | apply Kd.R_drewN | apply Kd.R_drew)); exact HO299.out) hb); have n2_ := Aside0.mk (Kd.R_below (by (with_reducible repeat (first | apply Kd.R_alloc | apply Kd.R_drewN | apply Kd.R_drew)); exact HO303.out) hb); have n3_ := Aside0.mk (Kd.R_below (by (with_reducible repeat (first | apply Kd.R_alloc | apply Kd.R_drewN | apply Kd.R_drew)); exact HO305.out) hb); have n4_ := Aside0.mk (blk_below (g := gb291) (o := .cells #[.int .i64 a1_0, .int .i64 a1_1] 24 (0, 0)) (by (with_reducible repeat (first | refine blk_drewN ?_ _ | refine blk_drew ?_ | refine blk_alloc ?_ _)); exact BK291.out) hb); have n5_ := Aside0.mk (blk_below (g := gb292) (o := .cells #[.int .i64 a2_0, .int .i64 a2_1, .int .i64 a2_2] 25 (0, 0)) (by (with_reducible repeat (first | refine blk_drewN ?_ _ | refine blk_drew ?_ | refine blk_alloc ?_ _)); exact BK292.out) hb); have n6_ := Aside0.mk (blk_below (g := gb309) (o := .cells #[.int .i64 t306, .int .i64 t307] 24 (0, 0)) (by (with_reducible repeat (first | refine blk_drewN ?_ _ | refine blk_drew ?_ | refine blk_alloc ?_ _)); exact BK309.out) hb); have n7_ := Aside0.mk (blk_below (g := gb313) (o := .cells #[.int .i64 t310, .int .i64 t311] 24 (0, 0)) (by (with_reducible repeat (first | refine blk_drewN ?_ _ | refine blk_drew ?_ | refine blk_alloc ?_ _)); exact BK313.out) hb); have n8_ := Aside0.mk (blk_below (g := gb317) (o := .cells #[.int .i64 t314, .int .i64 t315] 24 (0, 0)) (by (with_reducible repeat (first | refine blk_drewN ?_ _ | refine blk_drew ?_ | refine blk_alloc ?_ _)); exact BK317.out) hb); have n9_ := Aside0.mk (below_step (by repeat (first | (with_reducible first | exact HB.out | apply below_alloc | apply pw_below_drewN | apply below_drew1 | refine below_set ?_ GE291.out | refine below_set ?_ GE292.out | refine below_set ?_ GE309.out | refine below_set ?_ GE313.out | refine below_set ?_ GE317.out) | exact HB.out)) hb); have n10_ := Aside0.mk (hbox); have n11_ := Aside0.mk ((by rw [hg]; exact (below_size (by repeat (first | (with_reducible first | exact HB.out | apply below_alloc | apply pw_below_drewN | apply below_drew1 | refine below_set ?_ GE291.out | refine below_set ?_ GE292.out | refine below_set ?_ GE309.out | refine below_set ?_ GE313.out | refine below_set ?_ GE317.out) | exact HB.out))) : w.heap.size ≤ gb321)); have n12_ := Aside0.mk ((by rw [hg]; exact (below_size (by repeat (first | (with_reducible first | exact HB.out | apply below_alloc | apply pw_below_drewN | apply below_drew1 | refine below_set ?_ GE291.out | refine below_set ?_ GE292.out | refine below_set ?_ GE309.out | refine below_set ?_ GE313.out | refine below_set ?_ GE317.out) | exact HB.out))) : w.heap.size ≤ gb321)); have n13_ := Aside0.mk ((by rw [hg]; exact Nat.ne_of_lt (blk_lt (g := gb291) (o := .cells #[.int .i64 a1_0, .int .i64 a1_1] 24 (0, 0)) (by (with_reducible repeat (first | refine blk_drewN ?_ _ | refine blk_drew ?_ | refine blk_alloc ?_ _)); exact BK291.out)) : gb291 ≠ gb321)); have n14_ := Aside0.mk ((by rw [hg]; exact Nat.ne_of_gt (blk_lt (g := gb291) (o := .cells #[.int .i64 a1_0, .int .i64 a1_1] 24 (0, 0)) (by (with_reducible repeat (first | refine blk_drewN ?_ _ | refine blk_drew ?_ | refine blk_alloc ?_ _)); exact BK291.out)) : gb321 ≠ gb291)); have n15_ := Aside0.mk ((by rw [hg]; exact Nat.ne_of_lt (blk_lt (g := gb292) (o := .cells #[.int .i64 a2_0, .int .i64 a2_1, .int .i64 a2_2] 25 (0, 0)) (by (with_reducible repeat (first | refine blk_drewN ?_ _ | refine blk_drew ?_ | refine blk_alloc ?_ _)); exact BK292.out)) : gb292 ≠ gb321)); have n16_ := Aside0.mk ((by rw [hg]; exact Nat.ne_of_gt (blk_lt (g := gb292) (o := .cells #[.int .i64 a2_0, .int .i64 a2_1, .int .i64 a2_2] 25 (0, 0)) (by (with_reducible repeat (first | refine blk_drewN ?_ _ | refine blk_drew ?_ | refine blk_alloc ?_ _)); exact BK292.out)) : gb321 ≠ gb292)); have n17_ := Aside0.mk ((by rw [hg]; exact Nat.ne_of_lt (blk_lt (g := gb309) (o := .cells #[.int .i64 t306, .int .i64 t307] 24 (0, 0)) (by (with_reducible repeat (first | refine blk_drewN ?_ _ | refine blk_drew ?_ | refine blk_alloc ?_ _)); exact BK309.out)) : gb309 ≠ gb321)); have n18_ := Aside0.mk ((by rw [hg]; exact Nat.ne_of_gt (blk_lt (g := gb309) (o := .cells #[.int .i64 t306, .int .i64 t307] 24 (0, 0)) (by (with_reducible repeat (first | refine blk_drewN ?_ _ | refine blk_drew ?_ | refine blk_alloc ?_ _)); exact BK309.out)) : gb321 ≠ gb309)); have n19_ := Aside0.mk ((by rw [hg]; exact Nat.ne_of_lt (blk_lt (g := gb313) (o := .cells #[.int .i64 t310, .int .i64 t311] 24 (0, 0)) (by (with_reducible repeat (first | refine blk_drewN ?_ _ | refine blk_drew ?_ | refine blk_alloc ?_ _)); exact BK313.out)) : gb313 ≠ gb321)); have n20_ := Aside0.mk ((by rw [hg]; exact Nat.ne_of_gt (blk_lt (g := gb313) (o := .cells #[.int .i64 t310, .int .i64 t311] 24 (0, 0)) (by (with_reducible repeat (first | refine blk_drewN ?_ _ | refine blk_drew ?_ | refine blk_alloc ?_ _)); exact BK313.out)) : gb321 ≠ gb313)); have n21_ := Aside0.mk ((by rw [hg]; exact Nat.ne_of_lt (blk_lt (g := gb317) (o := .cells #[.int .i64 t314, .int .i64 t315] 24 (0, 0)) (by (with_reducible repeat (first | refine blk_drewN ?_ _ | refine blk_drew ?_ | refine blk_alloc ?_ _)); exact BK317.out)) : gb317 ≠ gb321)); have n22_ := Aside0.mk ((by rw [hg]; exact Nat.ne_of_gt (blk_lt (g := gb317) (o := .cells #[.int .i64 t314, .int .i64 t315] 24 (0, 0)) (by (with_reducible repeat (first | refine blk_drewN ?_ _ | refine blk_drew ?_ | refine blk_alloc ?_ _)); exact BK317.out)) : gb321 ≠ gb317)); clear HO297; clear HO299; clear HO303; clear HO305; clear BK291; clear BK292; clear BK309; clear BK313; clear BK317; clear HB; have HO297 := n0_; have HO299 := n1_; have HO303 := n2_; have HO305 := n3_; have BK291 := n4_; have BK292 := n5_; have BK309 := n6_; have BK313 := n7_; have BK317 := n8_; have HB := n9_; have BK321 := n10_; have GW321 := n11_; have GE321 := n12_; have NB291_321 := n13_; have NB321_291 := n14_; have NB292_321 := n15_; have NB321_292 := n16_; have NB309_321 := n17_; have NB321_309 := n18_; have NB313_321 := n19_; have NB321_313 := n20_; have NB317_321 := n21_; have NB321_317 := n22_; clear n0_ n1_ n2_ n3_ n4_ n5_ n6_ n7_ n8_ n9_ n10_ n11_ n12_ n13_ n14_ n15_ n16_ n17_ n18_ n19_ n20_ n21_ n22_; clear hb hbox hg; have hnb61 := NB321_291.out; have hnc61 := NB291_321.out; have hnb62 := NB321_292.out; have hnc62 := NB292_321.out; have hnb63 := NB321_309.out; have hnc63 := NB309_321.out; have hnb64 := NB321_313.out; have hnc64 := NB313_321.out; have hnb65 := NB321_317.out; have hnc65 := NB317_321.out; have hcz66_0 : w60.cell? ⟨gb321, 0, none⟩ = some (.int .i64 0) := (blk_cell BK321.out 0).trans rfl; have hcz66_1 : w60.cell? ⟨gb321, 1, none⟩ = some (.int .i64 0) := (blk_cell BK321.out 1).trans rfl; have hfz66_0 := blk_frozen BK321.out 0; have hfz66_1 := blk_frozen BK321.out 1))
  have n0_ : Aside0 (Kd.R (Kd.int .i64) 3 ((w60.setCell ⟨gb321, 0, none⟩ (.int .i64 t318)).setCell ⟨gb321, 1, none⟩ (.int .i64 t319)) w.heap.size (fun k_ => some k_ ≠ (v298 : Value).ownBlock ∧ some k_ ≠ (v302 : Value).ownBlock ∧ some k_ ≠ (v304 : Value).ownBlock) v296 t294) := ⟨by (with_reducible repeat (first | apply Kd.R_alloc | apply Kd.R_drewN | apply Kd.R_drew)); exact Kd.R_mono (Kd.R_far (p := ⟨gb321, 1, none⟩) (Kd.R_far (p := ⟨gb321, 0, none⟩) (Kd.R_types HO297.out BK321.out (by decide)) (fun _ hk => hk.2) (.int .i64 t318)) (fun _ hk => hk.2) (.int .i64 t319)) (fun _ hk => ⟨hk.1.1.1, ⟨hk.1.1.2, hk.1.2⟩⟩)⟩
  have n1_ : Aside0 (Kd.R (Kd.int .i64) 3 ((w60.setCell ⟨gb321, 0, none⟩ (.int .i64 t318)).setCell ⟨gb321, 1, none⟩ (.int .i64 t319)) w.heap.size (fun k_ => some k_ ≠ (v296 : Value).ownBlock ∧ some k_ ≠ (v302 : Value).ownBlock ∧ some k_ ≠ (v304 : Value).ownBlock) v298 t295) := ⟨by (with_reducible repeat (first | apply Kd.R_alloc | apply Kd.R_drewN | apply Kd.R_drew)); exact Kd.R_mono (Kd.R_far (p := ⟨gb321, 1, none⟩) (Kd.R_far (p := ⟨gb321, 0, none⟩) (Kd.R_types HO299.out BK321.out (by decide)) (fun _ hk => hk.2) (.int .i64 t318)) (fun _ hk => hk.2) (.int .i64 t319)) (fun _ hk => ⟨hk.1.1.1, ⟨hk.1.1.2, hk.1.2⟩⟩)⟩
  have n2_ : Aside0 (Kd.R (Kd.int .i64) 3 ((w60.setCell ⟨gb321, 0, none⟩ (.int .i64 t318)).setCell ⟨gb321, 1, none⟩ (.int .i64 t319)) w.heap.size (fun k_ => some k_ ≠ (v296 : Value).ownBlock ∧ some k_ ≠ (v298 : Value).ownBlock ∧ some k_ ≠ (v304 : Value).ownBlock) v302 t300) := ⟨by (with_reducible repeat (first | apply Kd.R_alloc | apply Kd.R_drewN | apply Kd.R_drew)); exact Kd.R_mono (Kd.R_far (p := ⟨gb321, 1, none⟩) (Kd.R_far (p := ⟨gb321, 0, none⟩) (Kd.R_types HO303.out BK321.out (by decide)) (fun _ hk => hk.2) (.int .i64 t318)) (fun _ hk => hk.2) (.int .i64 t319)) (fun _ hk => ⟨hk.1.1.2, ⟨hk.1.2, hk.1.1.1⟩⟩)⟩
  have n3_ : Aside0 (Kd.R (Kd.int .i64) 3 ((w60.setCell ⟨gb321, 0, none⟩ (.int .i64 t318)).setCell ⟨gb321, 1, none⟩ (.int .i64 t319)) w.heap.size (fun k_ => some k_ ≠ (v296 : Value).ownBlock ∧ some k_ ≠ (v298 : Value).ownBlock ∧ some k_ ≠ (v302 : Value).ownBlock) v304 t301) := ⟨by (with_reducible repeat (first | apply Kd.R_alloc | apply Kd.R_drewN | apply Kd.R_drew)); exact Kd.R_mono (Kd.R_far (p := ⟨gb321, 1, none⟩) (Kd.R_far (p := ⟨gb321, 0, none⟩) (Kd.R_types HO305.out BK321.out (by decide)) (fun _ hk => hk.2) (.int .i64 t318)) (fun _ hk => hk.2) (.int .i64 t319)) (fun _ hk => ⟨hk.1.1.2, ⟨hk.1.2, hk.1.1.1⟩⟩)⟩
  have n4_ : Aside0 (((w60.setCell ⟨gb321, 0, none⟩ (.int .i64 t318)).setCell ⟨gb321, 1, none⟩ (.int .i64 t319)).heap[gb291]? = some (.cells #[.int .i64 a1_0, .int .i64 a1_1] 24 (0, 0))) := ⟨by (with_reducible repeat (first | refine blk_drewN ?_ _ | refine blk_drew ?_ | refine blk_alloc ?_ _)); refine blk_far ?_ NB291_321.out _; (with_reducible repeat (first | refine blk_drewN ?_ _ | refine blk_drew ?_ | refine blk_alloc ?_ _)); refine blk_far ?_ NB291_321.out _; (with_reducible repeat (first | refine blk_drewN ?_ _ | refine blk_drew ?_ | refine blk_alloc ?_ _)); exact BK291.out⟩
  have n5_ : Aside0 (((w60.setCell ⟨gb321, 0, none⟩ (.int .i64 t318)).setCell ⟨gb321, 1, none⟩ (.int .i64 t319)).heap[gb292]? = some (.cells #[.int .i64 a2_0, .int .i64 a2_1, .int .i64 a2_2] 25 (0, 0))) := ⟨by (with_reducible repeat (first | refine blk_drewN ?_ _ | refine blk_drew ?_ | refine blk_alloc ?_ _)); refine blk_far ?_ NB292_321.out _; (with_reducible repeat (first | refine blk_drewN ?_ _ | refine blk_drew ?_ | refine blk_alloc ?_ _)); refine blk_far ?_ NB292_321.out _; (with_reducible repeat (first | refine blk_drewN ?_ _ | refine blk_drew ?_ | refine blk_alloc ?_ _)); exact BK292.out⟩
  have n6_ : Aside0 (((w60.setCell ⟨gb321, 0, none⟩ (.int .i64 t318)).setCell ⟨gb321, 1, none⟩ (.int .i64 t319)).heap[gb309]? = some (.cells #[.int .i64 t306, .int .i64 t307] 24 (0, 0))) := ⟨by (with_reducible repeat (first | refine blk_drewN ?_ _ | refine blk_drew ?_ | refine blk_alloc ?_ _)); refine blk_far ?_ NB309_321.out _; (with_reducible repeat (first | refine blk_drewN ?_ _ | refine blk_drew ?_ | refine blk_alloc ?_ _)); refine blk_far ?_ NB309_321.out _; (with_reducible repeat (first | refine blk_drewN ?_ _ | refine blk_drew ?_ | refine blk_alloc ?_ _)); exact BK309.out⟩
  have n7_ : Aside0 (((w60.setCell ⟨gb321, 0, none⟩ (.int .i64 t318)).setCell ⟨gb321, 1, none⟩ (.int .i64 t319)).heap[gb313]? = some (.cells #[.int .i64 t310, .int .i64 t311] 24 (0, 0))) := ⟨by (with_reducible repeat (first | refine blk_drewN ?_ _ | refine blk_drew ?_ | refine blk_alloc ?_ _)); refine blk_far ?_ NB313_321.out _; (with_reducible repeat (first | refine blk_drewN ?_ _ | refine blk_drew ?_ | refine blk_alloc ?_ _)); refine blk_far ?_ NB313_321.out _; (with_reducible repeat (first | refine blk_drewN ?_ _ | refine blk_drew ?_ | refine blk_alloc ?_ _)); exact BK313.out⟩
  have n8_ : Aside0 (((w60.setCell ⟨gb321, 0, none⟩ (.int .i64 t318)).setCell ⟨gb321, 1, none⟩ (.int .i64 t319)).heap[gb317]? = some (.cells #[.int .i64 t314, .int .i64 t315] 24 (0, 0))) := ⟨by (with_reducible repeat (first | refine blk_drewN ?_ _ | refine blk_drew ?_ | refine blk_alloc ?_ _)); refine blk_far ?_ NB317_321.out _; (with_reducible repeat (first | refine blk_drewN ?_ _ | refine blk_drew ?_ | refine blk_alloc ?_ _)); refine blk_far ?_ NB317_321.out _; (with_reducible repeat (first | refine blk_drewN ?_ _ | refine blk_drew ?_ | refine blk_alloc ?_ _)); exact BK317.out⟩
  have n9_ : Aside0 (((w60.setCell ⟨gb321, 0, none⟩ (.int .i64 t318)).setCell ⟨gb321, 1, none⟩ (.int .i64 t319)).heap[gb321]? = some (.cells #[.int .i64 t318, .int .i64 t319] 24 (0, 0))) := ⟨by (with_reducible repeat (first | refine blk_drewN ?_ _ | refine blk_drew ?_ | refine blk_alloc ?_ _)); refine blk_put (cs := #[.int .i64 t318, .int .i64 0]) ?_ 1 _ rfl; (with_reducible repeat (first | refine blk_drewN ?_ _ | refine blk_drew ?_ | refine blk_alloc ?_ _)); refine blk_put (cs := #[.int .i64 0, .int .i64 0]) ?_ 0 _ rfl; (with_reducible repeat (first | refine blk_drewN ?_ _ | refine blk_drew ?_ | refine blk_alloc ?_ _)); exact BK321.out⟩
  have n10_ : Aside0 (Below w.heap.size w ((w60.setCell ⟨gb321, 0, none⟩ (.int .i64 t318)).setCell ⟨gb321, 1, none⟩ (.int .i64 t319))) := ⟨by repeat (first | (with_reducible first | exact HB.out | apply below_alloc | apply pw_below_drewN | apply below_drew1 | refine below_set ?_ GE291.out | refine below_set ?_ GE292.out | refine below_set ?_ GE309.out | refine below_set ?_ GE313.out | refine below_set ?_ GE317.out | refine below_set ?_ GE321.out) | exact HB.out)⟩
  (try clear HO297)
  (try clear HO299)
  (try clear HO303)
  (try clear HO305)
  (try clear BK291)
  (try clear BK292)
  (try clear BK309)
  (try clear BK313)
  (try clear BK317)
  (try clear BK321)
  (try clear HB)
  generalize ((w60.setCell ⟨gb321, 0, none⟩ (.int .i64 t318)).setCell ⟨gb321, 1, none⟩ (.int .i64 t319)) = w67 at n0_ n1_ n2_ n3_ n4_ n5_ n6_ n7_ n8_ n9_ n10_ ⊢
  have HO297 := n0_
  have HO299 := n1_
  have HO303 := n2_
  have HO305 := n3_
  have BK291 := n4_
  have BK292 := n5_
  have BK309 := n6_
  have BK313 := n7_
  have BK317 := n8_
  have BK321 := n9_
  have HB := n10_
  clear n0_ n1_ n2_ n3_ n4_ n5_ n6_ n7_ n8_ n9_ n10_
  have n0_ := Aside0.mk (Kd.R_drew HO297.out)
  have n1_ := Aside0.mk (Kd.R_drew HO299.out)
  have n2_ := Aside0.mk (Kd.R_drew HO303.out)
  have n3_ := Aside0.mk (Kd.R_drew HO305.out)
  have n4_ := Aside0.mk (blk_drew BK291.out)
  have n5_ := Aside0.mk (blk_drew BK292.out)
  have n6_ := Aside0.mk (blk_drew BK309.out)
  have n7_ := Aside0.mk (blk_drew BK313.out)
  have n8_ := Aside0.mk (blk_drew BK317.out)
  have n9_ := Aside0.mk (blk_drew BK321.out)
  have n10_ := Aside0.mk (below_drew1 HB.out)
  clear HO297
  clear HO299
  clear HO303
  clear HO305
  clear BK291
  clear BK292
  clear BK309
  clear BK313
  clear BK317
  clear BK321
  clear HB
  have HO297 := n0_
  have HO299 := n1_
  have HO303 := n2_
  have HO305 := n3_
  have BK291 := n4_
  have BK292 := n5_
  have BK309 := n6_
  have BK313 := n7_
  have BK317 := n8_
  have BK321 := n9_
  have HB := n10_
  clear n0_ n1_ n2_ n3_ n4_ n5_ n6_ n7_ n8_ n9_ n10_
  obtain ⟨Ao69, co69, eo69⟩ := Kd.R_slice HO297.out
  (first | subst eo69 | (injection eo69 with f1_ f2_ f3_; have f4_ := f1_.symm; have f5_ := f3_.symm; clear f1_ f2_ f3_; subst f4_; subst f5_))
  obtain ⟨Ao70, co70, eo70⟩ := Kd.R_slice HO303.out
  (first | subst eo70 | (injection eo70 with f1_ f2_ f3_; have f4_ := f1_.symm; have f5_ := f3_.symm; clear f1_ f2_ f3_; subst f4_; subst f5_))
  refine start_ (n := 49) (S := fun w' => w'.cell? ⟨gb309, 0, none⟩ = some (.int .i64 t306) ∧ w'.cell? ⟨gb309, 1, none⟩ = some (.int .i64 t307) ∧ w'.cell? ⟨gb313, 0, none⟩ = some (.int .i64 t310) ∧ w'.cell? ⟨gb313, 1, none⟩ = some (.int .i64 t311) ∧ w'.cell? ⟨gb317, 0, none⟩ = some (.int .i64 t314) ∧ w'.cell? ⟨gb317, 1, none⟩ = some (.int .i64 t315) ∧ w'.cell? ⟨gb321, 0, none⟩ = some (.int .i64 t318) ∧ w'.cell? ⟨gb321, 1, none⟩ = some (.int .i64 t319) ∧ w'.cell? ⟨gb292, 0, none⟩ = some (.int .i64 a2_0) ∧ w'.cell? ⟨gb292, 1, none⟩ = some (.int .i64 a2_1) ∧ w'.cell? ⟨gb292, 2, none⟩ = some (.int .i64 a2_2)) (ds := []) #[false, false, false, false, false, false, false, false, false, false, false, false, false, false, false, false, false, false, false, false, false, false, false, false, false, false, false, false, false, false, false, false, false, false, false, false, false, false, false, false, false, false, false, false, false, false, false, false, false] (by kernel_rfl) rfl rfl ⟨(blk_cell BK309.out 0).trans rfl, (blk_cell BK309.out 1).trans rfl, (blk_cell BK313.out 0).trans rfl, (blk_cell BK313.out 1).trans rfl, (blk_cell BK317.out 0).trans rfl, (blk_cell BK317.out 1).trans rfl, (blk_cell BK321.out 0).trans rfl, (blk_cell BK321.out 1).trans rfl, (blk_cell BK292.out 0).trans rfl, (blk_cell BK292.out 1).trans rfl, (blk_cell BK292.out 2).trans rfl⟩ (fun hHeld => ?_); refine with_tabW ductuslaw23_NormAnswers.tab11 ductuslaw23_NormAnswers.bits11 (fun HT_ HW_ => ?_)
  generalize w67.drew = w68 at HO297 HO299 HO303 HO305 BK291 BK292 BK309 BK313 BK317 BK321 HB hHeld ⊢
  refine pure_ (i := 0) (N := some 62) (v := ?_) (a' := ?_) #[true, false, false, false, false, false, false, false, false, false, false, false, false, false, false, false, false, false, false, false, false, false, false, false, false, false, false, false, false, false, false, false, false, false, false, false, false, false, false, false, false, false, false, false, false, false, false, false, false] rfl rfl (any_of HT_.out (by kernel_rfl)) (fun _ _ _ h => h) (Or.inl ⟨by rfl, ?_⟩) ?_ ?_
  rotate_left
  · intro w'
    go_simp
    with_reducible rfl
  rotate_left
  · simp only [Act.put, List.setIfInBounds_toArray, List.set_cons_zero, List.set_cons_succ, i64_w, i32_w]
    rfl
  refine pure_ (i := 1) (N := some 63) (v := ?_) (a' := ?_) #[true, true, false, false, false, false, false, false, false, false, false, false, false, false, false, false, false, false, false, false, false, false, false, false, false, false, false, false, false, false, false, false, false, false, false, false, false, false, false, false, false, false, false, false, false, false, false, false, false] rfl rfl (any_of HT_.out (by kernel_rfl)) (fun _ _ _ h => h) (Or.inl ⟨by rfl, ?_⟩) ?_ ?_
  rotate_left
  · intro w'
    go_simp
    with_reducible rfl
  rotate_left
  · simp only [Act.put, List.setIfInBounds_toArray, List.set_cons_zero, List.set_cons_succ, i64_w, i32_w]
    rfl
  refine one_ (i := 2) (N := some 64) #[true, true, true, false, false, false, false, false, false, false, false, false, false, false, false, false, false, false, false, false, false, false, false, false, false, false, false, false, false, false, false, false, false, false, false, false, false, false, false, false, false, false, false, false, false, false, false, false, false] rfl rfl (one_of HT_.out (by kernel_rfl)) (by decide) (fun K hK => ?_)
  refine goes_ Try.func15 (by kernel_rfl) rfl #[.slice Ao69 t294.length co69, .slice Ao70 t300.length co70] (by rfl) rfl rfl (by (try simp only [List.map_toArray, List.map_cons, List.map_nil]); first | done | rfl | (simp only [List.length_drop, List.length_take]; rfl)) ?_
  with_reducible refine (ductusref01_Ints.calls k _ _ t294 _ _ t300 true _ ?side1 ?side2 ?side3 ?side4 A16.out).mono ?_
  (case side1 => repeat (first | exact (Kd.R_reads' HO297.out).2.2 | (with_reducible refine Kd.C_alloc ?_ _) | (with_reducible refine Kd.C_drewN ?_ _) | (with_reducible refine Kd.C_drew ?_)))
  (case side2 => exact (Kd.R_reads' HO297.out).2.1)
  (case side3 => repeat (first | exact (Kd.R_reads' HO303.out).2.2 | (with_reducible refine Kd.C_alloc ?_ _) | (with_reducible refine Kd.C_drewN ?_ _) | (with_reducible refine Kd.C_drew ?_)))
  (case side4 => exact (Kd.R_reads' HO303.out).2.1)
  rintro e w' ⟨rfl, ⟨nd, rfl⟩⟩
  refine ⟨_, rfl, ?_⟩
  obtain ⟨Ao71, co71, eo71⟩ := Kd.R_slice HO299.out
  (first | subst eo71 | (injection eo71 with f1_ f2_ f3_; have f4_ := f1_.symm; have f5_ := f3_.symm; clear f1_ f2_ f3_; subst f4_; subst f5_))
  obtain ⟨Ao72, co72, eo72⟩ := Kd.R_slice HO305.out
  (first | subst eo72 | (injection eo72 with f1_ f2_ f3_; have f4_ := f1_.symm; have f5_ := f3_.symm; clear f1_ f2_ f3_; subst f4_; subst f5_))
  refine hK.out _ _ ⟨(blk_cell BK309.out 0).trans rfl, (blk_cell BK309.out 1).trans rfl, (blk_cell BK313.out 0).trans rfl, (blk_cell BK313.out 1).trans rfl, (blk_cell BK317.out 0).trans rfl, (blk_cell BK317.out 1).trans rfl, (blk_cell BK321.out 0).trans rfl, (blk_cell BK321.out 1).trans rfl, (blk_cell BK292.out 0).trans rfl, (blk_cell BK292.out 1).trans rfl, (blk_cell BK292.out 2).trans rfl⟩ (fun hHeld => ?_)
  clear hK K
  refine norm_ (a' := ?_) ?_ ?_
  rotate_left
  · show Act.put _ (some 64) _ = _
    simp only [Act.put, List.setIfInBounds_toArray, List.set_cons_zero, List.set_cons_succ, i64_w, i32_w]
    rfl
  refine pure_ (i := 3) (N := some 65) (v := ?_) (a' := ?_) #[true, true, true, true, false, false, false, false, false, false, false, false, false, false, false, false, false, false, false, false, false, false, false, false, false, false, false, false, false, false, false, false, false, false, false, false, false, false, false, false, false, false, false, false, false, false, false, false, false] rfl rfl (any_of HT_.out (by kernel_rfl)) (fun _ _ _ h => h) (Or.inl ⟨by rfl, ?_⟩) ?_ ?_
  rotate_left
  · intro w'
    go_simp
    with_reducible rfl
  rotate_left
  · simp only [Act.put, List.setIfInBounds_toArray, List.set_cons_zero, List.set_cons_succ, i64_w, i32_w]
    rfl
  refine pure_ (i := 4) (N := some 66) (v := ?_) (a' := ?_) #[true, true, true, true, true, false, false, false, false, false, false, false, false, false, false, false, false, false, false, false, false, false, false, false, false, false, false, false, false, false, false, false, false, false, false, false, false, false, false, false, false, false, false, false, false, false, false, false, false] rfl rfl (any_of HT_.out (by kernel_rfl)) (fun _ _ _ h => h) (Or.inl ⟨by rfl, ?_⟩) ?_ ?_
  rotate_left
  · intro w'
    go_simp
    with_reducible rfl
  rotate_left
  · simp only [Act.put, List.setIfInBounds_toArray, List.set_cons_zero, List.set_cons_succ, i64_w, i32_w]
    rfl
  refine pure_ (i := 5) (N := some 67) (v := ?_) (a' := ?_) #[true, true, true, true, true, true, false, false, false, false, false, false, false, false, false, false, false, false, false, false, false, false, false, false, false, false, false, false, false, false, false, false, false, false, false, false, false, false, false, false, false, false, false, false, false, false, false, false, false] rfl rfl (any_of HT_.out (by kernel_rfl)) (fun _ _ _ h => h) (Or.inl ⟨by rfl, ?_⟩) ?_ ?_
  rotate_left
  · intro w'
    go_simp
    with_reducible rfl
  rotate_left
  · simp only [Act.put, List.setIfInBounds_toArray, List.set_cons_zero, List.set_cons_succ, i64_w, i32_w]
    rfl
  refine one_ (i := 6) (N := some 68) #[true, true, true, true, true, true, true, false, false, false, false, false, false, false, false, false, false, false, false, false, false, false, false, false, false, false, false, false, false, false, false, false, false, false, false, false, false, false, false, false, false, false, false, false, false, false, false, false, false] rfl rfl (one_of HT_.out (by kernel_rfl)) (by decide) (fun K hK => ?_)
  refine goes_ Try.func15 (by kernel_rfl) rfl #[.slice Ao71 t295.length co71, .slice Ao72 t301.length co72] (by rfl) rfl rfl (by (try simp only [List.map_toArray, List.map_cons, List.map_nil]); first | done | rfl | (simp only [List.length_drop, List.length_take]; rfl)) ?_
  with_reducible refine (ductusref01_Ints.calls k _ _ t295 _ _ t301 true _ ?side1 ?side2 ?side3 ?side4 A18.out).mono ?_
  (case side1 => repeat (first | exact (Kd.R_reads' HO299.out).2.2 | (with_reducible refine Kd.C_alloc ?_ _) | (with_reducible refine Kd.C_drewN ?_ _) | (with_reducible refine Kd.C_drew ?_)))
  (case side2 => exact (Kd.R_reads' HO299.out).2.1)
  (case side3 => repeat (first | exact (Kd.R_reads' HO305.out).2.2 | (with_reducible refine Kd.C_alloc ?_ _) | (with_reducible refine Kd.C_drewN ?_ _) | (with_reducible refine Kd.C_drew ?_)))
  (case side4 => exact (Kd.R_reads' HO305.out).2.1)
  rintro e w' ⟨rfl, ⟨nd, rfl⟩⟩
  refine ⟨_, rfl, ?_⟩
  refine hK.out _ _ ⟨(blk_cell BK309.out 0).trans rfl, (blk_cell BK309.out 1).trans rfl, (blk_cell BK313.out 0).trans rfl, (blk_cell BK313.out 1).trans rfl, (blk_cell BK317.out 0).trans rfl, (blk_cell BK317.out 1).trans rfl, (blk_cell BK321.out 0).trans rfl, (blk_cell BK321.out 1).trans rfl, (blk_cell BK292.out 0).trans rfl, (blk_cell BK292.out 1).trans rfl, (blk_cell BK292.out 2).trans rfl⟩ (fun hHeld => ?_)
  clear hK K
  refine norm_ (a' := ?_) ?_ ?_
  rotate_left
  · show Act.put _ (some 68) _ = _
    simp only [Act.put, List.setIfInBounds_toArray, List.set_cons_zero, List.set_cons_succ, i64_w, i32_w]
    rfl
  refine pure_ (i := 7) (N := some 69) (v := ?_) (a' := ?_) #[true, true, true, true, true, true, true, true, false, false, false, false, false, false, false, false, false, false, false, false, false, false, false, false, false, false, false, false, false, false, false, false, false, false, false, false, false, false, false, false, false, false, false, false, false, false, false, false, false] rfl rfl (any_of HT_.out (by kernel_rfl)) (fun _ _ _ h => h) (Or.inl ⟨by rfl, ?_⟩) ?_ ?_
  rotate_left
  · intro w'
    go_simp
    with_reducible rfl
  rotate_left
  · simp only [Act.put, List.setIfInBounds_toArray, List.set_cons_zero, List.set_cons_succ, i64_w, i32_w]
    rfl
  refine pure_ (i := 8) (N := some 70) (v := ?_) (a' := ?_) #[true, true, true, true, true, true, true, true, true, false, false, false, false, false, false, false, false, false, false, false, false, false, false, false, false, false, false, false, false, false, false, false, false, false, false, false, false, false, false, false, false, false, false, false, false, false, false, false, false] rfl rfl (any_of HT_.out (by kernel_rfl)) (fun _ _ _ h => h) (Or.inl ⟨by rfl, ?_⟩) ?_ ?_
  rotate_left
  · intro w'
    go_simp
    with_reducible rfl
  rotate_left
  · simp only [Act.put, List.setIfInBounds_toArray, List.set_cons_zero, List.set_cons_succ, i64_w, i32_w]
    rfl
  refine take_ (i := 9) (N := some 71) (v := ?_) (a' := ?_) #[true, true, true, true, true, true, true, true, true, true, false, false, false, false, false, false, false, false, false, false, false, false, false, false, false, false, false, false, false, false, false, false, false, false, false, false, false, false, false, false, false, false, false, false, false, false, false, false, false] rfl rfl (take_ofW HT_.out HW_.out (by kernel_rfl)) (fun _ _ _ h => h) (Or.inl ⟨by rfl, ?_⟩) hHeld ?_ ?_
  rotate_left
  · rintro w' ⟨s0, s1, s2, s3, s4, s5, s6, s7, s8, s9, s10⟩
    go_simp
    with_reducible rfl
  rotate_left
  · simp only [Act.put, List.setIfInBounds_toArray, List.set_cons_zero, List.set_cons_succ, i64_w, i32_w]
    rfl
  refine take_ (i := 10) (N := some 72) (v := ?_) (a' := ?_) #[true, true, true, true, true, true, true, true, true, true, true, false, false, false, false, false, false, false, false, false, false, false, false, false, false, false, false, false, false, false, false, false, false, false, false, false, false, false, false, false, false, false, false, false, false, false, false, false, false] rfl rfl (take_ofW HT_.out HW_.out (by kernel_rfl)) (fun _ _ _ h => h) (Or.inl ⟨by rfl, ?_⟩) hHeld ?_ ?_
  rotate_left
  · rintro w' ⟨s0, s1, s2, s3, s4, s5, s6, s7, s8, s9, s10⟩
    go_simp
    with_reducible rfl
  rotate_left
  · simp only [Act.put, List.setIfInBounds_toArray, List.set_cons_zero, List.set_cons_succ, i64_w, i32_w]
    rfl
  refine pure_ (i := 11) (N := some 73) (v := ?_) (a' := ?_) #[true, true, true, true, true, true, true, true, true, true, true, true, false, false, false, false, false, false, false, false, false, false, false, false, false, false, false, false, false, false, false, false, false, false, false, false, false, false, false, false, false, false, false, false, false, false, false, false, false] rfl rfl (any_of HT_.out (by kernel_rfl)) (fun _ _ _ h => h) (Or.inl ⟨by rfl, ?_⟩) ?_ ?_
  rotate_left
  · intro w'
    go_simp
    with_reducible rfl
  rotate_left
  · simp only [Act.put, List.setIfInBounds_toArray, List.set_cons_zero, List.set_cons_succ, i64_w, i32_w]
    rfl
  refine pure_ (i := 12) (N := some 74) (v := ?_) (a' := ?_) #[true, true, true, true, true, true, true, true, true, true, true, true, true, false, false, false, false, false, false, false, false, false, false, false, false, false, false, false, false, false, false, false, false, false, false, false, false, false, false, false, false, false, false, false, false, false, false, false, false] rfl rfl (any_of HT_.out (by kernel_rfl)) (fun _ _ _ h => h) (Or.inl ⟨by rfl, ?_⟩) ?_ ?_
  rotate_left
  · intro w'
    go_simp
    with_reducible rfl
  rotate_left
  · simp only [Act.put, List.setIfInBounds_toArray, List.set_cons_zero, List.set_cons_succ, i64_w, i32_w]
    rfl
  refine pure_ (i := 13) (N := some 75) (v := ?_) (a' := ?_) #[true, true, true, true, true, true, true, true, true, true, true, true, true, true, false, false, false, false, false, false, false, false, false, false, false, false, false, false, false, false, false, false, false, false, false, false, false, false, false, false, false, false, false, false, false, false, false, false, false] rfl rfl (any_of HT_.out (by kernel_rfl)) (fun _ _ _ h => h) (Or.inl ⟨by rfl, ?_⟩) ?_ ?_
  rotate_left
  · intro w'
    go_simp
    with_reducible rfl
  rotate_left
  · simp only [Act.put, List.setIfInBounds_toArray, List.set_cons_zero, List.set_cons_succ, i64_w, i32_w]
    rfl
  refine pure_ (i := 14) (N := some 76) (v := ?_) (a' := ?_) #[true, true, true, true, true, true, true, true, true, true, true, true, true, true, true, false, false, false, false, false, false, false, false, false, false, false, false, false, false, false, false, false, false, false, false, false, false, false, false, false, false, false, false, false, false, false, false, false, false] rfl rfl (any_of HT_.out (by kernel_rfl)) (fun _ _ _ h => h) (Or.inl ⟨by rfl, ?_⟩) ?_ ?_
  rotate_left
  · intro w'
    go_simp
    with_reducible rfl
  rotate_left
  · simp only [Act.put, List.setIfInBounds_toArray, List.set_cons_zero, List.set_cons_succ, i64_w, i32_w]
    rfl
  refine pure_ (i := 15) (N := some 77) (v := ?_) (a' := ?_) #[true, true, true, true, true, true, true, true, true, true, true, true, true, true, true, true, false, false, false, false, false, false, false, false, false, false, false, false, false, false, false, false, false, false, false, false, false, false, false, false, false, false, false, false, false, false, false, false, false] rfl rfl (any_of HT_.out (by kernel_rfl)) (fun _ _ _ h => h) (Or.inl ⟨by rfl, ?_⟩) ?_ ?_
  rotate_left
  · intro w'
    go_simp
    with_reducible rfl
  rotate_left
  · simp only [Act.put, List.setIfInBounds_toArray, List.set_cons_zero, List.set_cons_succ, i64_w, i32_w]
    rfl
  refine pure_ (i := 16) (N := some 78) (v := ?_) (a' := ?_) #[true, true, true, true, true, true, true, true, true, true, true, true, true, true, true, true, true, false, false, false, false, false, false, false, false, false, false, false, false, false, false, false, false, false, false, false, false, false, false, false, false, false, false, false, false, false, false, false, false] rfl rfl (any_of HT_.out (by kernel_rfl)) (fun _ _ _ h => h) (Or.inl ⟨by rfl, ?_⟩) ?_ ?_
  rotate_left
  · intro w'
    go_simp
    with_reducible rfl
  rotate_left
  · simp only [Act.put, List.setIfInBounds_toArray, List.set_cons_zero, List.set_cons_succ, i64_w, i32_w]
    rfl
  refine pure_ (i := 17) (N := some 79) (v := ?_) (a' := ?_) #[true, true, true, true, true, true, true, true, true, true, true, true, true, true, true, true, true, true, false, false, false, false, false, false, false, false, false, false, false, false, false, false, false, false, false, false, false, false, false, false, false, false, false, false, false, false, false, false, false] rfl rfl (any_of HT_.out (by kernel_rfl)) (fun _ _ _ h => h) (Or.inl ⟨by rfl, ?_⟩) ?_ ?_
  rotate_left
  · intro w'
    go_simp
    with_reducible rfl
  rotate_left
  · simp only [Act.put, List.setIfInBounds_toArray, List.set_cons_zero, List.set_cons_succ, i64_w, i32_w]
    rfl
  refine pure_ (i := 18) (N := some 80) (v := ?_) (a' := ?_) #[true, true, true, true, true, true, true, true, true, true, true, true, true, true, true, true, true, true, true, false, false, false, false, false, false, false, false, false, false, false, false, false, false, false, false, false, false, false, false, false, false, false, false, false, false, false, false, false, false] rfl rfl (any_of HT_.out (by kernel_rfl)) (fun _ _ _ h => h) (Or.inl ⟨by rfl, ?_⟩) ?_ ?_
  rotate_left
  · intro w'
    go_simp
    with_reducible rfl
  rotate_left
  · simp only [Act.put, List.setIfInBounds_toArray, List.set_cons_zero, List.set_cons_succ, i64_w, i32_w]
    rfl
  refine take_ (i := 19) (N := some 81) (v := ?_) (a' := ?_) #[true, true, true, true, true, true, true, true, true, true, true, true, true, true, true, true, true, true, true, true, false, false, false, false, false, false, false, false, false, false, false, false, false, false, false, false, false, false, false, false, false, false, false, false, false, false, false, false, false] rfl rfl (take_ofW HT_.out HW_.out (by kernel_rfl)) (fun _ _ _ h => h) (Or.inl ⟨by rfl, ?_⟩) hHeld ?_ ?_
  rotate_left
  · rintro w' ⟨s0, s1, s2, s3, s4, s5, s6, s7, s8, s9, s10⟩
    go_simp
    with_reducible rfl
  rotate_left
  · simp only [Act.put, List.setIfInBounds_toArray, List.set_cons_zero, List.set_cons_succ, i64_w, i32_w]
    rfl
  refine take_ (i := 20) (N := some 82) (v := ?_) (a' := ?_) #[true, true, true, true, true, true, true, true, true, true, true, true, true, true, true, true, true, true, true, true, true, false, false, false, false, false, false, false, false, false, false, false, false, false, false, false, false, false, false, false, false, false, false, false, false, false, false, false, false] rfl rfl (take_ofW HT_.out HW_.out (by kernel_rfl)) (fun _ _ _ h => h) (Or.inl ⟨by rfl, ?_⟩) hHeld ?_ ?_
  rotate_left
  · rintro w' ⟨s0, s1, s2, s3, s4, s5, s6, s7, s8, s9, s10⟩
    go_simp
    with_reducible rfl
  rotate_left
  · simp only [Act.put, List.setIfInBounds_toArray, List.set_cons_zero, List.set_cons_succ, i64_w, i32_w]
    rfl
  refine pure_ (i := 21) (N := some 83) (v := ?_) (a' := ?_) #[true, true, true, true, true, true, true, true, true, true, true, true, true, true, true, true, true, true, true, true, true, true, false, false, false, false, false, false, false, false, false, false, false, false, false, false, false, false, false, false, false, false, false, false, false, false, false, false, false] rfl rfl (any_of HT_.out (by kernel_rfl)) (fun _ _ _ h => h) (Or.inl ⟨by rfl, ?_⟩) ?_ ?_
  rotate_left
  · intro w'
    go_simp
    with_reducible rfl
  rotate_left
  · simp only [Act.put, List.setIfInBounds_toArray, List.set_cons_zero, List.set_cons_succ, i64_w, i32_w]
    rfl
  refine pure_ (i := 22) (N := some 84) (v := ?_) (a' := ?_) #[true, true, true, true, true, true, true, true, true, true, true, true, true, true, true, true, true, true, true, true, true, true, true, false, false, false, false, false, false, false, false, false, false, false, false, false, false, false, false, false, false, false, false, false, false, false, false, false, false] rfl rfl (any_of HT_.out (by kernel_rfl)) (fun _ _ _ h => h) (Or.inl ⟨by rfl, ?_⟩) ?_ ?_
  rotate_left
  · intro w'
    go_simp
    with_reducible rfl
  rotate_left
  · simp only [Act.put, List.setIfInBounds_toArray, List.set_cons_zero, List.set_cons_succ, i64_w, i32_w]
    rfl
  refine pure_ (i := 23) (N := some 85) (v := ?_) (a' := ?_) #[true, true, true, true, true, true, true, true, true, true, true, true, true, true, true, true, true, true, true, true, true, true, true, true, false, false, false, false, false, false, false, false, false, false, false, false, false, false, false, false, false, false, false, false, false, false, false, false, false] rfl rfl (any_of HT_.out (by kernel_rfl)) (fun _ _ _ h => h) (Or.inl ⟨by rfl, ?_⟩) ?_ ?_
  rotate_left
  · intro w'
    go_simp
    with_reducible rfl
  rotate_left
  · simp only [Act.put, List.setIfInBounds_toArray, List.set_cons_zero, List.set_cons_succ, i64_w, i32_w]
    rfl
  refine pure_ (i := 24) (N := some 86) (v := ?_) (a' := ?_) #[true, true, true, true, true, true, true, true, true, true, true, true, true, true, true, true, true, true, true, true, true, true, true, true, true, false, false, false, false, false, false, false, false, false, false, false, false, false, false, false, false, false, false, false, false, false, false, false, false] rfl rfl (any_of HT_.out (by kernel_rfl)) (fun _ _ _ h => h) (Or.inl ⟨by rfl, ?_⟩) ?_ ?_
  rotate_left
  · intro w'
    go_simp
    with_reducible rfl
  rotate_left
  · simp only [Act.put, List.setIfInBounds_toArray, List.set_cons_zero, List.set_cons_succ, i64_w, i32_w]
    rfl
  refine pure_ (i := 25) (N := some 87) (v := ?_) (a' := ?_) #[true, true, true, true, true, true, true, true, true, true, true, true, true, true, true, true, true, true, true, true, true, true, true, true, true, true, false, false, false, false, false, false, false, false, false, false, false, false, false, false, false, false, false, false, false, false, false, false, false] rfl rfl (any_of HT_.out (by kernel_rfl)) (fun _ _ _ h => h) (Or.inl ⟨by rfl, ?_⟩) ?_ ?_
  rotate_left
  · intro w'
    go_simp
    with_reducible rfl
  rotate_left
  · simp only [Act.put, List.setIfInBounds_toArray, List.set_cons_zero, List.set_cons_succ, i64_w, i32_w]
    rfl
  refine pure_ (i := 26) (N := some 88) (v := ?_) (a' := ?_) #[true, true, true, true, true, true, true, true, true, true, true, true, true, true, true, true, true, true, true, true, true, true, true, true, true, true, true, false, false, false, false, false, false, false, false, false, false, false, false, false, false, false, false, false, false, false, false, false, false] rfl rfl (any_of HT_.out (by kernel_rfl)) (fun _ _ _ h => h) (Or.inl ⟨by rfl, ?_⟩) ?_ ?_
  rotate_left
  · intro w'
    go_simp
    with_reducible rfl
  rotate_left
  · simp only [Act.put, List.setIfInBounds_toArray, List.set_cons_zero, List.set_cons_succ, i64_w, i32_w]
    rfl
  refine pure_ (i := 27) (N := some 89) (v := ?_) (a' := ?_) #[true, true, true, true, true, true, true, true, true, true, true, true, true, true, true, true, true, true, true, true, true, true, true, true, true, true, true, true, false, false, false, false, false, false, false, false, false, false, false, false, false, false, false, false, false, false, false, false, false] rfl rfl (any_of HT_.out (by kernel_rfl)) (fun _ _ _ h => h) (Or.inl ⟨by rfl, ?_⟩) ?_ ?_
  rotate_left
  · intro w'
    go_simp
    with_reducible rfl
  rotate_left
  · simp only [Act.put, List.setIfInBounds_toArray, List.set_cons_zero, List.set_cons_succ, i64_w, i32_w]
    rfl
  refine pure_ (i := 28) (N := some 90) (v := ?_) (a' := ?_) #[true, true, true, true, true, true, true, true, true, true, true, true, true, true, true, true, true, true, true, true, true, true, true, true, true, true, true, true, true, false, false, false, false, false, false, false, false, false, false, false, false, false, false, false, false, false, false, false, false] rfl rfl (any_of HT_.out (by kernel_rfl)) (fun _ _ _ h => h) (Or.inl ⟨by rfl, ?_⟩) ?_ ?_
  rotate_left
  · intro w'
    go_simp
    with_reducible rfl
  rotate_left
  · simp only [Act.put, List.setIfInBounds_toArray, List.set_cons_zero, List.set_cons_succ, i64_w, i32_w]
    rfl
  refine pure_ (i := 29) (N := some 91) (v := ?_) (a' := ?_) #[true, true, true, true, true, true, true, true, true, true, true, true, true, true, true, true, true, true, true, true, true, true, true, true, true, true, true, true, true, true, false, false, false, false, false, false, false, false, false, false, false, false, false, false, false, false, false, false, false] rfl rfl (any_of HT_.out (by kernel_rfl)) (fun _ _ _ h => h) (Or.inl ⟨by rfl, ?_⟩) ?_ ?_
  rotate_left
  · intro w'
    go_simp
    with_reducible rfl
  rotate_left
  · simp only [Act.put, List.setIfInBounds_toArray, List.set_cons_zero, List.set_cons_succ, i64_w, i32_w]
    rfl
  refine pure_ (i := 30) (N := some 92) (v := ?_) (a' := ?_) #[true, true, true, true, true, true, true, true, true, true, true, true, true, true, true, true, true, true, true, true, true, true, true, true, true, true, true, true, true, true, true, false, false, false, false, false, false, false, false, false, false, false, false, false, false, false, false, false, false] rfl rfl (any_of HT_.out (by kernel_rfl)) (fun _ _ _ h => h) (Or.inl ⟨by rfl, ?_⟩) ?_ ?_
  rotate_left
  · intro w'
    go_simp
    with_reducible rfl
  rotate_left
  · simp only [Act.put, List.setIfInBounds_toArray, List.set_cons_zero, List.set_cons_succ, i64_w, i32_w]
    rfl
  refine pure_ (i := 33) (N := some 95) (v := ?_) (a' := ?_) #[true, true, true, true, true, true, true, true, true, true, true, true, true, true, true, true, true, true, true, true, true, true, true, true, true, true, true, true, true, true, true, false, false, true, false, false, false, false, false, false, false, false, false, false, false, false, false, false, false] rfl rfl (any_of HT_.out (by kernel_rfl)) (fun _ _ _ h => h) (Or.inl ⟨by rfl, ?_⟩) ?_ ?_
  rotate_left
  · intro w'
    go_simp
    with_reducible rfl
  rotate_left
  · simp only [Act.put, List.setIfInBounds_toArray, List.set_cons_zero, List.set_cons_succ, i64_w, i32_w]
    rfl
  refine pure_ (i := 34) (N := some 96) (v := ?_) (a' := ?_) #[true, true, true, true, true, true, true, true, true, true, true, true, true, true, true, true, true, true, true, true, true, true, true, true, true, true, true, true, true, true, true, false, false, true, true, false, false, false, false, false, false, false, false, false, false, false, false, false, false] rfl rfl (any_of HT_.out (by kernel_rfl)) (fun _ _ _ h => h) (Or.inl ⟨by rfl, ?_⟩) ?_ ?_
  rotate_left
  · intro w'
    go_simp
    with_reducible rfl
  rotate_left
  · simp only [Act.put, List.setIfInBounds_toArray, List.set_cons_zero, List.set_cons_succ, i64_w, i32_w]
    rfl
  refine take_ (i := 31) (N := some 93) (v := ?_) (a' := ?_) #[true, true, true, true, true, true, true, true, true, true, true, true, true, true, true, true, true, true, true, true, true, true, true, true, true, true, true, true, true, true, true, true, false, true, true, false, false, false, false, false, false, false, false, false, false, false, false, false, false] rfl rfl (take_ofW HT_.out HW_.out (by kernel_rfl)) (fun _ _ _ h => h) (Or.inl ⟨by rfl, ?_⟩) hHeld ?_ ?_
  rotate_left
  · rintro w' ⟨s0, s1, s2, s3, s4, s5, s6, s7, s8, s9, s10⟩
    go_simp
    with_reducible rfl
  rotate_left
  · simp only [Act.put, List.setIfInBounds_toArray, List.set_cons_zero, List.set_cons_succ, i64_w, i32_w]
    rfl
  refine take_ (i := 35) (N := some 97) (v := ?_) (a' := ?_) #[true, true, true, true, true, true, true, true, true, true, true, true, true, true, true, true, true, true, true, true, true, true, true, true, true, true, true, true, true, true, true, true, false, true, true, true, false, false, false, false, false, false, false, false, false, false, false, false, false] rfl rfl (take_ofW HT_.out HW_.out (by kernel_rfl)) (fun _ _ _ h => h) (Or.inl ⟨by rfl, ?_⟩) hHeld ?_ ?_
  rotate_left
  · rintro w' ⟨s0, s1, s2, s3, s4, s5, s6, s7, s8, s9, s10⟩
    go_simp
    with_reducible rfl
  rotate_left
  · simp only [Act.put, List.setIfInBounds_toArray, List.set_cons_zero, List.set_cons_succ, i64_w, i32_w]
    rfl
  refine one_ (i := 32) (N := some 94) #[true, true, true, true, true, true, true, true, true, true, true, true, true, true, true, true, true, true, true, true, true, true, true, true, true, true, true, true, true, true, true, true, true, true, true, true, false, false, false, false, false, false, false, false, false, false, false, false, false] rfl rfl (one_of HT_.out (by kernel_rfl)) (by decide) (fun K hK => ?_)
  refine goes_ Try.func16 (by kernel_rfl) rfl #[.slice A0 l0.length c0, .int .i64 a2_1] (by rfl) rfl rfl (by (try simp only [List.map_toArray, List.map_cons, List.map_nil]); first | done | rfl | (simp only [List.length_drop, List.length_take]; rfl)) ?_
  with_reducible refine (norm_Ahead.calls k _ _ l0 a2_1 t324 _ ?side1 ?side2 A24.out).mono ?_
  (case side1 => repeat (first | exact (Kd.C_below HR0.out (by repeat (first | (with_reducible first | exact HB.out | apply below_alloc | apply pw_below_drewN | apply below_drew1 | refine below_set ?_ GE291.out | refine below_set ?_ GE292.out | refine below_set ?_ GE309.out | refine below_set ?_ GE313.out | refine below_set ?_ GE317.out | refine below_set ?_ GE321.out) | exact HB.out))) | (with_reducible refine Kd.C_alloc ?_ _) | (with_reducible refine Kd.C_drewN ?_ _) | (with_reducible refine Kd.C_drew ?_)))
  (case side2 => exact HC0.out)
  rintro e w' ⟨rfl, ⟨nd, rfl⟩⟩
  refine ⟨_, rfl, ?_⟩
  refine hK.out _ _ ⟨(blk_cell BK309.out 0).trans rfl, (blk_cell BK309.out 1).trans rfl, (blk_cell BK313.out 0).trans rfl, (blk_cell BK313.out 1).trans rfl, (blk_cell BK317.out 0).trans rfl, (blk_cell BK317.out 1).trans rfl, (blk_cell BK321.out 0).trans rfl, (blk_cell BK321.out 1).trans rfl, (blk_cell BK292.out 0).trans rfl, (blk_cell BK292.out 1).trans rfl, (blk_cell BK292.out 2).trans rfl⟩ (fun hHeld => ?_)
  clear hK K
  refine norm_ (a' := ?_) ?_ ?_
  rotate_left
  · show Act.put _ (some 94) _ = _
    simp only [Act.put, List.setIfInBounds_toArray, List.set_cons_zero, List.set_cons_succ, i64_w, i32_w]
    rfl
  refine one_ (i := 36) (N := some 98) #[true, true, true, true, true, true, true, true, true, true, true, true, true, true, true, true, true, true, true, true, true, true, true, true, true, true, true, true, true, true, true, true, true, true, true, true, true, false, false, false, false, false, false, false, false, false, false, false, false] rfl rfl (one_of HT_.out (by kernel_rfl)) (by decide) (fun K hK => ?_)
  refine goes_ Try.func17 (by kernel_rfl) rfl #[.slice A0 l0.length c0, .int .i64 a2_1] (by rfl) rfl rfl (by (try simp only [List.map_toArray, List.map_cons, List.map_nil]); first | done | rfl | (simp only [List.length_drop, List.length_take]; rfl)) ?_
  with_reducible refine (ductusref23_Ahead.calls k _ _ l0 a2_1 t325 _ ?side1 ?side2 A25.out).mono ?_
  (case side1 => repeat (first | exact (Kd.C_below HR0.out (by repeat (first | (with_reducible first | exact HB.out | apply below_alloc | apply pw_below_drewN | apply below_drew1 | refine below_set ?_ GE291.out | refine below_set ?_ GE292.out | refine below_set ?_ GE309.out | refine below_set ?_ GE313.out | refine below_set ?_ GE317.out | refine below_set ?_ GE321.out) | exact HB.out))) | (with_reducible refine Kd.C_alloc ?_ _) | (with_reducible refine Kd.C_drewN ?_ _) | (with_reducible refine Kd.C_drew ?_)))
  (case side2 => exact HC0.out)
  rintro e w' ⟨rfl, ⟨nd, rfl⟩⟩
  refine ⟨_, rfl, ?_⟩
  refine hK.out _ _ ⟨(blk_cell BK309.out 0).trans rfl, (blk_cell BK309.out 1).trans rfl, (blk_cell BK313.out 0).trans rfl, (blk_cell BK313.out 1).trans rfl, (blk_cell BK317.out 0).trans rfl, (blk_cell BK317.out 1).trans rfl, (blk_cell BK321.out 0).trans rfl, (blk_cell BK321.out 1).trans rfl, (blk_cell BK292.out 0).trans rfl, (blk_cell BK292.out 1).trans rfl, (blk_cell BK292.out 2).trans rfl⟩ (fun hHeld => ?_)
  clear hK K
  refine norm_ (a' := ?_) ?_ ?_
  rotate_left
  · show Act.put _ (some 98) _ = _
    simp only [Act.put, List.setIfInBounds_toArray, List.set_cons_zero, List.set_cons_succ, i64_w, i32_w]
    rfl
  refine pure_ (i := 37) (N := some 99) (v := ?_) (a' := ?_) #[true, true, true, true, true, true, true, true, true, true, true, true, true, true, true, true, true, true, true, true, true, true, true, true, true, true, true, true, true, true, true, true, true, true, true, true, true, true, false, false, false, false, false, false, false, false, false, false, false] rfl rfl (any_of HT_.out (by kernel_rfl)) (fun _ _ _ h => h) (Or.inl ⟨by rfl, ?_⟩) ?_ ?_
  rotate_left
  · intro w'
    go_simp
    with_reducible rfl
  rotate_left
  · simp only [Act.put, List.setIfInBounds_toArray, List.set_cons_zero, List.set_cons_succ, i64_w, i32_w]
    rfl
  refine pure_ (i := 38) (N := some 100) (v := ?_) (a' := ?_) #[true, true, true, true, true, true, true, true, true, true, true, true, true, true, true, true, true, true, true, true, true, true, true, true, true, true, true, true, true, true, true, true, true, true, true, true, true, true, true, false, false, false, false, false, false, false, false, false, false] rfl rfl (any_of HT_.out (by kernel_rfl)) (fun _ _ _ h => h) (Or.inl ⟨by rfl, ?_⟩) ?_ ?_
  rotate_left
  · intro w'
    go_simp
    with_reducible rfl
  rotate_left
  · simp only [Act.put, List.setIfInBounds_toArray, List.set_cons_zero, List.set_cons_succ, i64_w, i32_w]
    rfl
  refine pure_ (i := 39) (N := some 101) (v := ?_) (a' := ?_) #[true, true, true, true, true, true, true, true, true, true, true, true, true, true, true, true, true, true, true, true, true, true, true, true, true, true, true, true, true, true, true, true, true, true, true, true, true, true, true, true, false, false, false, false, false, false, false, false, false] rfl rfl (any_of HT_.out (by kernel_rfl)) (fun _ _ _ h => h) (Or.inl ⟨by rfl, ?_⟩) ?_ ?_
  rotate_left
  · intro w'
    go_simp
    with_reducible rfl
  rotate_left
  · simp only [Act.put, List.setIfInBounds_toArray, List.set_cons_zero, List.set_cons_succ, i64_w, i32_w]
    rfl
  refine pure_ (i := 40) (N := some 102) (v := ?_) (a' := ?_) #[true, true, true, true, true, true, true, true, true, true, true, true, true, true, true, true, true, true, true, true, true, true, true, true, true, true, true, true, true, true, true, true, true, true, true, true, true, true, true, true, true, false, false, false, false, false, false, false, false] rfl rfl (any_of HT_.out (by kernel_rfl)) (fun _ _ _ h => h) (Or.inl ⟨by rfl, ?_⟩) ?_ ?_
  rotate_left
  · intro w'
    go_simp
    with_reducible rfl
  rotate_left
  · simp only [Act.put, List.setIfInBounds_toArray, List.set_cons_zero, List.set_cons_succ, i64_w, i32_w]
    rfl
  refine pure_ (i := 43) (N := some 105) (v := ?_) (a' := ?_) #[true, true, true, true, true, true, true, true, true, true, true, true, true, true, true, true, true, true, true, true, true, true, true, true, true, true, true, true, true, true, true, true, true, true, true, true, true, true, true, true, true, false, false, true, false, false, false, false, false] rfl rfl (any_of HT_.out (by kernel_rfl)) (fun _ _ _ h => h) (Or.inl ⟨by rfl, ?_⟩) ?_ ?_
  rotate_left
  · intro w'
    go_simp
    with_reducible rfl
  rotate_left
  · simp only [Act.put, List.setIfInBounds_toArray, List.set_cons_zero, List.set_cons_succ, i64_w, i32_w]
    rfl
  refine take_ (i := 41) (N := some 103) (v := ?_) (a' := ?_) #[true, true, true, true, true, true, true, true, true, true, true, true, true, true, true, true, true, true, true, true, true, true, true, true, true, true, true, true, true, true, true, true, true, true, true, true, true, true, true, true, true, true, false, true, false, false, false, false, false] rfl rfl (take_ofW HT_.out HW_.out (by kernel_rfl)) (fun _ _ _ h => h) (Or.inl ⟨by rfl, ?_⟩) hHeld ?_ ?_
  rotate_left
  · rintro w' ⟨s0, s1, s2, s3, s4, s5, s6, s7, s8, s9, s10⟩
    go_simp
    with_reducible rfl
  rotate_left
  · simp only [Act.put, List.setIfInBounds_toArray, List.set_cons_zero, List.set_cons_succ, i64_w, i32_w]
    rfl
  refine take_ (i := 44) (N := some 106) (v := ?_) (a' := ?_) #[true, true, true, true, true, true, true, true, true, true, true, true, true, true, true, true, true, true, true, true, true, true, true, true, true, true, true, true, true, true, true, true, true, true, true, true, true, true, true, true, true, true, false, true, true, false, false, false, false] rfl rfl (take_ofW HT_.out HW_.out (by kernel_rfl)) (fun _ _ _ h => h) (Or.inl ⟨by rfl, ?_⟩) hHeld ?_ ?_
  rotate_left
  · rintro w' ⟨s0, s1, s2, s3, s4, s5, s6, s7, s8, s9, s10⟩
    go_simp
    with_reducible rfl
  rotate_left
  · simp only [Act.put, List.setIfInBounds_toArray, List.set_cons_zero, List.set_cons_succ, i64_w, i32_w]
    rfl
  refine one_ (i := 42) (N := some 104) #[true, true, true, true, true, true, true, true, true, true, true, true, true, true, true, true, true, true, true, true, true, true, true, true, true, true, true, true, true, true, true, true, true, true, true, true, true, true, true, true, true, true, true, true, true, false, false, false, false] rfl rfl (one_of HT_.out (by kernel_rfl)) (by decide) (fun K hK => ?_)
  refine goes_ Try.func18 (by kernel_rfl) rfl #[.int .i64 a2_2] (by rfl) rfl rfl (by (try simp only [List.map_toArray, List.map_cons, List.map_nil]); first | done | rfl | (simp only [List.length_drop, List.length_take]; rfl)) ?_
  with_reducible refine (norm_Control.calls k a2_2 t326 _ A27.out).mono ?_
  rintro e w73 ⟨rfl, hb⟩
  refine ⟨_, rfl, ?_⟩
  have n0_ := Aside0.mk (Kd.R_below (by (with_reducible repeat (first | apply Kd.R_alloc | apply Kd.R_drewN | apply Kd.R_drew)); exact HO297.out) hb)
  have n1_ := Aside0.mk (Kd.R_below (by (with_reducible repeat (first | apply Kd.R_alloc | apply Kd.R_drewN | apply Kd.R_drew)); exact HO299.out) hb)
  have n2_ := Aside0.mk (Kd.R_below (by (with_reducible repeat (first | apply Kd.R_alloc | apply Kd.R_drewN | apply Kd.R_drew)); exact HO303.out) hb)
  have n3_ := Aside0.mk (Kd.R_below (by (with_reducible repeat (first | apply Kd.R_alloc | apply Kd.R_drewN | apply Kd.R_drew)); exact HO305.out) hb)
  have n4_ := Aside0.mk (blk_below (g := gb291) (o := .cells #[.int .i64 a1_0, .int .i64 a1_1] 24 (0, 0)) (by (with_reducible repeat (first | refine blk_drewN ?_ _ | refine blk_drew ?_ | refine blk_alloc ?_ _)); exact BK291.out) hb)
  have n5_ := Aside0.mk (blk_below (g := gb292) (o := .cells #[.int .i64 a2_0, .int .i64 a2_1, .int .i64 a2_2] 25 (0, 0)) (by (with_reducible repeat (first | refine blk_drewN ?_ _ | refine blk_drew ?_ | refine blk_alloc ?_ _)); exact BK292.out) hb)
  have n6_ := Aside0.mk (blk_below (g := gb309) (o := .cells #[.int .i64 t306, .int .i64 t307] 24 (0, 0)) (by (with_reducible repeat (first | refine blk_drewN ?_ _ | refine blk_drew ?_ | refine blk_alloc ?_ _)); exact BK309.out) hb)
  have n7_ := Aside0.mk (blk_below (g := gb313) (o := .cells #[.int .i64 t310, .int .i64 t311] 24 (0, 0)) (by (with_reducible repeat (first | refine blk_drewN ?_ _ | refine blk_drew ?_ | refine blk_alloc ?_ _)); exact BK313.out) hb)
  have n8_ := Aside0.mk (blk_below (g := gb317) (o := .cells #[.int .i64 t314, .int .i64 t315] 24 (0, 0)) (by (with_reducible repeat (first | refine blk_drewN ?_ _ | refine blk_drew ?_ | refine blk_alloc ?_ _)); exact BK317.out) hb)
  have n9_ := Aside0.mk (blk_below (g := gb321) (o := .cells #[.int .i64 t318, .int .i64 t319] 24 (0, 0)) (by (with_reducible repeat (first | refine blk_drewN ?_ _ | refine blk_drew ?_ | refine blk_alloc ?_ _)); exact BK321.out) hb)
  have n10_ := Aside0.mk (below_step (by repeat (first | (with_reducible first | exact HB.out | apply below_alloc | apply pw_below_drewN | apply below_drew1 | refine below_set ?_ GE291.out | refine below_set ?_ GE292.out | refine below_set ?_ GE309.out | refine below_set ?_ GE313.out | refine below_set ?_ GE317.out | refine below_set ?_ GE321.out) | exact HB.out)) hb)
  clear HO297
  clear HO299
  clear HO303
  clear HO305
  clear BK291
  clear BK292
  clear BK309
  clear BK313
  clear BK317
  clear BK321
  clear HB
  have HO297 := n0_
  have HO299 := n1_
  have HO303 := n2_
  have HO305 := n3_
  have BK291 := n4_
  have BK292 := n5_
  have BK309 := n6_
  have BK313 := n7_
  have BK317 := n8_
  have BK321 := n9_
  have HB := n10_
  clear n0_ n1_ n2_ n3_ n4_ n5_ n6_ n7_ n8_ n9_ n10_
  (try clear hb)
  (try clear hb2)
  (try clear hk)
  (try clear hi)
  refine hK.out _ _ ⟨(blk_cell BK309.out 0).trans rfl, (blk_cell BK309.out 1).trans rfl, (blk_cell BK313.out 0).trans rfl, (blk_cell BK313.out 1).trans rfl, (blk_cell BK317.out 0).trans rfl, (blk_cell BK317.out 1).trans rfl, (blk_cell BK321.out 0).trans rfl, (blk_cell BK321.out 1).trans rfl, (blk_cell BK292.out 0).trans rfl, (blk_cell BK292.out 1).trans rfl, (blk_cell BK292.out 2).trans rfl⟩ (fun hHeld => ?_)
  clear hK K
  refine norm_ (a' := ?_) ?_ ?_
  rotate_left
  · show Act.put _ (some 104) _ = _
    simp only [Act.put, List.setIfInBounds_toArray, List.set_cons_zero, List.set_cons_succ, i64_w, i32_w]
    rfl
  refine one_ (i := 45) (N := some 107) #[true, true, true, true, true, true, true, true, true, true, true, true, true, true, true, true, true, true, true, true, true, true, true, true, true, true, true, true, true, true, true, true, true, true, true, true, true, true, true, true, true, true, true, true, true, true, false, false, false] rfl rfl (one_of HT_.out (by kernel_rfl)) (by decide) (fun K hK => ?_)
  refine goes_ Try.func19 (by kernel_rfl) rfl #[.int .i64 a2_2] (by rfl) rfl rfl (by (try simp only [List.map_toArray, List.map_cons, List.map_nil]); first | done | rfl | (simp only [List.length_drop, List.length_take]; rfl)) ?_
  with_reducible refine (ductusref23_Control.calls a2_2 t327 _ A28.out).mono ?_
  rintro e w' ⟨rfl, ⟨nd, rfl⟩⟩
  refine ⟨_, rfl, ?_⟩
  refine hK.out _ _ ⟨(blk_cell BK309.out 0).trans rfl, (blk_cell BK309.out 1).trans rfl, (blk_cell BK313.out 0).trans rfl, (blk_cell BK313.out 1).trans rfl, (blk_cell BK317.out 0).trans rfl, (blk_cell BK317.out 1).trans rfl, (blk_cell BK321.out 0).trans rfl, (blk_cell BK321.out 1).trans rfl, (blk_cell BK292.out 0).trans rfl, (blk_cell BK292.out 1).trans rfl, (blk_cell BK292.out 2).trans rfl⟩ (fun hHeld => ?_)
  clear hK K
  refine norm_ (a' := ?_) ?_ ?_
  rotate_left
  · show Act.put _ (some 107) _ = _
    simp only [Act.put, List.setIfInBounds_toArray, List.set_cons_zero, List.set_cons_succ, i64_w, i32_w]
    rfl
  refine pure_ (i := 46) (N := some 108) (v := ?_) (a' := ?_) #[true, true, true, true, true, true, true, true, true, true, true, true, true, true, true, true, true, true, true, true, true, true, true, true, true, true, true, true, true, true, true, true, true, true, true, true, true, true, true, true, true, true, true, true, true, true, true, false, false] rfl rfl (any_of HT_.out (by kernel_rfl)) (fun _ _ _ h => h) (Or.inl ⟨by rfl, ?_⟩) ?_ ?_
  rotate_left
  · intro w'
    go_simp
    with_reducible rfl
  rotate_left
  · simp only [Act.put, List.setIfInBounds_toArray, List.set_cons_zero, List.set_cons_succ, i64_w, i32_w]
    rfl
  refine pure_ (i := 47) (N := some 109) (v := ?_) (a' := ?_) #[true, true, true, true, true, true, true, true, true, true, true, true, true, true, true, true, true, true, true, true, true, true, true, true, true, true, true, true, true, true, true, true, true, true, true, true, true, true, true, true, true, true, true, true, true, true, true, true, false] rfl rfl (any_of HT_.out (by kernel_rfl)) (fun _ _ _ h => h) (Or.inl ⟨by rfl, ?_⟩) ?_ ?_
  rotate_left
  · intro w'
    go_simp
    with_reducible rfl
  rotate_left
  · simp only [Act.put, List.setIfInBounds_toArray, List.set_cons_zero, List.set_cons_succ, i64_w, i32_w]
    rfl
  refine pure_ (i := 48) (N := some 6) (v := ?_) (a' := ?_) #[true, true, true, true, true, true, true, true, true, true, true, true, true, true, true, true, true, true, true, true, true, true, true, true, true, true, true, true, true, true, true, true, true, true, true, true, true, true, true, true, true, true, true, true, true, true, true, true, true] rfl rfl (any_of HT_.out (by kernel_rfl)) (fun _ _ _ h => h) (Or.inl ⟨by rfl, ?_⟩) ?_ ?_
  rotate_left
  · intro w'
    go_simp
    with_reducible rfl
  rotate_left
  · simp only [Act.put, List.setIfInBounds_toArray, List.set_cons_zero, List.set_cons_succ, i64_w, i32_w]
    rfl
  refine done_ (done_of HT_.out (by kernel_rfl)) ?_
  try go_wp2
  go_ret
  exact ⟨by first | rfl | (simp [errW_none, errW_some] <;> rfl) | (simp [*, errW_none, errW_some] <;> rfl), by repeat (first | (with_reducible first | exact HB.out | apply below_alloc | apply pw_below_drewN | apply below_drew1 | refine below_set ?_ GE291.out | refine below_set ?_ GE292.out | refine below_set ?_ GE309.out | refine below_set ?_ GE313.out | refine below_set ?_ GE317.out | refine below_set ?_ GE321.out) | exact HB.out)⟩

/-- THE ONE PURE STATEMENT of ductuslaw23_NormAnswers: yours. -/
def ductuslaw23_NormAnswers.Pure : Prop := ∀ (l0 : List Int) (a1_0 : Int) (a1_1 : Int) (a2_0 : Int) (a2_1 : Int) (a2_2 : Int), l0.length ≤ maxLen → l0.length * 8 ≤ 140737488351232 → (∀ x ∈ l0, (Lit.int .i64 x).wf = true) → (Lit.int .i64 a1_0).wf = true → (Lit.int .i64 a1_1).wf = true → (Lit.int .i64 a2_0).wf = true → (Lit.int .i64 a2_1).wf = true → (Lit.int .i64 a2_2).wf = true → ∃ k, ductuslaw23_NormAnswers.f k l0 a1_0 a1_1 a2_0 a2_1 a2_2 = some true
theorem ductuslaw23_NormAnswers.walk (P : ductuslaw23_NormAnswers.Pure) (a0 : Option Addr) (len0 cap0 : Nat) (z0 : List Int) (a1_0 : Int) (a1_1 : Int) (a2_0 : Int) (a2_1 : Int) (a2_2 : Int) (w : World) (w0 : (a0 = none ∧ len0 = 0 ∧ cap0 = 0 ∧ z0 = []) ∨ ∃ x, a0 = some x ∧ len0 ≤ cap0 ∧ cap0 ≤ maxLen ∧ z0.length = cap0 ∧ (∀ i, i < z0.length → w.cell? (x.add i) = some (.int .i64 (z0.getD i 0))) ∧ ∀ n ∈ z0, (Lit.int .i64 n).wf = true) (y0 : len0 * 8 ≤ 140737488351232) (w1_0 : (Lit.int .i64 a1_0).wf = true) (w1_1 : (Lit.int .i64 a1_1).wf = true) (w2_0 : (Lit.int .i64 a2_0).wf = true) (w2_1 : (Lit.int .i64 a2_1).wf = true) (w2_2 : (Lit.int .i64 a2_2).wf = true) :
    Calls Try.prog 3 #[.slice a0 len0 cap0, .agg #[.int .i64 a1_0, .int .i64 a1_1], .agg #[.int .i64 a2_0, .int .i64 a2_1, .int .i64 a2_2]] w fun e w' => e = .returned (.bool true) ∧ Below w.heap.size w w' := by
  obtain ⟨l0, rfl, hr0, hm0, hw0, hc0⟩ := ReadsInt.ofRowC w0
  obtain ⟨k, h⟩ := P l0 a1_0 a1_1 a2_0 a2_1 a2_2 hm0 y0 hw0 w1_0 w1_1 w2_0 w2_1 w2_2
  refine (ductuslaw23_NormAnswers.calls k _ _ l0 a1_0 a1_1 a2_0 a2_1 a2_2 true w (Kd.C_of_reads (d := (0 : Int)) (h1 := fun _ => rfl) hr0) hc0 h).mono ?_
  rintro e w' ⟨rfl, hd⟩
  exact ⟨rfl, hd⟩

end Go.Proofs.Ytmgagebjdldenaa.P
