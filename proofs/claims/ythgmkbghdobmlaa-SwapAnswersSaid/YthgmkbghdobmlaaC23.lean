/- Texts of this claim put together by a program of its own (Px18, PInts, PPlaces, PMirC, PMir, PFold, PNormB, PEv), what the law does not use left out: each part's statements bear their own conditions. -/
import Derived.Test.YthgmkbghdobmlaaC11
import Derived.Test.YthgmkbghdobmlaaC16
import Derived.Test.YthgmkbghdobmlaaC17
import Derived.Test.YthgmkbghdobmlaaC19
import Derived.Test.YthgmkbghdobmlaaC22
import Derived.Test.YthgmkbghdobmlaaC12
import Derived.Test.YthgmkbghdobmlaaC15
import Derived.Test.YthgmkbghdobmlaaC13
import Derived.Test.YthgmkbghdobmlaaC14
import Derived.Test.YthgmkbghdobmlaaC18
import Derived.Test.YthgmkbghdobmlaaC20
namespace Go.Proofs.Ythgmkbghdobmlaa.P
open Go.RowKit Go.Proofs.YthgmkbghdobmlaaW.PrintWords Go.Proofs.YthgmkbghdobmlaaW.PrintLast Go.Proofs.YthgmkbghdobmlaaW.PrintMore
attribute [local go_sem] min2_int min_two
set_option linter.unusedVariables false
set_option linter.unusedSimpArgs false

def ductuslaw27_SwapAnswers.j0 : Nat → List Int → Bool → List Int → List (S39) → List Int → Option (Bool)
  | 0, _, _, _, _, _ => none
  | k + 1, x1, x25, x528000, x528001, x528002 => if x25 = true then (some true) else ((swap_All.f k x528000 x528001 x528002).bind fun bt530 => ((ductusref27_All.f k x528000 x528001 x528002).bind fun bt534 => ((swap_Some.f k x528000 x528001 x1 x528002).bind fun bt538 => ((ductusref27_Some.f k x528000 x528001 x1 x528002).bind fun bt542 => ((swap_Bytes.f k x528000 x528001 x528002).bind fun bt546 => ((ductusref27_Bytes.f k x528000 x528001 x528002).bind fun bt550 => ((ductusref01_Ints.f k bt530.1 bt534.1).bind fun t554 => (if t554 = true then (if bt530.2 = bt534.2 then ((ductusref01_Ints.f k bt538.1 bt542.1).bind fun t555 => (if t555 = true then (if bt538.2 = bt542.2 then (if (strOfNums bt546.1).toList = (strOfNums bt550.1).toList then (if bt546.2 = bt550.2 then ((swap_Plain.f x528000).bind fun t556 => ((ductusref27_Plain.f k x528000).bind fun t559 => ((ductusref01_Ints.f k t556 t559).bind fun t562 => (some t562)))) else (none)) else (none)) else (none)) else (none))) else (none)) else (none)))))))))
def ductuslaw27_SwapAnswers.f (k : Nat) (l0_0 : List Int) (l0_1 : List (S39)) (l0_2 : List Int) (l1 : List Int) : Option (Bool) := (ductuslaw27_alive.f k).bind fun t528 => (if t528 = true then ((ductuslaw27_great.f l0_0 l0_1 l0_2).bind fun t529 => (if t529 = true then (ductuslaw27_SwapAnswers.j0 k l1 true l0_0 l0_1 l0_2) else (ductuslaw27_SwapAnswers.j0 k l1 (decide ((l1.length : Int) > 500)) l0_0 l0_1 l0_2))) else (none))
def ductuslaw27_SwapAnswers.T11 : Bool × List (List Nat × List Nat) := (true, [([], []), ([], []), ([0, 1], [0, 1]), ([2, 2], [2]), ([3], [3]), ([3], [3]), ([4, 5, 3], [3, 4, 5]), ([3, 6], [3, 6]), ([7, 3], [7]), ([8], [8]), ([8], [8]), ([9, 10, 8, 8], [8, 9, 10]), ([8, 11], [8, 11]), ([12, 11], [12]), ([13], [13]), ([13], [13]), ([14, 15, 13], [13, 14, 15]), ([13, 16], [13, 16]), ([17, 13], [17]), ([18], [18]), ([19, 18], [18, 19]), ([18], [18]), ([21, 18], [18, 21]), ([20, 22, 18], [18, 20, 22]), ([18, 23], [18, 23]), ([24, 18], [24]), ([25], [25]), ([25], [25]), ([26, 27, 25], [25, 26, 27]), ([25, 28], [25, 28]), ([29, 25], [29]), ([30], [30]), ([31, 30], [30, 31]), ([32, 30, 30], [30, 32]), ([30], [30]), ([34, 30], [30, 34]), ([35, 33, 30], [30, 35]), ([33, 36, 36, 30], [30, 33, 36]), ([30, 37], [30, 37]), ([38, 37, 0, 1, 2, 3, 4, 5, 6, 7, 8, 9, 10, 11, 12, 13, 14, 15, 16, 17, 18, 19, 20, 21, 22, 23, 24, 25, 26, 27, 28, 29, 30, 31, 32, 33, 34, 35, 36, 37, 38], [38])])
def ductuslaw27_SwapAnswers.B11 : List Nat := [0, 0, 3, 7, 15, 15, 63, 127, 255, 511, 511, 2047, 4095, 8191, 16383, 16383, 65535, 131071, 262143, 524287, 1048575, 524287, 2621439, 8388607, 16777215, 33554431, 67108863, 67108863, 268435455, 536870911, 1073741823, 2147483647, 4294967295, 8589934591, 2147483647, 19327352831, 68719476735, 137438953471, 274877906943, 549755813887]
theorem ductuslaw27_SwapAnswers.tab11 : rtab .any (opsOf Try.f3 11) = ductuslaw27_SwapAnswers.T11 := by kernel_rfl
theorem ductuslaw27_SwapAnswers.bits11 : waitsOk ductuslaw27_SwapAnswers.T11.2 ductuslaw27_SwapAnswers.B11 = true := by kernel_rfl
set_option maxHeartbeats 8000000 in
theorem CV27 {w : World} {base n : Nat} {e' : TypeId} {v : Value} {xs : List Int} (h : w.ownsRow base e' 1 v n (nums .u8 xs)) : (convert 32 9 v).run Try.prog w = .ok (.string (strOfNums xs)) w := own_string (P := Try.prog) Try.underlying32 Try.underlying5 Try.underlying9 h
set_option maxRecDepth 100000 in
theorem ductuslaw27_SwapAnswers.calls (k : Nat) (A0_0 : Option Addr) (c0_0 : Nat) (l0_0 : List Int) (A0_1 : Option Addr) (c0_1 : Nat) (l0_1 : List (S39)) (A0_2 : Option Addr) (c0_2 : Nat) (l0_2 : List Int) (A1 : Option Addr) (c1 : Nat) (l1 : List Int) (r : Bool) (w : World) (hr0_0 : Kd.C (Kd.int .i64) w A0_0 l0_0.length l0_0) (hc0_0 : l0_0.length ≤ c0_0) (hr0_1 : Kd.C k39 w A0_1 l0_1.length l0_1) (hc0_1 : l0_1.length ≤ c0_1) (hr0_2 : Kd.C (Kd.int .i64) w A0_2 l0_2.length l0_2) (hc0_2 : l0_2.length ≤ c0_2) (hr1 : Kd.C (Kd.int .i64) w A1 l1.length l1) (hc1 : l1.length ≤ c1) (h : ductuslaw27_SwapAnswers.f k l0_0 l0_1 l0_2 l1 = some r) :
    Calls Try.prog 3 #[.agg #[.slice A0_0 l0_0.length c0_0, .slice A0_1 l0_1.length c0_1, .slice A0_2 l0_2.length c0_2], .slice A1 l1.length c1] w fun e w' => e = .returned (.bool r) ∧ Below w.heap.size w w' := by
  have hu25 := Try.underlying25
  have HR0_0 := Aside0.mk hr0_0
  have HC0_0 := Aside0.mk hc0_0
  clear hr0_0 hc0_0
  have HR0_1 := Aside0.mk hr0_1
  have HC0_1 := Aside0.mk hc0_1
  clear hr0_1 hc0_1
  have HR0_2 := Aside0.mk hr0_2
  have HC0_2 := Aside0.mk hc0_2
  clear hr0_2 hc0_2
  have HR1 := Aside0.mk hr1
  have HC1 := Aside0.mk hc1
  clear hr1 hc1
  have HB := Aside0.mk (Below.refl w.heap.size w)
  have H : ((ductuslaw27_alive.f k).bind fun t528 => (if t528 = true then ((ductuslaw27_great.f l0_0 l0_1 l0_2).bind fun t529 => (if t529 = true then (ductuslaw27_SwapAnswers.j0 k l1 true l0_0 l0_1 l0_2) else (ductuslaw27_SwapAnswers.j0 k l1 (decide ((l1.length : Int) > 500)) l0_0 l0_1 l0_2))) else (none))) = some r := h
  clear h
  replace H := Option.bind_eq_some_iff.mp H
  obtain ⟨t528, A30, H⟩ := H
  replace H : (if t528 = true then ((ductuslaw27_great.f l0_0 l0_1 l0_2).bind fun t529 => (if t529 = true then (ductuslaw27_SwapAnswers.j0 k l1 true l0_0 l0_1 l0_2) else (ductuslaw27_SwapAnswers.j0 k l1 (decide ((l1.length : Int) > 500)) l0_0 l0_1 l0_2))) else (none)) = some r := H
  have A3 := Aside0.mk A30
  clear A30
  by_cases c4 : t528 = true
  rotate_left
  · replace c4 := Bool.eq_false_iff.mpr c4
    subst c4
    have H1 : (none) = some r := by rw [if_neg (show ¬ (false = true) by decide)] at H; exact H
    clear H
    have H := H1
    clear H1
    exact absurd H (by simp)
  subst c4
  have H1 : ((ductuslaw27_great.f l0_0 l0_1 l0_2).bind fun t529 => (if t529 = true then (ductuslaw27_SwapAnswers.j0 k l1 true l0_0 l0_1 l0_2) else (ductuslaw27_SwapAnswers.j0 k l1 (decide ((l1.length : Int) > 500)) l0_0 l0_1 l0_2))) = some r := by rw [if_pos rfl] at H; exact H
  clear H
  have H := H1
  clear H1
  have HC5 := Aside0.mk H
  clear H
  go_enter Try.func3, Try.ntmps3
  go_upto_region 3 with (first | ((with_reducible refine gate_dst (N := 2) rfl ?_); (try (refine gate_guard (by rfl) ?_; dsimp only)); refine box_event ?hg (N := 2) ?hd (cs := #[.slice A0_0 l0_0.length c0_0, .slice A0_1 l0_1.length c0_1, .slice A0_2 l0_2.length c0_2]) (t := 25) ?hr ?_; (case hd => rfl); (case hg => rfl); (case hr => first | (go_simp; done) | (go_simp; rfl)); intro gb527 hg w6 hbox hb; have n0_ := Aside0.mk (below_step (by repeat (first | (with_reducible first | exact HB.out | apply below_alloc | apply pw_below_drewN | apply below_drew1) | exact HB.out)) hb); have n1_ := Aside0.mk (hbox); have n2_ := Aside0.mk ((by rw [hg]; exact (below_size (by repeat (first | (with_reducible first | exact HB.out | apply below_alloc | apply pw_below_drewN | apply below_drew1) | exact HB.out))) : w.heap.size ≤ gb527)); have n3_ := Aside0.mk ((by rw [hg]; exact (below_size (by repeat (first | (with_reducible first | exact HB.out | apply below_alloc | apply pw_below_drewN | apply below_drew1) | exact HB.out))) : w.heap.size ≤ gb527)); clear HB; have HB := n0_; have BK527 := n1_; have GW527 := n2_; have GE527 := n3_; clear n0_ n1_ n2_ n3_; clear hb hbox hg) | ((with_reducible refine gate_callee (f := 8) rfl ?_); refine goesL_ (some 17) rfl rfl Try.func8 (by kernel_rfl) rfl #[] rfl (by (try simp only [List.map_toArray, List.map_cons, List.map_nil]); first | done | rfl | (simp only [List.length_drop, List.length_take]; rfl)) ?_; (with_reducible refine (ductuslaw27_alive.calls k  true _ A3.out).mono ?_); rintro e w7 ⟨rfl, hb⟩; refine ⟨_, rfl, ?_⟩; have n0_ := Aside0.mk (blk_below (g := gb527) (o := .cells #[.slice A0_0 l0_0.length c0_0, .slice A0_1 l0_1.length c0_1, .slice A0_2 l0_2.length c0_2] 25 (0, 0)) (by (with_reducible repeat (first | refine blk_drewN ?_ _ | refine blk_drew ?_ | refine blk_alloc ?_ _)); exact BK527.out) hb); have n1_ := Aside0.mk (below_step (by repeat (first | (with_reducible first | exact HB.out | apply below_alloc | apply pw_below_drewN | apply below_drew1 | refine below_set ?_ GE527.out) | exact HB.out)) hb); clear BK527; clear HB; have BK527 := n0_; have HB := n1_; clear n0_ n1_; (try clear hb); (try clear hb2); (try clear hk); (try clear hi)))
  (try simp only [Act.put, List.setIfInBounds_toArray, List.set_cons_zero, List.set_cons_succ])
  go_cut [25] (fun v25 wc => ∃ (kq : Nat) (x25_4 : Bool), v25 = .bool x25_4 ∧ Aside0 (ductuslaw27_SwapAnswers.j0 kq l1 x25_4 l0_0 l0_1 l0_2 = some r) ∧ Aside0 (kq ≤ k) ∧ Aside0 (wc.heap[gb527]? = some (.cells #[(.slice A0_0 l0_0.length c0_0), (.slice A0_1 l0_1.length c0_1), (.slice A0_2 l0_2.length c0_2)] 25 (0, 0))) ∧ Aside0 (Below w.heap.size w wc))
  case first =>
    have H := HC5.out
    clear HC5
    replace H := Option.bind_eq_some_iff.mp H
    obtain ⟨t529, A80, H⟩ := H
    replace H : (if t529 = true then (ductuslaw27_SwapAnswers.j0 k l1 true l0_0 l0_1 l0_2) else (ductuslaw27_SwapAnswers.j0 k l1 (decide ((l1.length : Int) > 500)) l0_0 l0_1 l0_2)) = some r := H
    have A8 := Aside0.mk A80
    clear A80
    by_cases c9 : t529 = true
    · subst c9
      have H1 : (ductuslaw27_SwapAnswers.j0 k l1 true l0_0 l0_1 l0_2) = some r := by rw [if_pos rfl] at H; exact H
      clear H
      have H := H1
      clear H1
      have H' := Aside0.mk H
      clear H
      have hcz10_0 : w7.cell? ⟨gb527, 0, none⟩ = some (.slice A0_0 l0_0.length c0_0) := (blk_cell BK527.out 0).trans rfl
      have hcz10_1 : w7.cell? ⟨gb527, 1, none⟩ = some (.slice A0_1 l0_1.length c0_1) := (blk_cell BK527.out 1).trans rfl
      have hcz10_2 : w7.cell? ⟨gb527, 2, none⟩ = some (.slice A0_2 l0_2.length c0_2) := (blk_cell BK527.out 2).trans rfl
      have hfz10_0 := blk_frozen BK527.out 0
      have hfz10_1 := blk_frozen BK527.out 1
      have hfz10_2 := blk_frozen BK527.out 2
      go_wp2_with (first | ((with_reducible refine gate_callee (f := 9) rfl ?_); refine goesL_ (some 20) rfl rfl Try.func9 (by kernel_rfl) rfl #[.agg #[.slice A0_0 l0_0.length c0_0, .slice A0_1 l0_1.length c0_1, .slice A0_2 l0_2.length c0_2]] rfl (by (try simp only [List.map_toArray, List.map_cons, List.map_nil]); first | done | rfl | (simp only [List.length_drop, List.length_take]; rfl)) ?_; (with_reducible refine (ductuslaw27_great.calls _ _ l0_0 _ _ l0_1 _ _ l0_2 true _ ?side1 ?side2 ?side3 ?side4 ?side5 ?side6 A8.out).mono ?_); (case side1 => repeat (first | exact (Kd.C_below HR0_0.out HB.out) | (with_reducible refine Kd.C_alloc ?_ _) | (with_reducible refine Kd.C_drewN ?_ _) | (with_reducible refine Kd.C_drew ?_))); (case side2 => exact HC0_0.out); (case side3 => repeat (first | exact (Kd.C_below HR0_1.out HB.out) | (with_reducible refine Kd.C_alloc ?_ _) | (with_reducible refine Kd.C_drewN ?_ _) | (with_reducible refine Kd.C_drew ?_))); (case side4 => exact HC0_1.out); (case side5 => repeat (first | exact (Kd.C_below HR0_2.out HB.out) | (with_reducible refine Kd.C_alloc ?_ _) | (with_reducible refine Kd.C_drewN ?_ _) | (with_reducible refine Kd.C_drew ?_))); (case side6 => exact HC0_2.out); rintro e w11 ⟨rfl, hb⟩; refine ⟨_, rfl, ?_⟩; have n0_ := Aside0.mk (blk_below (g := gb527) (o := .cells #[.slice A0_0 l0_0.length c0_0, .slice A0_1 l0_1.length c0_1, .slice A0_2 l0_2.length c0_2] 25 (0, 0)) (by (with_reducible repeat (first | refine blk_drewN ?_ _ | refine blk_drew ?_ | refine blk_alloc ?_ _)); exact BK527.out) hb); have n1_ := Aside0.mk (below_step (by repeat (first | (with_reducible first | exact HB.out | apply below_alloc | apply pw_below_drewN | apply below_drew1 | refine below_set ?_ GE527.out) | exact HB.out)) hb); clear BK527; clear HB; have BK527 := n0_; have HB := n1_; clear n0_ n1_; (try clear hb); (try clear hb2); (try clear hk); (try clear hi)))
      go_meet
      case rel => exact ⟨_, (true), (by first | rfl | (simp; done) | (simp [*]; done)), H', ⟨by first | omega | exact Nat.le_refl _⟩, ⟨by (with_reducible repeat (first | refine blk_drewN ?_ _ | refine blk_drew ?_ | refine blk_alloc ?_ _)); exact BK527.out⟩, ⟨by repeat (first | (with_reducible first | exact HB.out | apply below_alloc | apply pw_below_drewN | apply below_drew1 | refine below_set ?_ GE527.out) | exact HB.out)⟩⟩
    replace c9 := Bool.eq_false_iff.mpr c9
    subst c9
    have H1 : (ductuslaw27_SwapAnswers.j0 k l1 (decide ((l1.length : Int) > 500)) l0_0 l0_1 l0_2) = some r := by rw [if_neg (show ¬ (false = true) by decide)] at H; exact H
    clear H
    have H := H1
    clear H1
    have H' := Aside0.mk H
    clear H
    have hcz12_0 : w7.cell? ⟨gb527, 0, none⟩ = some (.slice A0_0 l0_0.length c0_0) := (blk_cell BK527.out 0).trans rfl
    have hcz12_1 : w7.cell? ⟨gb527, 1, none⟩ = some (.slice A0_1 l0_1.length c0_1) := (blk_cell BK527.out 1).trans rfl
    have hcz12_2 : w7.cell? ⟨gb527, 2, none⟩ = some (.slice A0_2 l0_2.length c0_2) := (blk_cell BK527.out 2).trans rfl
    have hfz12_0 := blk_frozen BK527.out 0
    have hfz12_1 := blk_frozen BK527.out 1
    have hfz12_2 := blk_frozen BK527.out 2
    go_wp2_with (first | ((with_reducible refine gate_callee (f := 9) rfl ?_); refine goesL_ (some 20) rfl rfl Try.func9 (by kernel_rfl) rfl #[.agg #[.slice A0_0 l0_0.length c0_0, .slice A0_1 l0_1.length c0_1, .slice A0_2 l0_2.length c0_2]] rfl (by (try simp only [List.map_toArray, List.map_cons, List.map_nil]); first | done | rfl | (simp only [List.length_drop, List.length_take]; rfl)) ?_; (with_reducible refine (ductuslaw27_great.calls _ _ l0_0 _ _ l0_1 _ _ l0_2 false _ ?side1 ?side2 ?side3 ?side4 ?side5 ?side6 A8.out).mono ?_); (case side1 => repeat (first | exact (Kd.C_below HR0_0.out HB.out) | (with_reducible refine Kd.C_alloc ?_ _) | (with_reducible refine Kd.C_drewN ?_ _) | (with_reducible refine Kd.C_drew ?_))); (case side2 => exact HC0_0.out); (case side3 => repeat (first | exact (Kd.C_below HR0_1.out HB.out) | (with_reducible refine Kd.C_alloc ?_ _) | (with_reducible refine Kd.C_drewN ?_ _) | (with_reducible refine Kd.C_drew ?_))); (case side4 => exact HC0_1.out); (case side5 => repeat (first | exact (Kd.C_below HR0_2.out HB.out) | (with_reducible refine Kd.C_alloc ?_ _) | (with_reducible refine Kd.C_drewN ?_ _) | (with_reducible refine Kd.C_drew ?_))); (case side6 => exact HC0_2.out); rintro e w13 ⟨rfl, hb⟩; refine ⟨_, rfl, ?_⟩; have n0_ := Aside0.mk (blk_below (g := gb527) (o := .cells #[.slice A0_0 l0_0.length c0_0, .slice A0_1 l0_1.length c0_1, .slice A0_2 l0_2.length c0_2] 25 (0, 0)) (by (with_reducible repeat (first | refine blk_drewN ?_ _ | refine blk_drew ?_ | refine blk_alloc ?_ _)); exact BK527.out) hb); have n1_ := Aside0.mk (below_step (by repeat (first | (with_reducible first | exact HB.out | apply below_alloc | apply pw_below_drewN | apply below_drew1 | refine below_set ?_ GE527.out) | exact HB.out)) hb); clear BK527; clear HB; have BK527 := n0_; have HB := n1_; clear n0_ n1_; (try clear hb); (try clear hb2); (try clear hk); (try clear hi)))
    go_meet
    case rel => exact ⟨_, (decide ((l1.length : Int) > 500)), (by first | rfl | (simp; done) | (simp [*]; done)), H', ⟨by first | omega | exact Nat.le_refl _⟩, ⟨by (with_reducible repeat (first | refine blk_drewN ?_ _ | refine blk_drew ?_ | refine blk_alloc ?_ _)); exact BK527.out⟩, ⟨by repeat (first | (with_reducible first | exact HB.out | apply below_alloc | apply pw_below_drewN | apply below_drew1 | refine below_set ?_ GE527.out) | exact HB.out)⟩⟩
  case rest =>
    clear HC5
    try clear c1
    try clear p2
    try clear c3
    try clear c4
    try clear c8
    try clear c9
    try clear hcz10_0
    try clear hcz10_1
    try clear hcz10_2
    try clear hcz12_0
    try clear hcz12_1
    try clear hcz12_2
    try clear hfz10_0
    try clear hfz10_1
    try clear hfz10_2
    try clear hfz12_0
    try clear hfz12_1
    try clear hfz12_2
    obtain ⟨kq, x25_4, rfl, HA, HJ4, BK527, HB⟩ := hcut
    cases kq with
    | zero => exact absurd HA.out (by simp [ductuslaw27_SwapAnswers.j0])
    | succ kj4 =>
      have H := HA.out
      clear HA
      simp only [ductuslaw27_SwapAnswers.j0] at H
      by_cases c14 : x25_4 = true
      · subst c14
        have H1 : (some true) = some r := by rw [if_pos rfl] at H; exact H
        clear H
        have H := H1
        clear H1
        obtain rfl := Option.some.inj H
        go_wp2
        go_ret
        exact ⟨by first | rfl | (simp [errW_none, errW_some] <;> rfl) | (simp [*, errW_none, errW_some] <;> rfl), by repeat (first | (with_reducible first | exact HB.out | apply below_alloc | apply pw_below_drewN | apply below_drew1 | refine below_set ?_ GE527.out) | exact HB.out)⟩
      replace c14 := Bool.eq_false_iff.mpr c14
      subst c14
      have H1 : ((swap_All.f kj4 l0_0 l0_1 l0_2).bind fun bt530 => ((ductusref27_All.f kj4 l0_0 l0_1 l0_2).bind fun bt534 => ((swap_Some.f kj4 l0_0 l0_1 l1 l0_2).bind fun bt538 => ((ductusref27_Some.f kj4 l0_0 l0_1 l1 l0_2).bind fun bt542 => ((swap_Bytes.f kj4 l0_0 l0_1 l0_2).bind fun bt546 => ((ductusref27_Bytes.f kj4 l0_0 l0_1 l0_2).bind fun bt550 => ((ductusref01_Ints.f kj4 bt530.1 bt534.1).bind fun t554 => (if t554 = true then (if bt530.2 = bt534.2 then ((ductusref01_Ints.f kj4 bt538.1 bt542.1).bind fun t555 => (if t555 = true then (if bt538.2 = bt542.2 then (if (strOfNums bt546.1).toList = (strOfNums bt550.1).toList then (if bt546.2 = bt550.2 then ((swap_Plain.f l0_0).bind fun t556 => ((ductusref27_Plain.f kj4 l0_0).bind fun t559 => ((ductusref01_Ints.f kj4 t556 t559).bind fun t562 => (some t562)))) else (none)) else (none)) else (none)) else (none))) else (none)) else (none))))))))) = some r := by rw [if_neg (show ¬ (false = true) by decide)] at H; exact H
      clear H
      have H := H1
      clear H1
      replace H := Option.bind_eq_some_iff.mp H
      obtain ⟨⟨t530, t531⟩, A150, H⟩ := H
      replace H : ((ductusref27_All.f kj4 l0_0 l0_1 l0_2).bind fun bt534 => ((swap_Some.f kj4 l0_0 l0_1 l1 l0_2).bind fun bt538 => ((ductusref27_Some.f kj4 l0_0 l0_1 l1 l0_2).bind fun bt542 => ((swap_Bytes.f kj4 l0_0 l0_1 l0_2).bind fun bt546 => ((ductusref27_Bytes.f kj4 l0_0 l0_1 l0_2).bind fun bt550 => ((ductusref01_Ints.f kj4 t530 bt534.1).bind fun t554 => (if t554 = true then (if t531 = bt534.2 then ((ductusref01_Ints.f kj4 bt538.1 bt542.1).bind fun t555 => (if t555 = true then (if bt538.2 = bt542.2 then (if (strOfNums bt546.1).toList = (strOfNums bt550.1).toList then (if bt546.2 = bt550.2 then ((swap_Plain.f l0_0).bind fun t556 => ((ductusref27_Plain.f kj4 l0_0).bind fun t559 => ((ductusref01_Ints.f kj4 t556 t559).bind fun t562 => (some t562)))) else (none)) else (none)) else (none)) else (none))) else (none)) else (none)))))))) = some r := H
      have A15 := Aside0.mk A150
      clear A150
      replace H := Option.bind_eq_some_iff.mp H
      obtain ⟨⟨t534, t535⟩, A160, H⟩ := H
      replace H : ((swap_Some.f kj4 l0_0 l0_1 l1 l0_2).bind fun bt538 => ((ductusref27_Some.f kj4 l0_0 l0_1 l1 l0_2).bind fun bt542 => ((swap_Bytes.f kj4 l0_0 l0_1 l0_2).bind fun bt546 => ((ductusref27_Bytes.f kj4 l0_0 l0_1 l0_2).bind fun bt550 => ((ductusref01_Ints.f kj4 t530 t534).bind fun t554 => (if t554 = true then (if t531 = t535 then ((ductusref01_Ints.f kj4 bt538.1 bt542.1).bind fun t555 => (if t555 = true then (if bt538.2 = bt542.2 then (if (strOfNums bt546.1).toList = (strOfNums bt550.1).toList then (if bt546.2 = bt550.2 then ((swap_Plain.f l0_0).bind fun t556 => ((ductusref27_Plain.f kj4 l0_0).bind fun t559 => ((ductusref01_Ints.f kj4 t556 t559).bind fun t562 => (some t562)))) else (none)) else (none)) else (none)) else (none))) else (none)) else (none))))))) = some r := H
      have A16 := Aside0.mk A160
      clear A160
      replace H := Option.bind_eq_some_iff.mp H
      obtain ⟨⟨t538, t539⟩, A170, H⟩ := H
      replace H : ((ductusref27_Some.f kj4 l0_0 l0_1 l1 l0_2).bind fun bt542 => ((swap_Bytes.f kj4 l0_0 l0_1 l0_2).bind fun bt546 => ((ductusref27_Bytes.f kj4 l0_0 l0_1 l0_2).bind fun bt550 => ((ductusref01_Ints.f kj4 t530 t534).bind fun t554 => (if t554 = true then (if t531 = t535 then ((ductusref01_Ints.f kj4 t538 bt542.1).bind fun t555 => (if t555 = true then (if t539 = bt542.2 then (if (strOfNums bt546.1).toList = (strOfNums bt550.1).toList then (if bt546.2 = bt550.2 then ((swap_Plain.f l0_0).bind fun t556 => ((ductusref27_Plain.f kj4 l0_0).bind fun t559 => ((ductusref01_Ints.f kj4 t556 t559).bind fun t562 => (some t562)))) else (none)) else (none)) else (none)) else (none))) else (none)) else (none)))))) = some r := H
      have A17 := Aside0.mk A170
      clear A170
      replace H := Option.bind_eq_some_iff.mp H
      obtain ⟨⟨t542, t543⟩, A180, H⟩ := H
      replace H : ((swap_Bytes.f kj4 l0_0 l0_1 l0_2).bind fun bt546 => ((ductusref27_Bytes.f kj4 l0_0 l0_1 l0_2).bind fun bt550 => ((ductusref01_Ints.f kj4 t530 t534).bind fun t554 => (if t554 = true then (if t531 = t535 then ((ductusref01_Ints.f kj4 t538 t542).bind fun t555 => (if t555 = true then (if t539 = t543 then (if (strOfNums bt546.1).toList = (strOfNums bt550.1).toList then (if bt546.2 = bt550.2 then ((swap_Plain.f l0_0).bind fun t556 => ((ductusref27_Plain.f kj4 l0_0).bind fun t559 => ((ductusref01_Ints.f kj4 t556 t559).bind fun t562 => (some t562)))) else (none)) else (none)) else (none)) else (none))) else (none)) else (none))))) = some r := H
      have A18 := Aside0.mk A180
      clear A180
      replace H := Option.bind_eq_some_iff.mp H
      obtain ⟨⟨t546, t547⟩, A190, H⟩ := H
      replace H : ((ductusref27_Bytes.f kj4 l0_0 l0_1 l0_2).bind fun bt550 => ((ductusref01_Ints.f kj4 t530 t534).bind fun t554 => (if t554 = true then (if t531 = t535 then ((ductusref01_Ints.f kj4 t538 t542).bind fun t555 => (if t555 = true then (if t539 = t543 then (if (strOfNums t546).toList = (strOfNums bt550.1).toList then (if t547 = bt550.2 then ((swap_Plain.f l0_0).bind fun t556 => ((ductusref27_Plain.f kj4 l0_0).bind fun t559 => ((ductusref01_Ints.f kj4 t556 t559).bind fun t562 => (some t562)))) else (none)) else (none)) else (none)) else (none))) else (none)) else (none)))) = some r := H
      have A19 := Aside0.mk A190
      clear A190
      replace H := Option.bind_eq_some_iff.mp H
      obtain ⟨⟨t550, t551⟩, A200, H⟩ := H
      replace H : ((ductusref01_Ints.f kj4 t530 t534).bind fun t554 => (if t554 = true then (if t531 = t535 then ((ductusref01_Ints.f kj4 t538 t542).bind fun t555 => (if t555 = true then (if t539 = t543 then (if (strOfNums t546).toList = (strOfNums t550).toList then (if t547 = t551 then ((swap_Plain.f l0_0).bind fun t556 => ((ductusref27_Plain.f kj4 l0_0).bind fun t559 => ((ductusref01_Ints.f kj4 t556 t559).bind fun t562 => (some t562)))) else (none)) else (none)) else (none)) else (none))) else (none)) else (none))) = some r := H
      have A20 := Aside0.mk A200
      clear A200
      replace H := Option.bind_eq_some_iff.mp H
      obtain ⟨t554, A210, H⟩ := H
      replace H : (if t554 = true then (if t531 = t535 then ((ductusref01_Ints.f kj4 t538 t542).bind fun t555 => (if t555 = true then (if t539 = t543 then (if (strOfNums t546).toList = (strOfNums t550).toList then (if t547 = t551 then ((swap_Plain.f l0_0).bind fun t556 => ((ductusref27_Plain.f kj4 l0_0).bind fun t559 => ((ductusref01_Ints.f kj4 t556 t559).bind fun t562 => (some t562)))) else (none)) else (none)) else (none)) else (none))) else (none)) else (none)) = some r := H
      have A21 := Aside0.mk A210
      clear A210
      by_cases c22 : t554 = true
      rotate_left
      · replace c22 := Bool.eq_false_iff.mpr c22
        subst c22
        have H1 : (none) = some r := by rw [if_neg (show ¬ (false = true) by decide)] at H; exact H
        clear H
        have H := H1
        clear H1
        exact absurd H (by simp)
      subst c22
      have H1 : (if t531 = t535 then ((ductusref01_Ints.f kj4 t538 t542).bind fun t555 => (if t555 = true then (if t539 = t543 then (if (strOfNums t546).toList = (strOfNums t550).toList then (if t547 = t551 then ((swap_Plain.f l0_0).bind fun t556 => ((ductusref27_Plain.f kj4 l0_0).bind fun t559 => ((ductusref01_Ints.f kj4 t556 t559).bind fun t562 => (some t562)))) else (none)) else (none)) else (none)) else (none))) else (none)) = some r := by rw [if_pos rfl] at H; exact H
      clear H
      have H := H1
      clear H1
      by_cases c23 : t531 = t535
      rotate_left
      · rw [if_neg c23] at H
        have c23b0 : (t531 == t535) = false := beq_eq_false_iff_ne.mpr c23
        have c23b1 : (t531 != t535) = true := bne_iff_ne.mpr c23
        exact absurd H (by simp)
      rw [if_pos c23] at H
      have c23b0 : (t531 == t535) = true := beq_iff_eq.mpr c23
      have c23b1 : (t531 != t535) = false := bne_eq_false_iff_eq.mpr c23
      clear c23
      replace H := Option.bind_eq_some_iff.mp H
      obtain ⟨t555, A240, H⟩ := H
      replace H : (if t555 = true then (if t539 = t543 then (if (strOfNums t546).toList = (strOfNums t550).toList then (if t547 = t551 then ((swap_Plain.f l0_0).bind fun t556 => ((ductusref27_Plain.f kj4 l0_0).bind fun t559 => ((ductusref01_Ints.f kj4 t556 t559).bind fun t562 => (some t562)))) else (none)) else (none)) else (none)) else (none)) = some r := H
      have A24 := Aside0.mk A240
      clear A240
      by_cases c25 : t555 = true
      rotate_left
      · replace c25 := Bool.eq_false_iff.mpr c25
        subst c25
        have H1 : (none) = some r := by rw [if_neg (show ¬ (false = true) by decide)] at H; exact H
        clear H
        have H := H1
        clear H1
        exact absurd H (by simp)
      subst c25
      have H1 : (if t539 = t543 then (if (strOfNums t546).toList = (strOfNums t550).toList then (if t547 = t551 then ((swap_Plain.f l0_0).bind fun t556 => ((ductusref27_Plain.f kj4 l0_0).bind fun t559 => ((ductusref01_Ints.f kj4 t556 t559).bind fun t562 => (some t562)))) else (none)) else (none)) else (none)) = some r := by rw [if_pos rfl] at H; exact H
      clear H
      have H := H1
      clear H1
      by_cases c26 : t539 = t543
      rotate_left
      · rw [if_neg c26] at H
        have c26b0 : (t539 == t543) = false := beq_eq_false_iff_ne.mpr c26
        have c26b1 : (t539 != t543) = true := bne_iff_ne.mpr c26
        exact absurd H (by simp)
      rw [if_pos c26] at H
      have c26b0 : (t539 == t543) = true := beq_iff_eq.mpr c26
      have c26b1 : (t539 != t543) = false := bne_eq_false_iff_eq.mpr c26
      clear c26
      by_cases c27 : (strOfNums t546).toList = (strOfNums t550).toList
      rotate_left
      · rw [if_neg c27] at H
        have c27b0 : ((strOfNums t546).toList == (strOfNums t550).toList) = false := beq_eq_false_iff_ne.mpr c27
        have c27b1 : ((strOfNums t546).toList != (strOfNums t550).toList) = true := bne_iff_ne.mpr c27
        exact absurd H (by simp)
      rw [if_pos c27] at H
      have c27b0 : ((strOfNums t546).toList == (strOfNums t550).toList) = true := beq_iff_eq.mpr c27
      have c27b1 : ((strOfNums t546).toList != (strOfNums t550).toList) = false := bne_eq_false_iff_eq.mpr c27
      clear c27
      by_cases c28 : t547 = t551
      rotate_left
      · rw [if_neg c28] at H
        have c28b0 : (t547 == t551) = false := beq_eq_false_iff_ne.mpr c28
        have c28b1 : (t547 != t551) = true := bne_iff_ne.mpr c28
        exact absurd H (by simp)
      rw [if_pos c28] at H
      have c28b0 : (t547 == t551) = true := beq_iff_eq.mpr c28
      have c28b1 : (t547 != t551) = false := bne_eq_false_iff_eq.mpr c28
      clear c28
      replace H := Option.bind_eq_some_iff.mp H
      obtain ⟨t556, A290, H⟩ := H
      replace H : ((ductusref27_Plain.f kj4 l0_0).bind fun t559 => ((ductusref01_Ints.f kj4 t556 t559).bind fun t562 => (some t562))) = some r := H
      have A29 := Aside0.mk A290
      clear A290
      replace H := Option.bind_eq_some_iff.mp H
      obtain ⟨t559, A300, H⟩ := H
      replace H : ((ductusref01_Ints.f kj4 t556 t559).bind fun t562 => (some t562)) = some r := H
      have A30 := Aside0.mk A300
      clear A300
      replace H := Option.bind_eq_some_iff.mp H
      obtain ⟨t562, A310, H⟩ := H
      replace H : (some t562) = some r := H
      have A31 := Aside0.mk A310
      clear A310
      obtain rfl := Option.some.inj H
      have hcz32_0 : wc.cell? ⟨gb527, 0, none⟩ = some (.slice A0_0 l0_0.length c0_0) := (blk_cell BK527.out 0).trans rfl
      have hcz32_1 : wc.cell? ⟨gb527, 1, none⟩ = some (.slice A0_1 l0_1.length c0_1) := (blk_cell BK527.out 1).trans rfl
      have hcz32_2 : wc.cell? ⟨gb527, 2, none⟩ = some (.slice A0_2 l0_2.length c0_2) := (blk_cell BK527.out 2).trans rfl
      have hfz32_0 := blk_frozen BK527.out 0
      have hfz32_1 := blk_frozen BK527.out 1
      have hfz32_2 := blk_frozen BK527.out 2
      try go_wp2_with (first | ((with_reducible refine gate_callee (f := 10) rfl ?_); refine goesL_ (some 33) rfl rfl Try.func10 (by kernel_rfl) rfl #[.slice A0_0 l0_0.length c0_0, .slice A0_1 l0_1.length c0_1, .slice A0_2 l0_2.length c0_2] rfl (by (try simp only [List.map_toArray, List.map_cons, List.map_nil]); first | done | rfl | (simp only [List.length_drop, List.length_take]; rfl)) ?_; (with_reducible refine (swap_All.calls kj4 _ _ l0_0 _ _ l0_1 _ _ l0_2 t530 t531 _ ?side1 ?side2 ?side3 ?side4 ?side5 ?side6 A15.out).mono ?_); (case side1 => repeat (first | exact (Kd.C_below HR0_0.out HB.out) | (with_reducible refine Kd.C_alloc ?_ _) | (with_reducible refine Kd.C_drewN ?_ _) | (with_reducible refine Kd.C_drew ?_))); (case side2 => exact HC0_0.out); (case side3 => repeat (first | exact (Kd.C_below HR0_1.out HB.out) | (with_reducible refine Kd.C_alloc ?_ _) | (with_reducible refine Kd.C_drewN ?_ _) | (with_reducible refine Kd.C_drew ?_))); (case side4 => exact HC0_1.out); (case side5 => repeat (first | exact (Kd.C_below HR0_2.out HB.out) | (with_reducible refine Kd.C_alloc ?_ _) | (with_reducible refine Kd.C_drewN ?_ _) | (with_reducible refine Kd.C_drew ?_))); (case side6 => exact HC0_2.out); rintro e w33 ⟨v532, rfl, ho0, hb⟩; refine ⟨_, rfl, ?_⟩; have n0_ := Aside0.mk (Kd.R_lower ho0 (below_size (by repeat (first | (with_reducible first | exact HB.out | apply below_alloc | apply pw_below_drewN | apply below_drew1 | refine below_set ?_ GE527.out) | exact HB.out)))); have n1_ := Aside0.mk (blk_below (g := gb527) (o := .cells #[.slice A0_0 l0_0.length c0_0, .slice A0_1 l0_1.length c0_1, .slice A0_2 l0_2.length c0_2] 25 (0, 0)) (by (with_reducible repeat (first | refine blk_drewN ?_ _ | refine blk_drew ?_ | refine blk_alloc ?_ _)); exact BK527.out) hb); have n2_ := Aside0.mk (below_step (by repeat (first | (with_reducible first | exact HB.out | apply below_alloc | apply pw_below_drewN | apply below_drew1 | refine below_set ?_ GE527.out) | exact HB.out)) hb); clear BK527; clear HB; have HO533 := n0_; have BK527 := n1_; have HB := n2_; clear n0_ n1_ n2_; (try clear hb); (try clear hb2); (try clear hk); (try clear hi); (try clear ho0); have hcz34_0 : w33.cell? ⟨gb527, 0, none⟩ = some (.slice A0_0 l0_0.length c0_0) := (blk_cell BK527.out 0).trans rfl; have hcz34_1 : w33.cell? ⟨gb527, 1, none⟩ = some (.slice A0_1 l0_1.length c0_1) := (blk_cell BK527.out 1).trans rfl; have hcz34_2 : w33.cell? ⟨gb527, 2, none⟩ = some (.slice A0_2 l0_2.length c0_2) := (blk_cell BK527.out 2).trans rfl; have hfz34_0 := blk_frozen BK527.out 0; have hfz34_1 := blk_frozen BK527.out 1; have hfz34_2 := blk_frozen BK527.out 2) | ((with_reducible refine gate_callee (f := 11) rfl ?_); refine goesL_ (some 43) rfl rfl Try.func11 (by kernel_rfl) rfl #[.slice A0_0 l0_0.length c0_0, .slice A0_1 l0_1.length c0_1, .slice A0_2 l0_2.length c0_2] rfl (by (try simp only [List.map_toArray, List.map_cons, List.map_nil]); first | done | rfl | (simp only [List.length_drop, List.length_take]; rfl)) ?_; (with_reducible refine (ductusref27_All.calls kj4 _ _ l0_0 _ _ l0_1 _ _ l0_2 t534 t535 _ ?side1 ?side2 ?side3 ?side4 ?side5 ?side6 A16.out).mono ?_); (case side1 => repeat (first | exact (Kd.C_below HR0_0.out HB.out) | (with_reducible refine Kd.C_alloc ?_ _) | (with_reducible refine Kd.C_drewN ?_ _) | (with_reducible refine Kd.C_drew ?_))); (case side2 => exact HC0_0.out); (case side3 => repeat (first | exact (Kd.C_below HR0_1.out HB.out) | (with_reducible refine Kd.C_alloc ?_ _) | (with_reducible refine Kd.C_drewN ?_ _) | (with_reducible refine Kd.C_drew ?_))); (case side4 => exact HC0_1.out); (case side5 => repeat (first | exact (Kd.C_below HR0_2.out HB.out) | (with_reducible refine Kd.C_alloc ?_ _) | (with_reducible refine Kd.C_drewN ?_ _) | (with_reducible refine Kd.C_drew ?_))); (case side6 => exact HC0_2.out); rintro e w35 ⟨v536, rfl, ho0, hb⟩; refine ⟨_, rfl, ?_⟩; have n0_ := Aside0.mk (Kd.R_elder' (by (with_reducible repeat (first | apply Kd.R_alloc | apply Kd.R_drewN | apply Kd.R_drew)); exact HO533.out) (Kd.R_base ho0) hb); have n1_ := Aside0.mk (Kd.R_lower (Kd.R_new' ho0 (Kd.R_lt (by (with_reducible repeat (first | apply Kd.R_alloc | apply Kd.R_drewN | apply Kd.R_drew)); exact HO533.out))) (below_size (by repeat (first | (with_reducible first | exact HB.out | apply below_alloc | apply pw_below_drewN | apply below_drew1 | refine below_set ?_ GE527.out) | exact HB.out)))); have n2_ := Aside0.mk (blk_below (g := gb527) (o := .cells #[.slice A0_0 l0_0.length c0_0, .slice A0_1 l0_1.length c0_1, .slice A0_2 l0_2.length c0_2] 25 (0, 0)) (by (with_reducible repeat (first | refine blk_drewN ?_ _ | refine blk_drew ?_ | refine blk_alloc ?_ _)); exact BK527.out) hb); have n3_ := Aside0.mk (below_step (by repeat (first | (with_reducible first | exact HB.out | apply below_alloc | apply pw_below_drewN | apply below_drew1 | refine below_set ?_ GE527.out) | exact HB.out)) hb); clear HO533; clear BK527; clear HB; have HO533 := n0_; have HO537 := n1_; have BK527 := n2_; have HB := n3_; clear n0_ n1_ n2_ n3_; (try clear hb); (try clear hb2); (try clear hk); (try clear hi); (try clear ho0); have hcz36_0 : w35.cell? ⟨gb527, 0, none⟩ = some (.slice A0_0 l0_0.length c0_0) := (blk_cell BK527.out 0).trans rfl; have hcz36_1 : w35.cell? ⟨gb527, 1, none⟩ = some (.slice A0_1 l0_1.length c0_1) := (blk_cell BK527.out 1).trans rfl; have hcz36_2 : w35.cell? ⟨gb527, 2, none⟩ = some (.slice A0_2 l0_2.length c0_2) := (blk_cell BK527.out 2).trans rfl; have hfz36_0 := blk_frozen BK527.out 0; have hfz36_1 := blk_frozen BK527.out 1; have hfz36_2 := blk_frozen BK527.out 2) | ((with_reducible refine gate_callee (f := 12) rfl ?_); refine goesL_ (some 54) rfl rfl Try.func12 (by kernel_rfl) rfl #[.slice A0_0 l0_0.length c0_0, .slice A0_1 l0_1.length c0_1, .slice A1 l1.length c1, .slice A0_2 l0_2.length c0_2] rfl (by (try simp only [List.map_toArray, List.map_cons, List.map_nil]); first | done | rfl | (simp only [List.length_drop, List.length_take]; rfl)) ?_; (with_reducible refine (swap_Some.calls kj4 _ _ l0_0 _ _ l0_1 _ _ l1 _ _ l0_2 t538 t539 _ ?side1 ?side2 ?side3 ?side4 ?side5 ?side6 ?side7 ?side8 A17.out).mono ?_); (case side1 => repeat (first | exact (Kd.C_below HR0_0.out HB.out) | (with_reducible refine Kd.C_alloc ?_ _) | (with_reducible refine Kd.C_drewN ?_ _) | (with_reducible refine Kd.C_drew ?_))); (case side2 => exact HC0_0.out); (case side3 => repeat (first | exact (Kd.C_below HR0_1.out HB.out) | (with_reducible refine Kd.C_alloc ?_ _) | (with_reducible refine Kd.C_drewN ?_ _) | (with_reducible refine Kd.C_drew ?_))); (case side4 => exact HC0_1.out); (case side5 => repeat (first | exact (Kd.C_below HR1.out HB.out) | (with_reducible refine Kd.C_alloc ?_ _) | (with_reducible refine Kd.C_drewN ?_ _) | (with_reducible refine Kd.C_drew ?_))); (case side6 => exact HC1.out); (case side7 => repeat (first | exact (Kd.C_below HR0_2.out HB.out) | (with_reducible refine Kd.C_alloc ?_ _) | (with_reducible refine Kd.C_drewN ?_ _) | (with_reducible refine Kd.C_drew ?_))); (case side8 => exact HC0_2.out); rintro e w37 ⟨v540, rfl, ho0, hb⟩; refine ⟨_, rfl, ?_⟩; have n0_ := Aside0.mk (Kd.R_elder' (by (with_reducible repeat (first | apply Kd.R_alloc | apply Kd.R_drewN | apply Kd.R_drew)); exact HO533.out) (Kd.R_base ho0) hb); have n1_ := Aside0.mk (Kd.R_elder' (by (with_reducible repeat (first | apply Kd.R_alloc | apply Kd.R_drewN | apply Kd.R_drew)); exact HO537.out) (Kd.R_base ho0) hb); have n2_ := Aside0.mk (Kd.R_lower (Kd.R_new' (Kd.R_new' ho0 (Kd.R_lt (by (with_reducible repeat (first | apply Kd.R_alloc | apply Kd.R_drewN | apply Kd.R_drew)); exact HO533.out))) (Kd.R_lt (by (with_reducible repeat (first | apply Kd.R_alloc | apply Kd.R_drewN | apply Kd.R_drew)); exact HO537.out))) (below_size (by repeat (first | (with_reducible first | exact HB.out | apply below_alloc | apply pw_below_drewN | apply below_drew1 | refine below_set ?_ GE527.out) | exact HB.out)))); have n3_ := Aside0.mk (blk_below (g := gb527) (o := .cells #[.slice A0_0 l0_0.length c0_0, .slice A0_1 l0_1.length c0_1, .slice A0_2 l0_2.length c0_2] 25 (0, 0)) (by (with_reducible repeat (first | refine blk_drewN ?_ _ | refine blk_drew ?_ | refine blk_alloc ?_ _)); exact BK527.out) hb); have n4_ := Aside0.mk (below_step (by repeat (first | (with_reducible first | exact HB.out | apply below_alloc | apply pw_below_drewN | apply below_drew1 | refine below_set ?_ GE527.out) | exact HB.out)) hb); clear HO533; clear HO537; clear BK527; clear HB; have HO533 := n0_; have HO537 := n1_; have HO541 := n2_; have BK527 := n3_; have HB := n4_; clear n0_ n1_ n2_ n3_ n4_; (try clear hb); (try clear hb2); (try clear hk); (try clear hi); (try clear ho0); have hcz38_0 : w37.cell? ⟨gb527, 0, none⟩ = some (.slice A0_0 l0_0.length c0_0) := (blk_cell BK527.out 0).trans rfl; have hcz38_1 : w37.cell? ⟨gb527, 1, none⟩ = some (.slice A0_1 l0_1.length c0_1) := (blk_cell BK527.out 1).trans rfl; have hcz38_2 : w37.cell? ⟨gb527, 2, none⟩ = some (.slice A0_2 l0_2.length c0_2) := (blk_cell BK527.out 2).trans rfl; have hfz38_0 := blk_frozen BK527.out 0; have hfz38_1 := blk_frozen BK527.out 1; have hfz38_2 := blk_frozen BK527.out 2) | ((with_reducible refine gate_callee (f := 13) rfl ?_); refine goesL_ (some 65) rfl rfl Try.func13 (by kernel_rfl) rfl #[.slice A0_0 l0_0.length c0_0, .slice A0_1 l0_1.length c0_1, .slice A1 l1.length c1, .slice A0_2 l0_2.length c0_2] rfl (by (try simp only [List.map_toArray, List.map_cons, List.map_nil]); first | done | rfl | (simp only [List.length_drop, List.length_take]; rfl)) ?_; (with_reducible refine (ductusref27_Some.calls kj4 _ _ l0_0 _ _ l0_1 _ _ l1 _ _ l0_2 t542 t543 _ ?side1 ?side2 ?side3 ?side4 ?side5 ?side6 ?side7 ?side8 A18.out).mono ?_); (case side1 => repeat (first | exact (Kd.C_below HR0_0.out HB.out) | (with_reducible refine Kd.C_alloc ?_ _) | (with_reducible refine Kd.C_drewN ?_ _) | (with_reducible refine Kd.C_drew ?_))); (case side2 => exact HC0_0.out); (case side3 => repeat (first | exact (Kd.C_below HR0_1.out HB.out) | (with_reducible refine Kd.C_alloc ?_ _) | (with_reducible refine Kd.C_drewN ?_ _) | (with_reducible refine Kd.C_drew ?_))); (case side4 => exact HC0_1.out); (case side5 => repeat (first | exact (Kd.C_below HR1.out HB.out) | (with_reducible refine Kd.C_alloc ?_ _) | (with_reducible refine Kd.C_drewN ?_ _) | (with_reducible refine Kd.C_drew ?_))); (case side6 => exact HC1.out); (case side7 => repeat (first | exact (Kd.C_below HR0_2.out HB.out) | (with_reducible refine Kd.C_alloc ?_ _) | (with_reducible refine Kd.C_drewN ?_ _) | (with_reducible refine Kd.C_drew ?_))); (case side8 => exact HC0_2.out); rintro e w39 ⟨v544, rfl, ho0, hb⟩; refine ⟨_, rfl, ?_⟩; have n0_ := Aside0.mk (Kd.R_elder' (by (with_reducible repeat (first | apply Kd.R_alloc | apply Kd.R_drewN | apply Kd.R_drew)); exact HO533.out) (Kd.R_base ho0) hb); have n1_ := Aside0.mk (Kd.R_elder' (by (with_reducible repeat (first | apply Kd.R_alloc | apply Kd.R_drewN | apply Kd.R_drew)); exact HO537.out) (Kd.R_base ho0) hb); have n2_ := Aside0.mk (Kd.R_elder' (by (with_reducible repeat (first | apply Kd.R_alloc | apply Kd.R_drewN | apply Kd.R_drew)); exact HO541.out) (Kd.R_base ho0) hb); have n3_ := Aside0.mk (Kd.R_lower (Kd.R_new' (Kd.R_new' (Kd.R_new' ho0 (Kd.R_lt (by (with_reducible repeat (first | apply Kd.R_alloc | apply Kd.R_drewN | apply Kd.R_drew)); exact HO533.out))) (Kd.R_lt (by (with_reducible repeat (first | apply Kd.R_alloc | apply Kd.R_drewN | apply Kd.R_drew)); exact HO537.out))) (Kd.R_lt (by (with_reducible repeat (first | apply Kd.R_alloc | apply Kd.R_drewN | apply Kd.R_drew)); exact HO541.out))) (below_size (by repeat (first | (with_reducible first | exact HB.out | apply below_alloc | apply pw_below_drewN | apply below_drew1 | refine below_set ?_ GE527.out) | exact HB.out)))); have n4_ := Aside0.mk (blk_below (g := gb527) (o := .cells #[.slice A0_0 l0_0.length c0_0, .slice A0_1 l0_1.length c0_1, .slice A0_2 l0_2.length c0_2] 25 (0, 0)) (by (with_reducible repeat (first | refine blk_drewN ?_ _ | refine blk_drew ?_ | refine blk_alloc ?_ _)); exact BK527.out) hb); have n5_ := Aside0.mk (below_step (by repeat (first | (with_reducible first | exact HB.out | apply below_alloc | apply pw_below_drewN | apply below_drew1 | refine below_set ?_ GE527.out) | exact HB.out)) hb); clear HO533; clear HO537; clear HO541; clear BK527; clear HB; have HO533 := n0_; have HO537 := n1_; have HO541 := n2_; have HO545 := n3_; have BK527 := n4_; have HB := n5_; clear n0_ n1_ n2_ n3_ n4_ n5_; (try clear hb); (try clear hb2); (try clear hk); (try clear hi); (try clear ho0); have hcz40_0 : w39.cell? ⟨gb527, 0, none⟩ = some (.slice A0_0 l0_0.length c0_0) := (blk_cell BK527.out 0).trans rfl; have hcz40_1 : w39.cell? ⟨gb527, 1, none⟩ = some (.slice A0_1 l0_1.length c0_1) := (blk_cell BK527.out 1).trans rfl; have hcz40_2 : w39.cell? ⟨gb527, 2, none⟩ = some (.slice A0_2 l0_2.length c0_2) := (blk_cell BK527.out 2).trans rfl; have hfz40_0 := blk_frozen BK527.out 0; have hfz40_1 := blk_frozen BK527.out 1; have hfz40_2 := blk_frozen BK527.out 2) | ((with_reducible refine gate_callee (f := 14) rfl ?_); refine goesL_ (some 75) rfl rfl Try.func14 (by kernel_rfl) rfl #[.slice A0_0 l0_0.length c0_0, .slice A0_1 l0_1.length c0_1, .slice A0_2 l0_2.length c0_2] rfl (by (try simp only [List.map_toArray, List.map_cons, List.map_nil]); first | done | rfl | (simp only [List.length_drop, List.length_take]; rfl)) ?_; (with_reducible refine (swap_Bytes.calls kj4 _ _ l0_0 _ _ l0_1 _ _ l0_2 t546 t547 _ ?side1 ?side2 ?side3 ?side4 ?side5 ?side6 A19.out).mono ?_); (case side1 => repeat (first | exact (Kd.C_below HR0_0.out HB.out) | (with_reducible refine Kd.C_alloc ?_ _) | (with_reducible refine Kd.C_drewN ?_ _) | (with_reducible refine Kd.C_drew ?_))); (case side2 => exact HC0_0.out); (case side3 => repeat (first | exact (Kd.C_below HR0_1.out HB.out) | (with_reducible refine Kd.C_alloc ?_ _) | (with_reducible refine Kd.C_drewN ?_ _) | (with_reducible refine Kd.C_drew ?_))); (case side4 => exact HC0_1.out); (case side5 => repeat (first | exact (Kd.C_below HR0_2.out HB.out) | (with_reducible refine Kd.C_alloc ?_ _) | (with_reducible refine Kd.C_drewN ?_ _) | (with_reducible refine Kd.C_drew ?_))); (case side6 => exact HC0_2.out); rintro e w41 ⟨v548, rfl, ho0, hb⟩; refine ⟨_, rfl, ?_⟩; have n0_ := Aside0.mk (Kd.R_below (by (with_reducible repeat (first | apply Kd.R_alloc | apply Kd.R_drewN | apply Kd.R_drew)); exact HO533.out) hb); have n1_ := Aside0.mk (Kd.R_below (by (with_reducible repeat (first | apply Kd.R_alloc | apply Kd.R_drewN | apply Kd.R_drew)); exact HO537.out) hb); have n2_ := Aside0.mk (Kd.R_below (by (with_reducible repeat (first | apply Kd.R_alloc | apply Kd.R_drewN | apply Kd.R_drew)); exact HO541.out) hb); have n3_ := Aside0.mk (Kd.R_below (by (with_reducible repeat (first | apply Kd.R_alloc | apply Kd.R_drewN | apply Kd.R_drew)); exact HO545.out) hb); have n4_ := Aside0.mk (Kd.R_lower ho0 (below_size (by repeat (first | (with_reducible first | exact HB.out | apply below_alloc | apply pw_below_drewN | apply below_drew1 | refine below_set ?_ GE527.out) | exact HB.out)))); have n5_ := Aside0.mk (blk_below (g := gb527) (o := .cells #[.slice A0_0 l0_0.length c0_0, .slice A0_1 l0_1.length c0_1, .slice A0_2 l0_2.length c0_2] 25 (0, 0)) (by (with_reducible repeat (first | refine blk_drewN ?_ _ | refine blk_drew ?_ | refine blk_alloc ?_ _)); exact BK527.out) hb); have n6_ := Aside0.mk (below_step (by repeat (first | (with_reducible first | exact HB.out | apply below_alloc | apply pw_below_drewN | apply below_drew1 | refine below_set ?_ GE527.out) | exact HB.out)) hb); clear HO533; clear HO537; clear HO541; clear HO545; clear BK527; clear HB; have HO533 := n0_; have HO537 := n1_; have HO541 := n2_; have HO545 := n3_; have HO549 := n4_; have BK527 := n5_; have HB := n6_; clear n0_ n1_ n2_ n3_ n4_ n5_ n6_; (try clear hb); (try clear hb2); (try clear hk); (try clear hi); (try clear ho0); have hcz42_0 : w41.cell? ⟨gb527, 0, none⟩ = some (.slice A0_0 l0_0.length c0_0) := (blk_cell BK527.out 0).trans rfl; have hcz42_1 : w41.cell? ⟨gb527, 1, none⟩ = some (.slice A0_1 l0_1.length c0_1) := (blk_cell BK527.out 1).trans rfl; have hcz42_2 : w41.cell? ⟨gb527, 2, none⟩ = some (.slice A0_2 l0_2.length c0_2) := (blk_cell BK527.out 2).trans rfl; have hfz42_0 := blk_frozen BK527.out 0; have hfz42_1 := blk_frozen BK527.out 1; have hfz42_2 := blk_frozen BK527.out 2) | ((with_reducible refine gate_callee (f := 15) rfl ?_); refine goesL_ (some 85) rfl rfl Try.func15 (by kernel_rfl) rfl #[.slice A0_0 l0_0.length c0_0, .slice A0_1 l0_1.length c0_1, .slice A0_2 l0_2.length c0_2] rfl (by (try simp only [List.map_toArray, List.map_cons, List.map_nil]); first | done | rfl | (simp only [List.length_drop, List.length_take]; rfl)) ?_; (with_reducible refine (ductusref27_Bytes.calls kj4 _ _ l0_0 _ _ l0_1 _ _ l0_2 t550 t551 _ ?side1 ?side2 ?side3 ?side4 ?side5 ?side6 A20.out).mono ?_); (case side1 => repeat (first | exact (Kd.C_below HR0_0.out HB.out) | (with_reducible refine Kd.C_alloc ?_ _) | (with_reducible refine Kd.C_drewN ?_ _) | (with_reducible refine Kd.C_drew ?_))); (case side2 => exact HC0_0.out); (case side3 => repeat (first | exact (Kd.C_below HR0_1.out HB.out) | (with_reducible refine Kd.C_alloc ?_ _) | (with_reducible refine Kd.C_drewN ?_ _) | (with_reducible refine Kd.C_drew ?_))); (case side4 => exact HC0_1.out); (case side5 => repeat (first | exact (Kd.C_below HR0_2.out HB.out) | (with_reducible refine Kd.C_alloc ?_ _) | (with_reducible refine Kd.C_drewN ?_ _) | (with_reducible refine Kd.C_drew ?_))); (case side6 => exact HC0_2.out); rintro e w43 ⟨v552, rfl, ho0, hb⟩; refine ⟨_, rfl, ?_⟩; have n0_ := Aside0.mk (Kd.R_below (by (with_reducible repeat (first | apply Kd.R_alloc | apply Kd.R_drewN | apply Kd.R_drew)); exact HO533.out) hb); have n1_ := Aside0.mk (Kd.R_below (by (with_reducible repeat (first | apply Kd.R_alloc | apply Kd.R_drewN | apply Kd.R_drew)); exact HO537.out) hb); have n2_ := Aside0.mk (Kd.R_below (by (with_reducible repeat (first | apply Kd.R_alloc | apply Kd.R_drewN | apply Kd.R_drew)); exact HO541.out) hb); have n3_ := Aside0.mk (Kd.R_below (by (with_reducible repeat (first | apply Kd.R_alloc | apply Kd.R_drewN | apply Kd.R_drew)); exact HO545.out) hb); have n4_ := Aside0.mk (Kd.R_elder' (by (with_reducible repeat (first | apply Kd.R_alloc | apply Kd.R_drewN | apply Kd.R_drew)); exact HO549.out) (Kd.R_base ho0) hb); have n5_ := Aside0.mk (Kd.R_lower (Kd.R_new' ho0 (Kd.R_lt (by (with_reducible repeat (first | apply Kd.R_alloc | apply Kd.R_drewN | apply Kd.R_drew)); exact HO549.out))) (below_size (by repeat (first | (with_reducible first | exact HB.out | apply below_alloc | apply pw_below_drewN | apply below_drew1 | refine below_set ?_ GE527.out) | exact HB.out)))); have n6_ := Aside0.mk (blk_below (g := gb527) (o := .cells #[.slice A0_0 l0_0.length c0_0, .slice A0_1 l0_1.length c0_1, .slice A0_2 l0_2.length c0_2] 25 (0, 0)) (by (with_reducible repeat (first | refine blk_drewN ?_ _ | refine blk_drew ?_ | refine blk_alloc ?_ _)); exact BK527.out) hb); have n7_ := Aside0.mk (below_step (by repeat (first | (with_reducible first | exact HB.out | apply below_alloc | apply pw_below_drewN | apply below_drew1 | refine below_set ?_ GE527.out) | exact HB.out)) hb); clear HO533; clear HO537; clear HO541; clear HO545; clear HO549; clear BK527; clear HB; have HO533 := n0_; have HO537 := n1_; have HO541 := n2_; have HO545 := n3_; have HO549 := n4_; have HO553 := n5_; have BK527 := n6_; have HB := n7_; clear n0_ n1_ n2_ n3_ n4_ n5_ n6_ n7_; (try clear hb); (try clear hb2); (try clear hk); (try clear hi); (try clear ho0); obtain ⟨Ao44, co44, eo44⟩ := Kd.R_slice HO533.out; subst eo44; obtain ⟨Ao45, co45, eo45⟩ := Kd.R_slice HO537.out; subst eo45; obtain ⟨Ao46, co46, eo46⟩ := Kd.R_slice HO541.out; subst eo46; obtain ⟨Ao47, co47, eo47⟩ := Kd.R_slice HO545.out; subst eo47))
      have n0_ := Aside0.mk (Kd.R_drew HO533.out)
      have n1_ := Aside0.mk (Kd.R_drew HO537.out)
      have n2_ := Aside0.mk (Kd.R_drew HO541.out)
      have n3_ := Aside0.mk (Kd.R_drew HO545.out)
      have n4_ := Aside0.mk (Kd.R_drew HO549.out)
      have n5_ := Aside0.mk (Kd.R_drew HO553.out)
      have n6_ := Aside0.mk (blk_drew BK527.out)
      have n7_ := Aside0.mk (below_drew1 HB.out)
      clear HO533
      clear HO537
      clear HO541
      clear HO545
      clear HO549
      clear HO553
      clear BK527
      clear HB
      have HO533 := n0_
      have HO537 := n1_
      have HO541 := n2_
      have HO545 := n3_
      have HO549 := n4_
      have HO553 := n5_
      have BK527 := n6_
      have HB := n7_
      clear n0_ n1_ n2_ n3_ n4_ n5_ n6_ n7_
      refine start_ (n := 40) (S := fun w' => w'.cell? ⟨gb527, 0, none⟩ = some (.slice A0_0 l0_0.length c0_0) ∧ w'.cell? ⟨gb527, 1, none⟩ = some (.slice A0_1 l0_1.length c0_1) ∧ w'.cell? ⟨gb527, 2, none⟩ = some (.slice A0_2 l0_2.length c0_2) ∧ (convert 32 9 v548).run Try.prog w' = .ok (.string (strOfNums t546)) w' ∧ (convert 32 9 v552).run Try.prog w' = .ok (.string (strOfNums t550)) w') (ds := []) #[false, false, false, false, false, false, false, false, false, false, false, false, false, false, false, false, false, false, false, false, false, false, false, false, false, false, false, false, false, false, false, false, false, false, false, false, false, false, false, false] (by kernel_rfl) rfl rfl ⟨(blk_cell BK527.out 0).trans rfl, (blk_cell BK527.out 1).trans rfl, (blk_cell BK527.out 2).trans rfl, CV27 (Kd.own_of_R HO549.out), CV27 (Kd.own_of_R HO553.out)⟩ (fun hHeld => ?_); refine with_tabW ductuslaw27_SwapAnswers.tab11 ductuslaw27_SwapAnswers.bits11 (fun HT_ HW_ => ?_)
      generalize w43.drew = w48 at HO533 HO537 HO541 HO545 HO549 HO553 BK527 HB hHeld ⊢
      refine pure_ (i := 0) (N := some 88) (v := ?_) (a' := ?_) #[true, false, false, false, false, false, false, false, false, false, false, false, false, false, false, false, false, false, false, false, false, false, false, false, false, false, false, false, false, false, false, false, false, false, false, false, false, false, false, false] rfl rfl (any_of HT_.out (by kernel_rfl)) (fun _ _ _ h => h) (Or.inl ⟨by rfl, ?_⟩) ?_ ?_
      rotate_left
      · intro w'
        go_simp
        with_reducible rfl
      rotate_left
      · simp only [Act.put, List.setIfInBounds_toArray, List.set_cons_zero, List.set_cons_succ, i64_w, i32_w]
        rfl
      refine pure_ (i := 1) (N := some 89) (v := ?_) (a' := ?_) #[true, true, false, false, false, false, false, false, false, false, false, false, false, false, false, false, false, false, false, false, false, false, false, false, false, false, false, false, false, false, false, false, false, false, false, false, false, false, false, false] rfl rfl (any_of HT_.out (by kernel_rfl)) (fun _ _ _ h => h) (Or.inl ⟨by rfl, ?_⟩) ?_ ?_
      rotate_left
      · intro w'
        go_simp
        with_reducible rfl
      rotate_left
      · simp only [Act.put, List.setIfInBounds_toArray, List.set_cons_zero, List.set_cons_succ, i64_w, i32_w]
        rfl
      refine one_ (i := 2) (N := some 90) #[true, true, true, false, false, false, false, false, false, false, false, false, false, false, false, false, false, false, false, false, false, false, false, false, false, false, false, false, false, false, false, false, false, false, false, false, false, false, false, false] rfl rfl (one_of HT_.out (by kernel_rfl)) (by decide) (fun K hK => ?_)
      refine goes_ Try.func16 (by kernel_rfl) rfl #[.slice Ao44 t530.length co44, .slice Ao45 t534.length co45] (by rfl) rfl rfl (by (try simp only [List.map_toArray, List.map_cons, List.map_nil]); first | done | rfl | (simp only [List.length_drop, List.length_take]; rfl)) ?_
      with_reducible refine (ductusref01_Ints.calls kj4 _ _ t530 _ _ t534 true _ ?side1 ?side2 ?side3 ?side4 A21.out).mono ?_
      (case side1 => repeat (first | exact (Kd.R_reads' HO533.out).2.2 | (with_reducible refine Kd.C_alloc ?_ _) | (with_reducible refine Kd.C_drewN ?_ _) | (with_reducible refine Kd.C_drew ?_)))
      (case side2 => exact (Kd.R_reads' HO533.out).2.1)
      (case side3 => repeat (first | exact (Kd.R_reads' HO537.out).2.2 | (with_reducible refine Kd.C_alloc ?_ _) | (with_reducible refine Kd.C_drewN ?_ _) | (with_reducible refine Kd.C_drew ?_)))
      (case side4 => exact (Kd.R_reads' HO537.out).2.1)
      rintro e w' ⟨rfl, ⟨nd, rfl⟩⟩
      refine ⟨_, rfl, ?_⟩
      refine hK.out _ _ ⟨(blk_cell BK527.out 0).trans rfl, (blk_cell BK527.out 1).trans rfl, (blk_cell BK527.out 2).trans rfl, CV27 (pw_own_drewN (Kd.own_of_R HO549.out) nd), CV27 (pw_own_drewN (Kd.own_of_R HO553.out) nd)⟩ (fun hHeld => ?_)
      clear hK K
      refine norm_ (a' := ?_) ?_ ?_
      rotate_left
      · show Act.put _ (some 90) _ = _
        simp only [Act.put, List.setIfInBounds_toArray, List.set_cons_zero, List.set_cons_succ, i64_w, i32_w]
        rfl
      refine pure_ (i := 3) (N := some 91) (v := ?_) (a' := ?_) #[true, true, true, true, false, false, false, false, false, false, false, false, false, false, false, false, false, false, false, false, false, false, false, false, false, false, false, false, false, false, false, false, false, false, false, false, false, false, false, false] rfl rfl (any_of HT_.out (by kernel_rfl)) (fun _ _ _ h => h) (Or.inl ⟨by rfl, ?_⟩) ?_ ?_
      rotate_left
      · intro w'
        go_simp
        with_reducible rfl
      rotate_left
      · simp only [Act.put, List.setIfInBounds_toArray, List.set_cons_zero, List.set_cons_succ, i64_w, i32_w]
        rfl
      refine pure_ (i := 4) (N := some 92) (v := ?_) (a' := ?_) #[true, true, true, true, true, false, false, false, false, false, false, false, false, false, false, false, false, false, false, false, false, false, false, false, false, false, false, false, false, false, false, false, false, false, false, false, false, false, false, false] rfl rfl (any_of HT_.out (by kernel_rfl)) (fun _ _ _ h => h) (Or.inl ⟨by rfl, ?_⟩) ?_ ?_
      rotate_left
      · intro w'
        go_simp
        with_reducible rfl
      rotate_left
      · simp only [Act.put, List.setIfInBounds_toArray, List.set_cons_zero, List.set_cons_succ, i64_w, i32_w]
        rfl
      refine pure_ (i := 5) (N := some 93) (v := ?_) (a' := ?_) #[true, true, true, true, true, true, false, false, false, false, false, false, false, false, false, false, false, false, false, false, false, false, false, false, false, false, false, false, false, false, false, false, false, false, false, false, false, false, false, false] rfl rfl (any_of HT_.out (by kernel_rfl)) (fun _ _ _ h => h) (Or.inl ⟨by rfl, ?_⟩) ?_ ?_
      rotate_left
      · intro w'
        go_simp
        with_reducible rfl
      rotate_left
      · simp only [Act.put, List.setIfInBounds_toArray, List.set_cons_zero, List.set_cons_succ, i64_w, i32_w]
        rfl
      refine pure_ (i := 6) (N := some 94) (v := ?_) (a' := ?_) #[true, true, true, true, true, true, true, false, false, false, false, false, false, false, false, false, false, false, false, false, false, false, false, false, false, false, false, false, false, false, false, false, false, false, false, false, false, false, false, false] rfl rfl (any_of HT_.out (by kernel_rfl)) (fun _ _ _ h => h) (Or.inl ⟨by rfl, ?_⟩) ?_ ?_
      rotate_left
      · intro w'
        go_simp
        with_reducible rfl
      rotate_left
      · simp only [Act.put, List.setIfInBounds_toArray, List.set_cons_zero, List.set_cons_succ, i64_w, i32_w]
        rfl
      refine pure_ (i := 7) (N := some 95) (v := ?_) (a' := ?_) #[true, true, true, true, true, true, true, true, false, false, false, false, false, false, false, false, false, false, false, false, false, false, false, false, false, false, false, false, false, false, false, false, false, false, false, false, false, false, false, false] rfl rfl (any_of HT_.out (by kernel_rfl)) (fun _ _ _ h => h) (Or.inl ⟨by rfl, ?_⟩) ?_ ?_
      rotate_left
      · intro w'
        go_simp
        with_reducible rfl
      rotate_left
      · simp only [Act.put, List.setIfInBounds_toArray, List.set_cons_zero, List.set_cons_succ, i64_w, i32_w]
        rfl
      refine pure_ (i := 8) (N := some 96) (v := ?_) (a' := ?_) #[true, true, true, true, true, true, true, true, true, false, false, false, false, false, false, false, false, false, false, false, false, false, false, false, false, false, false, false, false, false, false, false, false, false, false, false, false, false, false, false] rfl rfl (any_of HT_.out (by kernel_rfl)) (fun _ _ _ h => h) (Or.inl ⟨by rfl, ?_⟩) ?_ ?_
      rotate_left
      · intro w'
        go_simp
        with_reducible rfl
      rotate_left
      · simp only [Act.put, List.setIfInBounds_toArray, List.set_cons_zero, List.set_cons_succ, i64_w, i32_w]
        rfl
      refine pure_ (i := 9) (N := some 97) (v := ?_) (a' := ?_) #[true, true, true, true, true, true, true, true, true, true, false, false, false, false, false, false, false, false, false, false, false, false, false, false, false, false, false, false, false, false, false, false, false, false, false, false, false, false, false, false] rfl rfl (any_of HT_.out (by kernel_rfl)) (fun _ _ _ h => h) (Or.inl ⟨by rfl, ?_⟩) ?_ ?_
      rotate_left
      · intro w'
        go_simp
        with_reducible rfl
      rotate_left
      · simp only [Act.put, List.setIfInBounds_toArray, List.set_cons_zero, List.set_cons_succ, i64_w, i32_w]
        rfl
      refine pure_ (i := 10) (N := some 98) (v := ?_) (a' := ?_) #[true, true, true, true, true, true, true, true, true, true, true, false, false, false, false, false, false, false, false, false, false, false, false, false, false, false, false, false, false, false, false, false, false, false, false, false, false, false, false, false] rfl rfl (any_of HT_.out (by kernel_rfl)) (fun _ _ _ h => h) (Or.inl ⟨by rfl, ?_⟩) ?_ ?_
      rotate_left
      · intro w'
        go_simp
        with_reducible rfl
      rotate_left
      · simp only [Act.put, List.setIfInBounds_toArray, List.set_cons_zero, List.set_cons_succ, i64_w, i32_w]
        rfl
      refine one_ (i := 11) (N := some 99) #[true, true, true, true, true, true, true, true, true, true, true, true, false, false, false, false, false, false, false, false, false, false, false, false, false, false, false, false, false, false, false, false, false, false, false, false, false, false, false, false] rfl rfl (one_of HT_.out (by kernel_rfl)) (by decide) (fun K hK => ?_)
      refine goes_ Try.func16 (by kernel_rfl) rfl #[.slice Ao46 t538.length co46, .slice Ao47 t542.length co47] (by rfl) rfl rfl (by (try simp only [List.map_toArray, List.map_cons, List.map_nil]); first | done | rfl | (simp only [List.length_drop, List.length_take]; rfl)) ?_
      with_reducible refine (ductusref01_Ints.calls kj4 _ _ t538 _ _ t542 true _ ?side1 ?side2 ?side3 ?side4 A24.out).mono ?_
      (case side1 => repeat (first | exact (Kd.R_reads' HO541.out).2.2 | (with_reducible refine Kd.C_alloc ?_ _) | (with_reducible refine Kd.C_drewN ?_ _) | (with_reducible refine Kd.C_drew ?_)))
      (case side2 => exact (Kd.R_reads' HO541.out).2.1)
      (case side3 => repeat (first | exact (Kd.R_reads' HO545.out).2.2 | (with_reducible refine Kd.C_alloc ?_ _) | (with_reducible refine Kd.C_drewN ?_ _) | (with_reducible refine Kd.C_drew ?_)))
      (case side4 => exact (Kd.R_reads' HO545.out).2.1)
      rintro e w' ⟨rfl, ⟨nd, rfl⟩⟩
      refine ⟨_, rfl, ?_⟩
      refine hK.out _ _ ⟨(blk_cell BK527.out 0).trans rfl, (blk_cell BK527.out 1).trans rfl, (blk_cell BK527.out 2).trans rfl, CV27 (pw_own_drewN (Kd.own_of_R HO549.out) nd), CV27 (pw_own_drewN (Kd.own_of_R HO553.out) nd)⟩ (fun hHeld => ?_)
      clear hK K
      refine norm_ (a' := ?_) ?_ ?_
      rotate_left
      · show Act.put _ (some 99) _ = _
        simp only [Act.put, List.setIfInBounds_toArray, List.set_cons_zero, List.set_cons_succ, i64_w, i32_w]
        rfl
      refine pure_ (i := 12) (N := some 100) (v := ?_) (a' := ?_) #[true, true, true, true, true, true, true, true, true, true, true, true, true, false, false, false, false, false, false, false, false, false, false, false, false, false, false, false, false, false, false, false, false, false, false, false, false, false, false, false] rfl rfl (any_of HT_.out (by kernel_rfl)) (fun _ _ _ h => h) (Or.inl ⟨by rfl, ?_⟩) ?_ ?_
      rotate_left
      · intro w'
        go_simp
        with_reducible rfl
      rotate_left
      · simp only [Act.put, List.setIfInBounds_toArray, List.set_cons_zero, List.set_cons_succ, i64_w, i32_w]
        rfl
      refine pure_ (i := 13) (N := some 101) (v := ?_) (a' := ?_) #[true, true, true, true, true, true, true, true, true, true, true, true, true, true, false, false, false, false, false, false, false, false, false, false, false, false, false, false, false, false, false, false, false, false, false, false, false, false, false, false] rfl rfl (any_of HT_.out (by kernel_rfl)) (fun _ _ _ h => h) (Or.inl ⟨by rfl, ?_⟩) ?_ ?_
      rotate_left
      · intro w'
        go_simp
        with_reducible rfl
      rotate_left
      · simp only [Act.put, List.setIfInBounds_toArray, List.set_cons_zero, List.set_cons_succ, i64_w, i32_w]
        rfl
      refine pure_ (i := 14) (N := some 102) (v := ?_) (a' := ?_) #[true, true, true, true, true, true, true, true, true, true, true, true, true, true, true, false, false, false, false, false, false, false, false, false, false, false, false, false, false, false, false, false, false, false, false, false, false, false, false, false] rfl rfl (any_of HT_.out (by kernel_rfl)) (fun _ _ _ h => h) (Or.inl ⟨by rfl, ?_⟩) ?_ ?_
      rotate_left
      · intro w'
        go_simp
        with_reducible rfl
      rotate_left
      · simp only [Act.put, List.setIfInBounds_toArray, List.set_cons_zero, List.set_cons_succ, i64_w, i32_w]
        rfl
      refine pure_ (i := 15) (N := some 103) (v := ?_) (a' := ?_) #[true, true, true, true, true, true, true, true, true, true, true, true, true, true, true, true, false, false, false, false, false, false, false, false, false, false, false, false, false, false, false, false, false, false, false, false, false, false, false, false] rfl rfl (any_of HT_.out (by kernel_rfl)) (fun _ _ _ h => h) (Or.inl ⟨by rfl, ?_⟩) ?_ ?_
      rotate_left
      · intro w'
        go_simp
        with_reducible rfl
      rotate_left
      · simp only [Act.put, List.setIfInBounds_toArray, List.set_cons_zero, List.set_cons_succ, i64_w, i32_w]
        rfl
      refine pure_ (i := 16) (N := some 104) (v := ?_) (a' := ?_) #[true, true, true, true, true, true, true, true, true, true, true, true, true, true, true, true, true, false, false, false, false, false, false, false, false, false, false, false, false, false, false, false, false, false, false, false, false, false, false, false] rfl rfl (any_of HT_.out (by kernel_rfl)) (fun _ _ _ h => h) (Or.inl ⟨by rfl, ?_⟩) ?_ ?_
      rotate_left
      · intro w'
        go_simp
        with_reducible rfl
      rotate_left
      · simp only [Act.put, List.setIfInBounds_toArray, List.set_cons_zero, List.set_cons_succ, i64_w, i32_w]
        rfl
      refine pure_ (i := 17) (N := some 105) (v := ?_) (a' := ?_) #[true, true, true, true, true, true, true, true, true, true, true, true, true, true, true, true, true, true, false, false, false, false, false, false, false, false, false, false, false, false, false, false, false, false, false, false, false, false, false, false] rfl rfl (any_of HT_.out (by kernel_rfl)) (fun _ _ _ h => h) (Or.inl ⟨by rfl, ?_⟩) ?_ ?_
      rotate_left
      · intro w'
        go_simp
        with_reducible rfl
      rotate_left
      · simp only [Act.put, List.setIfInBounds_toArray, List.set_cons_zero, List.set_cons_succ, i64_w, i32_w]
        rfl
      refine pure_ (i := 18) (N := some 106) (v := ?_) (a' := ?_) #[true, true, true, true, true, true, true, true, true, true, true, true, true, true, true, true, true, true, true, false, false, false, false, false, false, false, false, false, false, false, false, false, false, false, false, false, false, false, false, false] rfl rfl (any_of HT_.out (by kernel_rfl)) (fun _ _ _ h => h) (Or.inl ⟨by rfl, ?_⟩) ?_ ?_
      rotate_left
      · intro w'
        go_simp
        with_reducible rfl
      rotate_left
      · simp only [Act.put, List.setIfInBounds_toArray, List.set_cons_zero, List.set_cons_succ, i64_w, i32_w]
        rfl
      refine pure_ (i := 19) (N := some 107) (v := ?_) (a' := ?_) #[true, true, true, true, true, true, true, true, true, true, true, true, true, true, true, true, true, true, true, true, false, false, false, false, false, false, false, false, false, false, false, false, false, false, false, false, false, false, false, false] rfl rfl (any_of HT_.out (by kernel_rfl)) (fun _ _ _ h => h) (Or.inl ⟨by rfl, ?_⟩) ?_ ?_
      rotate_left
      · intro w'
        go_simp
        with_reducible rfl
      rotate_left
      · simp only [Act.put, List.setIfInBounds_toArray, List.set_cons_zero, List.set_cons_succ, i64_w, i32_w]
        rfl
      refine take_ (i := 20) (N := some 108) (v := ?_) (a' := ?_) #[true, true, true, true, true, true, true, true, true, true, true, true, true, true, true, true, true, true, true, true, true, false, false, false, false, false, false, false, false, false, false, false, false, false, false, false, false, false, false, false] rfl rfl (take_ofW HT_.out HW_.out (by kernel_rfl)) (fun _ _ _ h => h) (Or.inl ⟨by rfl, ?_⟩) hHeld ?_ ?_
      rotate_left
      · rintro w' ⟨s0, s1, s2, s3, s4⟩
        go_simp
        with_reducible rfl
      rotate_left
      · simp only [Act.put, List.setIfInBounds_toArray, List.set_cons_zero, List.set_cons_succ, i64_w, i32_w]
        rfl
      refine pure_ (i := 21) (N := some 109) (v := ?_) (a' := ?_) #[true, true, true, true, true, true, true, true, true, true, true, true, true, true, true, true, true, true, true, true, true, true, false, false, false, false, false, false, false, false, false, false, false, false, false, false, false, false, false, false] rfl rfl (any_of HT_.out (by kernel_rfl)) (fun _ _ _ h => h) (Or.inl ⟨by rfl, ?_⟩) ?_ ?_
      rotate_left
      · intro w'
        go_simp
        with_reducible rfl
      rotate_left
      · simp only [Act.put, List.setIfInBounds_toArray, List.set_cons_zero, List.set_cons_succ, i64_w, i32_w]
        rfl
      refine take_ (i := 22) (N := some 110) (v := ?_) (a' := ?_) #[true, true, true, true, true, true, true, true, true, true, true, true, true, true, true, true, true, true, true, true, true, true, true, false, false, false, false, false, false, false, false, false, false, false, false, false, false, false, false, false] rfl rfl (take_ofW HT_.out HW_.out (by kernel_rfl)) (fun _ _ _ h => h) (Or.inl ⟨by rfl, ?_⟩) hHeld ?_ ?_
      rotate_left
      · rintro w' ⟨s0, s1, s2, s3, s4⟩
        go_simp
        with_reducible rfl
      rotate_left
      · simp only [Act.put, List.setIfInBounds_toArray, List.set_cons_zero, List.set_cons_succ, i64_w, i32_w]
        rfl
      refine pure_ (i := 23) (N := some 111) (v := ?_) (a' := ?_) #[true, true, true, true, true, true, true, true, true, true, true, true, true, true, true, true, true, true, true, true, true, true, true, true, false, false, false, false, false, false, false, false, false, false, false, false, false, false, false, false] rfl rfl (any_of HT_.out (by kernel_rfl)) (fun _ _ _ h => h) (Or.inl ⟨by rfl, ?_⟩) ?_ ?_
      rotate_left
      · intro w'
        go_simp
        with_reducible rfl
      rotate_left
      · simp only [Act.put, List.setIfInBounds_toArray, List.set_cons_zero, List.set_cons_succ, i64_w, i32_w]
        rfl
      refine pure_ (i := 24) (N := some 112) (v := ?_) (a' := ?_) #[true, true, true, true, true, true, true, true, true, true, true, true, true, true, true, true, true, true, true, true, true, true, true, true, true, false, false, false, false, false, false, false, false, false, false, false, false, false, false, false] rfl rfl (any_of HT_.out (by kernel_rfl)) (fun _ _ _ h => h) (Or.inl ⟨by rfl, ?_⟩) ?_ ?_
      rotate_left
      · intro w'
        go_simp
        with_reducible rfl
      rotate_left
      · simp only [Act.put, List.setIfInBounds_toArray, List.set_cons_zero, List.set_cons_succ, i64_w, i32_w]
        rfl
      refine pure_ (i := 25) (N := some 113) (v := ?_) (a' := ?_) #[true, true, true, true, true, true, true, true, true, true, true, true, true, true, true, true, true, true, true, true, true, true, true, true, true, true, false, false, false, false, false, false, false, false, false, false, false, false, false, false] rfl rfl (any_of HT_.out (by kernel_rfl)) (fun _ _ _ h => h) (Or.inl ⟨by rfl, ?_⟩) ?_ ?_
      rotate_left
      · intro w'
        go_simp
        with_reducible rfl
      rotate_left
      · simp only [Act.put, List.setIfInBounds_toArray, List.set_cons_zero, List.set_cons_succ, i64_w, i32_w]
        rfl
      refine pure_ (i := 26) (N := some 114) (v := ?_) (a' := ?_) #[true, true, true, true, true, true, true, true, true, true, true, true, true, true, true, true, true, true, true, true, true, true, true, true, true, true, true, false, false, false, false, false, false, false, false, false, false, false, false, false] rfl rfl (any_of HT_.out (by kernel_rfl)) (fun _ _ _ h => h) (Or.inl ⟨by rfl, ?_⟩) ?_ ?_
      rotate_left
      · intro w'
        go_simp
        with_reducible rfl
      rotate_left
      · simp only [Act.put, List.setIfInBounds_toArray, List.set_cons_zero, List.set_cons_succ, i64_w, i32_w]
        rfl
      refine pure_ (i := 27) (N := some 115) (v := ?_) (a' := ?_) #[true, true, true, true, true, true, true, true, true, true, true, true, true, true, true, true, true, true, true, true, true, true, true, true, true, true, true, true, false, false, false, false, false, false, false, false, false, false, false, false] rfl rfl (any_of HT_.out (by kernel_rfl)) (fun _ _ _ h => h) (Or.inl ⟨by rfl, ?_⟩) ?_ ?_
      rotate_left
      · intro w'
        go_simp
        with_reducible rfl
      rotate_left
      · simp only [Act.put, List.setIfInBounds_toArray, List.set_cons_zero, List.set_cons_succ, i64_w, i32_w]
        rfl
      refine pure_ (i := 28) (N := some 116) (v := ?_) (a' := ?_) #[true, true, true, true, true, true, true, true, true, true, true, true, true, true, true, true, true, true, true, true, true, true, true, true, true, true, true, true, true, false, false, false, false, false, false, false, false, false, false, false] rfl rfl (any_of HT_.out (by kernel_rfl)) (fun _ _ _ h => h) (Or.inl ⟨by rfl, ?_⟩) ?_ ?_
      rotate_left
      · intro w'
        go_simp
        with_reducible rfl
      rotate_left
      · simp only [Act.put, List.setIfInBounds_toArray, List.set_cons_zero, List.set_cons_succ, i64_w, i32_w]
        rfl
      refine pure_ (i := 29) (N := some 117) (v := ?_) (a' := ?_) #[true, true, true, true, true, true, true, true, true, true, true, true, true, true, true, true, true, true, true, true, true, true, true, true, true, true, true, true, true, true, false, false, false, false, false, false, false, false, false, false] rfl rfl (any_of HT_.out (by kernel_rfl)) (fun _ _ _ h => h) (Or.inl ⟨by rfl, ?_⟩) ?_ ?_
      rotate_left
      · intro w'
        go_simp
        with_reducible rfl
      rotate_left
      · simp only [Act.put, List.setIfInBounds_toArray, List.set_cons_zero, List.set_cons_succ, i64_w, i32_w]
        rfl
      refine pure_ (i := 30) (N := some 118) (v := ?_) (a' := ?_) #[true, true, true, true, true, true, true, true, true, true, true, true, true, true, true, true, true, true, true, true, true, true, true, true, true, true, true, true, true, true, true, false, false, false, false, false, false, false, false, false] rfl rfl (any_of HT_.out (by kernel_rfl)) (fun _ _ _ h => h) (Or.inl ⟨by rfl, ?_⟩) ?_ ?_
      rotate_left
      · intro w'
        go_simp
        with_reducible rfl
      rotate_left
      · simp only [Act.put, List.setIfInBounds_toArray, List.set_cons_zero, List.set_cons_succ, i64_w, i32_w]
        rfl
      refine pure_ (i := 31) (N := some 119) (v := ?_) (a' := ?_) #[true, true, true, true, true, true, true, true, true, true, true, true, true, true, true, true, true, true, true, true, true, true, true, true, true, true, true, true, true, true, true, true, false, false, false, false, false, false, false, false] rfl rfl (any_of HT_.out (by kernel_rfl)) (fun _ _ _ h => h) (Or.inl ⟨by rfl, ?_⟩) ?_ ?_
      rotate_left
      · intro w'
        go_simp
        with_reducible rfl
      rotate_left
      · simp only [Act.put, List.setIfInBounds_toArray, List.set_cons_zero, List.set_cons_succ, i64_w, i32_w]
        rfl
      refine pure_ (i := 34) (N := some 122) (v := ?_) (a' := ?_) #[true, true, true, true, true, true, true, true, true, true, true, true, true, true, true, true, true, true, true, true, true, true, true, true, true, true, true, true, true, true, true, true, false, false, true, false, false, false, false, false] rfl rfl (any_of HT_.out (by kernel_rfl)) (fun _ _ _ h => h) (Or.inl ⟨by rfl, ?_⟩) ?_ ?_
      rotate_left
      · intro w'
        go_simp
        with_reducible rfl
      rotate_left
      · simp only [Act.put, List.setIfInBounds_toArray, List.set_cons_zero, List.set_cons_succ, i64_w, i32_w]
        rfl
      refine take_ (i := 32) (N := some 120) (v := ?_) (a' := ?_) #[true, true, true, true, true, true, true, true, true, true, true, true, true, true, true, true, true, true, true, true, true, true, true, true, true, true, true, true, true, true, true, true, true, false, true, false, false, false, false, false] rfl rfl (take_ofW HT_.out HW_.out (by kernel_rfl)) (fun _ _ _ h => h) (Or.inl ⟨by rfl, ?_⟩) hHeld ?_ ?_
      rotate_left
      · rintro w' ⟨s0, s1, s2, s3, s4⟩
        go_simp
        with_reducible rfl
      rotate_left
      · simp only [Act.put, List.setIfInBounds_toArray, List.set_cons_zero, List.set_cons_succ, i64_w, i32_w]
        rfl
      refine take_ (i := 35) (N := some 123) (v := ?_) (a' := ?_) #[true, true, true, true, true, true, true, true, true, true, true, true, true, true, true, true, true, true, true, true, true, true, true, true, true, true, true, true, true, true, true, true, true, false, true, true, false, false, false, false] rfl rfl (take_ofW HT_.out HW_.out (by kernel_rfl)) (fun _ _ _ h => h) (Or.inl ⟨by rfl, ?_⟩) hHeld ?_ ?_
      rotate_left
      · rintro w' ⟨s0, s1, s2, s3, s4⟩
        go_simp
        with_reducible rfl
      rotate_left
      · simp only [Act.put, List.setIfInBounds_toArray, List.set_cons_zero, List.set_cons_succ, i64_w, i32_w]
        rfl
      refine one_ (i := 33) (N := some 121) #[true, true, true, true, true, true, true, true, true, true, true, true, true, true, true, true, true, true, true, true, true, true, true, true, true, true, true, true, true, true, true, true, true, true, true, true, false, false, false, false] rfl rfl (one_of HT_.out (by kernel_rfl)) (by decide) (fun K hK => ?_)
      refine goes_ Try.func17 (by kernel_rfl) rfl #[.slice A0_0 l0_0.length c0_0] (by rfl) rfl rfl (by (try simp only [List.map_toArray, List.map_cons, List.map_nil]); first | done | rfl | (simp only [List.length_drop, List.length_take]; rfl)) ?_
      with_reducible refine (swap_Plain.calls _ _ l0_0 t556 _ ?side1 ?side2 A29.out).mono ?_
      (case side1 => repeat (first | exact (Kd.C_below HR0_0.out HB.out) | (with_reducible refine Kd.C_alloc ?_ _) | (with_reducible refine Kd.C_drewN ?_ _) | (with_reducible refine Kd.C_drew ?_)))
      (case side2 => exact HC0_0.out)
      rintro e w52 ⟨v557, rfl, ho0, hb⟩
      refine ⟨_, rfl, ?_⟩
      have n0_ := Aside0.mk (Kd.R_elder' (by (with_reducible repeat (first | apply Kd.R_alloc | apply Kd.R_drewN | apply Kd.R_drew)); exact HO533.out) (Kd.R_base ho0) hb)
      have n1_ := Aside0.mk (Kd.R_elder' (by (with_reducible repeat (first | apply Kd.R_alloc | apply Kd.R_drewN | apply Kd.R_drew)); exact HO537.out) (Kd.R_base ho0) hb)
      have n2_ := Aside0.mk (Kd.R_elder' (by (with_reducible repeat (first | apply Kd.R_alloc | apply Kd.R_drewN | apply Kd.R_drew)); exact HO541.out) (Kd.R_base ho0) hb)
      have n3_ := Aside0.mk (Kd.R_elder' (by (with_reducible repeat (first | apply Kd.R_alloc | apply Kd.R_drewN | apply Kd.R_drew)); exact HO545.out) (Kd.R_base ho0) hb)
      have n4_ := Aside0.mk (Kd.R_below (by (with_reducible repeat (first | apply Kd.R_alloc | apply Kd.R_drewN | apply Kd.R_drew)); exact HO549.out) hb)
      have n5_ := Aside0.mk (Kd.R_below (by (with_reducible repeat (first | apply Kd.R_alloc | apply Kd.R_drewN | apply Kd.R_drew)); exact HO553.out) hb)
      have n6_ := Aside0.mk (Kd.R_lower (Kd.R_new' (Kd.R_new' (Kd.R_new' (Kd.R_new' ho0 (Kd.R_lt (by (with_reducible repeat (first | apply Kd.R_alloc | apply Kd.R_drewN | apply Kd.R_drew)); exact HO533.out))) (Kd.R_lt (by (with_reducible repeat (first | apply Kd.R_alloc | apply Kd.R_drewN | apply Kd.R_drew)); exact HO537.out))) (Kd.R_lt (by (with_reducible repeat (first | apply Kd.R_alloc | apply Kd.R_drewN | apply Kd.R_drew)); exact HO541.out))) (Kd.R_lt (by (with_reducible repeat (first | apply Kd.R_alloc | apply Kd.R_drewN | apply Kd.R_drew)); exact HO545.out))) (below_size (by repeat (first | (with_reducible first | exact HB.out | apply below_alloc | apply pw_below_drewN | apply below_drew1 | refine below_set ?_ GE527.out) | exact HB.out))))
      have n7_ := Aside0.mk (blk_below (g := gb527) (o := .cells #[.slice A0_0 l0_0.length c0_0, .slice A0_1 l0_1.length c0_1, .slice A0_2 l0_2.length c0_2] 25 (0, 0)) (by (with_reducible repeat (first | refine blk_drewN ?_ _ | refine blk_drew ?_ | refine blk_alloc ?_ _)); exact BK527.out) hb)
      have n8_ := Aside0.mk (below_step (by repeat (first | (with_reducible first | exact HB.out | apply below_alloc | apply pw_below_drewN | apply below_drew1 | refine below_set ?_ GE527.out) | exact HB.out)) hb)
      clear HO533
      clear HO537
      clear HO541
      clear HO545
      clear HO549
      clear HO553
      clear BK527
      clear HB
      have HO533 := n0_
      have HO537 := n1_
      have HO541 := n2_
      have HO545 := n3_
      have HO549 := n4_
      have HO553 := n5_
      have HO558 := n6_
      have BK527 := n7_
      have HB := n8_
      clear n0_ n1_ n2_ n3_ n4_ n5_ n6_ n7_ n8_
      (try clear hb)
      (try clear hb2)
      (try clear hk)
      (try clear hi)
      (try clear ho0)
      refine hK.out _ _ ⟨(blk_cell BK527.out 0).trans rfl, (blk_cell BK527.out 1).trans rfl, (blk_cell BK527.out 2).trans rfl, CV27 (Kd.own_of_R HO549.out), CV27 (Kd.own_of_R HO553.out)⟩ (fun hHeld => ?_)
      clear hK K
      refine norm_ (a' := ?_) ?_ ?_
      rotate_left
      · show Act.put _ (some 121) _ = _
        simp only [Act.put, List.setIfInBounds_toArray, List.set_cons_zero, List.set_cons_succ, i64_w, i32_w]
        rfl
      refine one_ (i := 36) (N := some 124) #[true, true, true, true, true, true, true, true, true, true, true, true, true, true, true, true, true, true, true, true, true, true, true, true, true, true, true, true, true, true, true, true, true, true, true, true, true, false, false, false] rfl rfl (one_of HT_.out (by kernel_rfl)) (by decide) (fun K hK => ?_)
      refine goes_ Try.func18 (by kernel_rfl) rfl #[.slice A0_0 l0_0.length c0_0] (by rfl) rfl rfl (by (try simp only [List.map_toArray, List.map_cons, List.map_nil]); first | done | rfl | (simp only [List.length_drop, List.length_take]; rfl)) ?_
      with_reducible refine (ductusref27_Plain.calls kj4 _ _ l0_0 t559 _ ?side1 ?side2 A30.out).mono ?_
      (case side1 => repeat (first | exact (Kd.C_below HR0_0.out HB.out) | (with_reducible refine Kd.C_alloc ?_ _) | (with_reducible refine Kd.C_drewN ?_ _) | (with_reducible refine Kd.C_drew ?_)))
      (case side2 => exact HC0_0.out)
      rintro e w53 ⟨v560, rfl, ho0, hb⟩
      refine ⟨_, rfl, ?_⟩
      have n0_ := Aside0.mk (Kd.R_elder' (by (with_reducible repeat (first | apply Kd.R_alloc | apply Kd.R_drewN | apply Kd.R_drew)); exact HO533.out) (Kd.R_base ho0) hb)
      have n1_ := Aside0.mk (Kd.R_elder' (by (with_reducible repeat (first | apply Kd.R_alloc | apply Kd.R_drewN | apply Kd.R_drew)); exact HO537.out) (Kd.R_base ho0) hb)
      have n2_ := Aside0.mk (Kd.R_elder' (by (with_reducible repeat (first | apply Kd.R_alloc | apply Kd.R_drewN | apply Kd.R_drew)); exact HO541.out) (Kd.R_base ho0) hb)
      have n3_ := Aside0.mk (Kd.R_elder' (by (with_reducible repeat (first | apply Kd.R_alloc | apply Kd.R_drewN | apply Kd.R_drew)); exact HO545.out) (Kd.R_base ho0) hb)
      have n4_ := Aside0.mk (Kd.R_below (by (with_reducible repeat (first | apply Kd.R_alloc | apply Kd.R_drewN | apply Kd.R_drew)); exact HO549.out) hb)
      have n5_ := Aside0.mk (Kd.R_below (by (with_reducible repeat (first | apply Kd.R_alloc | apply Kd.R_drewN | apply Kd.R_drew)); exact HO553.out) hb)
      have n6_ := Aside0.mk (Kd.R_elder' (by (with_reducible repeat (first | apply Kd.R_alloc | apply Kd.R_drewN | apply Kd.R_drew)); exact HO558.out) (Kd.R_base ho0) hb)
      have n7_ := Aside0.mk (Kd.R_lower (Kd.R_new' (Kd.R_new' (Kd.R_new' (Kd.R_new' (Kd.R_new' ho0 (Kd.R_lt (by (with_reducible repeat (first | apply Kd.R_alloc | apply Kd.R_drewN | apply Kd.R_drew)); exact HO533.out))) (Kd.R_lt (by (with_reducible repeat (first | apply Kd.R_alloc | apply Kd.R_drewN | apply Kd.R_drew)); exact HO537.out))) (Kd.R_lt (by (with_reducible repeat (first | apply Kd.R_alloc | apply Kd.R_drewN | apply Kd.R_drew)); exact HO541.out))) (Kd.R_lt (by (with_reducible repeat (first | apply Kd.R_alloc | apply Kd.R_drewN | apply Kd.R_drew)); exact HO545.out))) (Kd.R_lt (by (with_reducible repeat (first | apply Kd.R_alloc | apply Kd.R_drewN | apply Kd.R_drew)); exact HO558.out))) (below_size (by repeat (first | (with_reducible first | exact HB.out | apply below_alloc | apply pw_below_drewN | apply below_drew1 | refine below_set ?_ GE527.out) | exact HB.out))))
      have n8_ := Aside0.mk (blk_below (g := gb527) (o := .cells #[.slice A0_0 l0_0.length c0_0, .slice A0_1 l0_1.length c0_1, .slice A0_2 l0_2.length c0_2] 25 (0, 0)) (by (with_reducible repeat (first | refine blk_drewN ?_ _ | refine blk_drew ?_ | refine blk_alloc ?_ _)); exact BK527.out) hb)
      have n9_ := Aside0.mk (below_step (by repeat (first | (with_reducible first | exact HB.out | apply below_alloc | apply pw_below_drewN | apply below_drew1 | refine below_set ?_ GE527.out) | exact HB.out)) hb)
      clear HO533
      clear HO537
      clear HO541
      clear HO545
      clear HO549
      clear HO553
      clear HO558
      clear BK527
      clear HB
      have HO533 := n0_
      have HO537 := n1_
      have HO541 := n2_
      have HO545 := n3_
      have HO549 := n4_
      have HO553 := n5_
      have HO558 := n6_
      have HO561 := n7_
      have BK527 := n8_
      have HB := n9_
      clear n0_ n1_ n2_ n3_ n4_ n5_ n6_ n7_ n8_ n9_
      (try clear hb)
      (try clear hb2)
      (try clear hk)
      (try clear hi)
      (try clear ho0)
      obtain ⟨Ao54, co54, eo54⟩ := Kd.R_slice HO558.out
      (first | subst eo54 | (injection eo54 with f1_ f2_ f3_; have f4_ := f1_.symm; have f5_ := f3_.symm; clear f1_ f2_ f3_; subst f4_; subst f5_))
      obtain ⟨Ao55, co55, eo55⟩ := Kd.R_slice HO561.out
      (first | subst eo55 | (injection eo55 with f1_ f2_ f3_; have f4_ := f1_.symm; have f5_ := f3_.symm; clear f1_ f2_ f3_; subst f4_; subst f5_))
      refine hK.out _ _ ⟨(blk_cell BK527.out 0).trans rfl, (blk_cell BK527.out 1).trans rfl, (blk_cell BK527.out 2).trans rfl, CV27 (Kd.own_of_R HO549.out), CV27 (Kd.own_of_R HO553.out)⟩ (fun hHeld => ?_)
      clear hK K
      refine norm_ (a' := ?_) ?_ ?_
      rotate_left
      · show Act.put _ (some 124) _ = _
        simp only [Act.put, List.setIfInBounds_toArray, List.set_cons_zero, List.set_cons_succ, i64_w, i32_w]
        rfl
      refine one_ (i := 37) (N := some 125) #[true, true, true, true, true, true, true, true, true, true, true, true, true, true, true, true, true, true, true, true, true, true, true, true, true, true, true, true, true, true, true, true, true, true, true, true, true, true, false, false] rfl rfl (one_of HT_.out (by kernel_rfl)) (by decide) (fun K hK => ?_)
      refine goes_ Try.func16 (by kernel_rfl) rfl #[.slice Ao54 t556.length co54, .slice Ao55 t559.length co55] (by rfl) rfl rfl (by (try simp only [List.map_toArray, List.map_cons, List.map_nil]); first | done | rfl | (simp only [List.length_drop, List.length_take]; rfl)) ?_
      with_reducible refine (ductusref01_Ints.calls kj4 _ _ t556 _ _ t559 t562 _ ?side1 ?side2 ?side3 ?side4 A31.out).mono ?_
      (case side1 => repeat (first | exact (Kd.R_reads' HO558.out).2.2 | (with_reducible refine Kd.C_alloc ?_ _) | (with_reducible refine Kd.C_drewN ?_ _) | (with_reducible refine Kd.C_drew ?_)))
      (case side2 => exact (Kd.R_reads' HO558.out).2.1)
      (case side3 => repeat (first | exact (Kd.R_reads' HO561.out).2.2 | (with_reducible refine Kd.C_alloc ?_ _) | (with_reducible refine Kd.C_drewN ?_ _) | (with_reducible refine Kd.C_drew ?_)))
      (case side4 => exact (Kd.R_reads' HO561.out).2.1)
      rintro e w' ⟨rfl, ⟨nd, rfl⟩⟩
      refine ⟨_, rfl, ?_⟩
      refine hK.out _ _ ⟨(blk_cell BK527.out 0).trans rfl, (blk_cell BK527.out 1).trans rfl, (blk_cell BK527.out 2).trans rfl, CV27 (pw_own_drewN (Kd.own_of_R HO549.out) nd), CV27 (pw_own_drewN (Kd.own_of_R HO553.out) nd)⟩ (fun hHeld => ?_)
      clear hK K
      refine norm_ (a' := ?_) ?_ ?_
      rotate_left
      · show Act.put _ (some 125) _ = _
        simp only [Act.put, List.setIfInBounds_toArray, List.set_cons_zero, List.set_cons_succ, i64_w, i32_w]
        rfl
      refine pure_ (i := 38) (N := some 126) (v := ?_) (a' := ?_) #[true, true, true, true, true, true, true, true, true, true, true, true, true, true, true, true, true, true, true, true, true, true, true, true, true, true, true, true, true, true, true, true, true, true, true, true, true, true, true, false] rfl rfl (any_of HT_.out (by kernel_rfl)) (fun _ _ _ h => h) (Or.inl ⟨by rfl, ?_⟩) ?_ ?_
      rotate_left
      · intro w'
        go_simp
        with_reducible rfl
      rotate_left
      · simp only [Act.put, List.setIfInBounds_toArray, List.set_cons_zero, List.set_cons_succ, i64_w, i32_w]
        rfl
      refine pure_ (i := 39) (N := some 4) (v := ?_) (a' := ?_) #[true, true, true, true, true, true, true, true, true, true, true, true, true, true, true, true, true, true, true, true, true, true, true, true, true, true, true, true, true, true, true, true, true, true, true, true, true, true, true, true] rfl rfl (any_of HT_.out (by kernel_rfl)) (fun _ _ _ h => h) (Or.inl ⟨by rfl, ?_⟩) ?_ ?_
      rotate_left
      · intro w'
        go_simp
        with_reducible rfl
      rotate_left
      · simp only [Act.put, List.setIfInBounds_toArray, List.set_cons_zero, List.set_cons_succ, i64_w, i32_w]
        rfl
      refine done_ (done_of HT_.out (by kernel_rfl)) ?_
      try go_wp2
      go_ret
      exact ⟨by first | rfl | (simp [errW_none, errW_some] <;> rfl) | (simp [*, errW_none, errW_some] <;> rfl), by repeat (first | (with_reducible first | exact HB.out | apply below_alloc | apply pw_below_drewN | apply below_drew1 | refine below_set ?_ GE527.out) | exact HB.out)⟩

end Go.Proofs.Ythgmkbghdobmlaa.P
namespace Go.Proofs.Ythgmkbghdobmlaa.P
open Go.RowKit Go.Proofs.YthgmkbghdobmlaaW.PrintWords Go.Proofs.YthgmkbghdobmlaaW.PrintLast
set_option linter.unusedVariables false

theorem ints_loop (a b : List Int) (hl : a.length = b.length) (hn : a.length < 9223372036854775807) (d : Nat) : ∀ (k i : Nat), i ≤ a.length → a.length - i = d → d < k →
    ductusref01_Ints.l0 k a b (i : Int) = some (decide (a.drop i = b.drop i)) := by
  induction d with
  | zero =>
    intro k i hi hd hk
    obtain ⟨k, rfl⟩ : ∃ m, k = m + 1 := ⟨k - 1, by omega⟩
    simp only [ductusref01_Ints.l0]
    rw [if_neg (by omega), List.drop_eq_nil_of_le (by omega), List.drop_eq_nil_of_le (by omega)]
    simp
  | succ d ih =>
    intro k i hi hd hk
    obtain ⟨k, rfl⟩ : ∃ m, k = m + 1 := ⟨k - 1, by omega⟩
    simp only [ductusref01_Ints.l0]
    rw [if_pos (by omega), if_pos (by omega), if_pos (by omega), wrap_succ i (by omega), drop_cons a i (by omega), drop_cons b i (by omega)]
    by_cases h : rd a i = rd b i
    · rw [if_pos h, ih k (i + 1) (by omega) (by omega) (by omega), h]
      simp
    · rw [if_neg h]
      simp [h]
theorem ints_eq (k : Nat) (a b : List Int) (hn : a.length < 9223372036854775807) (hk : a.length < k) : ductusref01_Ints.f k a b = some (decide (a = b)) := by
  unfold ductusref01_Ints.f
  by_cases h : a.length = b.length
  · rw [if_pos (by omega)]
    have := ints_loop a b h hn a.length k 0 (by omega) (by omega) hk
    simpa using this
  · rw [if_neg (by omega)]
    have : ¬ a = b := fun e => h (by rw [e])
    simp [this]
theorem ints_same (k : Nat) (a : List Int) (hn : a.length < 9223372036854775807) (hk : a.length < k) : ductusref01_Ints.f k a a = some true := by
  rw [ints_eq k a a hn hk]
  simp

end Go.Proofs.Ythgmkbghdobmlaa.P
namespace Go.Proofs.Ythgmkbghdobmlaa.P
open Go.RowKit Go.Proofs.YthgmkbghdobmlaaW.PrintWords Go.Proofs.YthgmkbghdobmlaaW.PrintLast
set_option linter.unusedVariables false

/-- The places of those that a test lets. -/
def placesOf (p : Int → Bool) : Nat → List Int → List Int
  | _, [] => []
  | i, c :: l => if p c then (i : Int) :: placesOf p (i + 1) l else placesOf p (i + 1) l
theorem places_len (p : Int → Bool) : ∀ (i : Nat) (l : List Int), (placesOf p i l).length = (l.filter p).length
  | _, [] => rfl
  | i, c :: l => by
    simp only [placesOf, List.filter_cons]
    split <;> simp [places_len p (i + 1) l]
theorem places_mem (p : Int → Bool) : ∀ (i : Nat) (l : List Int) (x : Int), x ∈ placesOf p i l → (i : Int) ≤ x ∧ x < ((i + l.length : Nat) : Int)
  | _, [], _, h => by simp [placesOf] at h
  | i, c :: l, x, h => by
    simp only [placesOf] at h
    have h2 : ∀ x ∈ placesOf p (i + 1) l, (i : Int) ≤ x ∧ x < ((i + (l.length + 1) : Nat) : Int) := fun x hx => by
      have := places_mem p (i + 1) l x hx
      omega
    simp only [List.length_cons]
    split at h
    · rcases List.mem_cons.1 h with rfl | h
      · omega
      · exact h2 x h
    · exact h2 x h
theorem places_up (p : Int → Bool) : ∀ (i : Nat) (l : List Int), List.Pairwise (· < ·) (placesOf p i l)
  | _, [] => List.Pairwise.nil
  | i, c :: l => by
    simp only [placesOf]
    split
    · refine List.pairwise_cons.2 ⟨fun x hx => ?_, places_up p (i + 1) l⟩
      have := places_mem p (i + 1) l x hx
      omega
    · exact places_up p (i + 1) l
end Go.Proofs.Ythgmkbghdobmlaa.P
namespace Go.Proofs.Ythgmkbghdobmlaa.P
open Go.RowKit Go.Proofs.YthgmkbghdobmlaaW.PrintWords Go.Proofs.YthgmkbghdobmlaaW.PrintLast Go.Proofs.YthgmkbghdobmlaaW.PrintMore
set_option linter.unusedVariables false
set_option linter.unusedSimpArgs false

def mkeys : List Int := [40, 41, 91, 93, 123, 125, 9001, 9002, 12296, 12297, 12298, 12299, 12300, 12301, 12302, 12303, 12304, 12305, 60, 62, 171, 187, 8804, 8805, 8810, 8811]
def mtbl : List (Int × Int) := [(40, 41), (41, 40), (91, 93), (93, 91), (123, 125), (125, 123), (9001, 9002), (9002, 9001), (12296, 12297), (12297, 12296), (12298, 12299), (12299, 12298), (12300, 12301), (12301, 12300), (12302, 12303), (12303, 12302), (12304, 12305), (12305, 12304), (60, 62), (62, 60), (171, 187), (187, 171), (8804, 8805), (8805, 8804), (8810, 8811), (8811, 8810)]
/-- What a character is mirrored into. -/
def mir (c : Int) : Int := match mtbl.find? (fun p => p.1 == c) with
  | some p => p.2
  | none => c
theorem mir_out {c : Int} (h : c ∉ mkeys) : mir c = c := by
  have hn : mtbl.find? (fun p => p.1 == c) = none := by
    rw [List.find?_eq_none]
    intro p hp he
    simp only [beq_iff_eq] at he
    have hk : ∀ p ∈ mtbl, p.1 ∈ mkeys := by decide
    exact h (he ▸ hk p hp)
  unfold mir
  rw [hn]
theorem ans_out {c : Int} (h : c ∉ mkeys) : pair_Other.ans c = (0, false, false) := by
  have h1 : pair_Other.up c = none := by
    unfold pair_Other.up
    rw [List.find?_eq_none]
    intro p hp he
    simp only [beq_iff_eq] at he
    have hk : ∀ p ∈ pair_Other.tbl, p.1 ∈ mkeys := by decide
    exact h (he ▸ hk p hp)
  have h2 : pair_Other.down c = none := by
    unfold pair_Other.down
    rw [List.find?_eq_none]
    intro p hp he
    simp only [beq_iff_eq] at he
    have hk : ∀ p ∈ pair_Other.tbl, p.2 ∈ mkeys := by decide
    exact h (he ▸ hk p hp)
  unfold pair_Other.ans
  rw [h1, h2]
/-- What holds of every one in the table, and of all that are none, holds. -/
theorem by_keys (P : Int → Prop) (hin : ∀ c ∈ mkeys, P c) (hout : ∀ c, c ∉ mkeys → P c) (c : Int) : P c := by
  by_cases h : c ∈ mkeys
  · exact hin c h
  · exact hout c h
theorem mirror_eq0 (c : Int) : pair_Mirror.f 4 c = some (mir c) := by
  revert c
  refine by_keys _ (by decide +kernel) fun c h => ?_
  have ho := ans_out h
  rw [mir_out h]
  simp only [mkeys, List.mem_cons, List.not_mem_nil, or_false, not_or] at h
  simp [pair_Mirror.f, pair_Mirror.j0, pair_Mirror.j1, pair_Mirror.j2, pair_Other.f, ho, h]
theorem mirror_eq (k : Nat) (hk : 4 ≤ k) (c : Int) : pair_Mirror.f k c = some (mir c) := more (pair_Mirror.mono c) 4 k hk _ (mirror_eq0 c)
set_option maxRecDepth 10000 in
theorem rmirror_eq0 (c : Int) : ductusref03_Mirror.f 14 c = some (mir c) := by
  revert c
  refine by_keys _ (by decide +kernel) fun c h => ?_
  rw [mir_out h]
  simp only [mkeys, List.mem_cons, List.not_mem_nil, or_false, not_or] at h
  simp [ductusref03_Mirror.f, ductusref03_Mirror.l0, ductusref03_brackets.f, rd, wrap64, eq_comm (b := c), h]
theorem rmirror_eq (k : Nat) (hk : 14 ≤ k) (c : Int) : ductusref03_Mirror.f k c = some (mir c) := more (ductusref03_Mirror.mono c) 14 k hk _ (rmirror_eq0 c)
end Go.Proofs.Ythgmkbghdobmlaa.P
namespace Go.Proofs.Ythgmkbghdobmlaa.P
open Go.RowKit Go.Proofs.YthgmkbghdobmlaaW.PrintWords Go.Proofs.YthgmkbghdobmlaaW.PrintLast Go.Proofs.YthgmkbghdobmlaaW.PrintMore
set_option linter.unusedVariables false
set_option linter.unusedSimpArgs false

theorem plain_loop (l : List Int) (hn : l.length * 8 ≤ 140737488351232) (d : Nat) : ∀ (k i : Nat) (acc : List Int), i ≤ l.length → l.length - i = d → d + 4 < k → acc.length = i →
    pair_Plain.l0 k acc l (l.length : Int) (i : Int) = some (acc ++ (l.drop i).map fun c => mn c (mir c)) := by
  induction d with
  | zero =>
    intro k i acc hi hd hk ha
    obtain ⟨k, rfl⟩ : ∃ m, k = m + 1 := ⟨k - 1, by omega⟩
    simp only [pair_Plain.l0]
    rw [if_neg (by omega), List.drop_eq_nil_of_le (by omega)]
    simp
  | succ d ih =>
    intro k i acc hi hd hk ha
    obtain ⟨k, rfl⟩ : ∃ m, k = m + 1 := ⟨k - 1, by omega⟩
    simp only [pair_Plain.l0]
    rw [if_pos (by omega), if_pos (by omega), if_pos (by omega), mirror_eq k (by omega)]
    simp only [Option.bind_some]
    rw [if_pos (by omega), wrap_succ i (by omega), ih k (i + 1) _ (by omega) (by omega) (by omega) (by simp [ha]), drop_cons l i (by omega)]
    simp
/-- The lesser one of two that are mirrored, of each. -/
def plainL (l : List Int) : List Int := l.map fun c => mn c (mir c)
theorem plain_eq (k : Nat) (l : List Int) (hn : l.length * 8 ≤ 140737488351232) (hk : l.length + 4 < k) : pair_Plain.f k l = some (plainL l) := by
  unfold pair_Plain.f
  have := plain_loop l hn l.length k 0 [] (by omega) (by omega) hk rfl
  unfold plainL
  simpa using this

end Go.Proofs.Ythgmkbghdobmlaa.P
namespace Go.Proofs.Ythgmkbghdobmlaa.P
open Go.RowKit Go.Proofs.YthgmkbghdobmlaaW.PrintWords Go.Proofs.YthgmkbghdobmlaaW.PrintLast Go.Proofs.YthgmkbghdobmlaaW.PrintMore
set_option linter.unusedVariables false
set_option linter.unusedSimpArgs false

def fspans : List (Int × Nat × Int) := [(65, 26, 32), (181, 1, 775), (192, 23, 32), (216, 7, 32), (913, 17, 32), (931, 7, 32), (962, 1, 1), (1024, 16, 80), (1040, 32, 32), (7838, 1, -7615)]
def fkeys : List Int := fspans.flatMap fun s => (List.range s.2.1).map fun (i : Nat) => s.1 + (i : Int)
def foldFrom (c : Int) : List (Int × Nat × Int) → Int
  | [] => c
  | s :: t => if s.1 ≤ c ∧ c < s.1 + (s.2.1 : Int) then c + s.2.2 else foldFrom c t
/-- What a character is folded into. -/
def foldc (c : Int) : Int := foldFrom c fspans
theorem fkeys_no {c : Int} (h : c ∉ fkeys) : ∀ s ∈ fspans, ¬ (s.1 ≤ c ∧ c < s.1 + (s.2.1 : Int)) := by
  intro s hs hc
  refine h ?_
  unfold fkeys
  rw [List.mem_flatMap]
  refine ⟨s, hs, ?_⟩
  rw [List.mem_map]
  refine ⟨(c - s.1).toNat, ?_, ?_⟩
  · rw [List.mem_range]
    omega
  · omega
theorem foldFrom_out (c : Int) : ∀ l : List (Int × Nat × Int), (∀ s ∈ l, ¬ (s.1 ≤ c ∧ c < s.1 + (s.2.1 : Int))) → foldFrom c l = c
  | [], _ => rfl
  | s :: t, h => by
    simp only [foldFrom]
    rw [if_neg (h s List.mem_cons_self)]
    exact foldFrom_out c t fun x hx => h x (List.mem_cons_of_mem _ hx)
theorem fold_out {c : Int} (h : c ∉ fkeys) : foldc c = c := foldFrom_out c fspans (fkeys_no h)
theorem by_fkeys (P : Int → Prop) (hin : ∀ c ∈ fkeys, P c) (hout : ∀ c, c ∉ fkeys → P c) (c : Int) : P c := by
  by_cases h : c ∈ fkeys
  · exact hin c h
  · exact hout c h
theorem fold_eq0 (c : Int) : fold_Of.f 12 c = some (foldc c) := by
  revert c
  refine by_fkeys _ (by decide +kernel) fun c h => ?_
  rw [fold_out h]
  have hn := fkeys_no h
  simp only [fspans, List.mem_cons, List.not_mem_nil, or_false, forall_eq_or_imp, forall_eq] at hn
  obtain ⟨h0, h1, h2, h3, h4, h5, h6, h7, h8, h9⟩ := hn
  have q0 : ¬ (c ≥ 65 ∧ c ≤ 90) := by omega
  have q1 : ¬ (c ≥ 181 ∧ c ≤ 181) := by omega
  have q2 : ¬ (c ≥ 192 ∧ c ≤ 214) := by omega
  have q3 : ¬ (c ≥ 216 ∧ c ≤ 222) := by omega
  have q4 : ¬ (c ≥ 913 ∧ c ≤ 929) := by omega
  have q5 : ¬ (c ≥ 931 ∧ c ≤ 937) := by omega
  have q6 : ¬ (c ≥ 962 ∧ c ≤ 962) := by omega
  have q7 : ¬ (c ≥ 1024 ∧ c ≤ 1039) := by omega
  have q8 : ¬ (c ≥ 1040 ∧ c ≤ 1071) := by omega
  have q9 : ¬ (c ≥ 7838 ∧ c ≤ 7838) := by omega
  have two : ∀ (a b : Int) (x y : Option Int), ¬ (c ≥ a ∧ c ≤ b) → (if c ≥ a then (if c ≤ b then x else y) else y) = y := by
    intro a b x y hq
    by_cases e1 : c ≥ a
    · rw [if_pos e1, if_neg (fun e2 => hq ⟨e1, e2⟩)]
    · rw [if_neg e1]
  have s0 : wrap64 (0 + 1) = 1 := by decide +kernel
  have s1 : wrap64 (1 + 1) = 2 := by decide +kernel
  have s2 : wrap64 (2 + 1) = 3 := by decide +kernel
  have s3 : wrap64 (3 + 1) = 4 := by decide +kernel
  have s4 : wrap64 (4 + 1) = 5 := by decide +kernel
  have s5 : wrap64 (5 + 1) = 6 := by decide +kernel
  have s6 : wrap64 (6 + 1) = 7 := by decide +kernel
  have s7 : wrap64 (7 + 1) = 8 := by decide +kernel
  have s8 : wrap64 (8 + 1) = 9 := by decide +kernel
  have s9 : wrap64 (9 + 1) = 10 := by decide +kernel
  unfold fold_Of.f fold_stretches.f
  simp only [Option.bind_some, List.length_cons, List.length_nil]
  simp only [fold_Of.l0, rd_T87, two _ _ _ _ q0, two _ _ _ _ q1, two _ _ _ _ q2, two _ _ _ _ q3, two _ _ _ _ q4, two _ _ _ _ q5, two _ _ _ _ q6, two _ _ _ _ q7, two _ _ _ _ q8, two _ _ _ _ q9, s0, s1, s2, s3, s4, s5, s6, s7, s8, s9,
    List.length_cons, List.length_nil, List.getD_cons_zero, List.getD_cons_succ, Int.toNat_natCast, Int.toNat_zero, Int.toNat_one, Int.reduceToNat, if_true, if_false, Int.reduceLT, Int.reduceLE]
  simp
theorem fold_eq (k : Nat) (hk : 12 ≤ k) (c : Int) : fold_Of.f k c = some (foldc c) := more (fold_Of.mono c) 12 k hk _ (fold_eq0 c)
theorem rfold_eq0 (c : Int) : ductusref04_Of.f 8 c = some (foldc c) := by
  revert c
  refine by_fkeys _ (by decide +kernel) fun c h => ?_
  rw [fold_out h]
  have hn := fkeys_no h
  simp only [fspans, List.mem_cons, List.not_mem_nil, or_false, forall_eq_or_imp, forall_eq] at hn
  obtain ⟨h0, h1, h2, h3, h4, h5, h6, h7, h8, h9⟩ := hn
  have two : ∀ (a b : Int) (x : Bool → Option Int) (y : Option Int), ¬ (c ≥ a ∧ c ≤ b) → x false = y → (if c ≥ a then x (decide (c ≤ b)) else y) = y := by
    intro a b x y hq hx
    by_cases e1 : c ≥ a
    · rw [if_pos e1, decide_eq_false (fun e2 => hq ⟨e1, e2⟩), hx]
    · rw [if_neg e1]
  have j5 : ∀ k, ductusref04_Of.j5 (k + 1) c false = some c := by
    intro k
    simp only [ductusref04_Of.j5]
    rw [if_neg (by decide), if_neg (by omega), if_neg (by omega), if_neg (by omega)]
  have j4 : ∀ k, ductusref04_Of.j4 (k + 2) c false = some c := by
    intro k
    simp only [ductusref04_Of.j4]
    rw [if_neg (by decide), two 1024 1039 (fun b => ductusref04_Of.j5 (k + 1) c b) _ (by omega) rfl]
    exact j5 k
  have j3 : ∀ k, ductusref04_Of.j3 (k + 3) c false = some c := by
    intro k
    have e2 : (if c ≥ 1040 then ductusref04_Of.j4 (k + 2) c (decide (c ≤ 1071)) else ductusref04_Of.j4 (k + 2) c false) = some c := by
      rw [two 1040 1071 (fun b => ductusref04_Of.j4 (k + 2) c b) _ (by omega) rfl]
      exact j4 k
    simp only [ductusref04_Of.j3]
    rw [if_neg (by decide), e2]
    by_cases e1 : c ≥ 931
    · rw [if_pos e1, if_neg (by omega)]
    · rw [if_neg e1]
  have j2 : ∀ k, ductusref04_Of.j2 (k + 4) c false = some c := by
    intro k
    simp only [ductusref04_Of.j2]
    rw [if_neg (by decide), two 913 929 (fun b => ductusref04_Of.j3 (k + 3) c b) _ (by omega) rfl]
    exact j3 k
  have j1 : ∀ k, ductusref04_Of.j1 (k + 5) c false = some c := by
    intro k
    simp only [ductusref04_Of.j1]
    rw [if_neg (by decide), two 216 222 (fun b => ductusref04_Of.j2 (k + 4) c b) _ (by omega) rfl]
    exact j2 k
  have j0 : ∀ k, ductusref04_Of.j0 (k + 6) c false = some c := by
    intro k
    simp only [ductusref04_Of.j0]
    rw [if_neg (by decide), two 192 214 (fun b => ductusref04_Of.j1 (k + 5) c b) _ (by omega) rfl]
    exact j1 k
  unfold ductusref04_Of.f
  rw [two 65 90 (fun b => ductusref04_Of.j0 8 c b) _ (by omega) rfl]
  exact j0 2
theorem rfold_eq (k : Nat) (hk : 8 ≤ k) (c : Int) : ductusref04_Of.f k c = some (foldc c) := more (ductusref04_Of.mono c) 8 k hk _ (rfold_eq0 c)
end Go.Proofs.Ythgmkbghdobmlaa.P
namespace Go.Proofs.Ythgmkbghdobmlaa.P
open Go.RowKit Go.Proofs.YthgmkbghdobmlaaW.PrintWords Go.Proofs.YthgmkbghdobmlaaW.PrintLast Go.Proofs.YthgmkbghdobmlaaW.PrintMore
set_option linter.unusedVariables false
set_option linter.unusedSimpArgs false

theorem ropens_eq (k : Int) : ductusref02_Opens.f k = some (opnK k) := by
  unfold ductusref02_Opens.f opnK
  repeat' split
  all_goals simp_all
  rfl
theorem rout0_eq (k : Int) : ductusref02_Out.f k = some (outK k) := by
  unfold ductusref02_Out.f outK
  repeat' split
  all_goals simp_all
  rfl
theorem rcls_eq (c : Int) : ductusref02_Of.f c = some (cls c) := rfl
theorem rcontrol_eq (c : Int) : ductusref23_Control.f c = some (ctl c) := by
  unfold ductusref23_Control.f ctl ctlK
  rw [rcls_eq]
  simp only [Option.bind_some, rout0_eq, ropens_eq]
  cases outK (cls c) <;> cases opnK (cls c) <;> simp

theorem and_one (n : Int) : Go.bits .and .i64 n 1 = 0 ∨ Go.bits .and .i64 n 1 = 1 := by
  have h1 : (BitVec.ofInt 64 1).toNat = 2 ^ 1 - 1 := by decide
  have key : (BitVec.ofInt 64 n &&& BitVec.ofInt 64 1).toNat = (n % ((2 ^ 64 : Nat) : Int)).toNat % 2 ^ 1 := by
    rw [BitVec.toNat_and, BitVec.toNat_ofInt, h1, Nat.and_two_pow_sub_one_eq_mod]
  have e : Go.bits .and .i64 n 1 = IntKind.i64.wrap ((BitVec.ofInt 64 n &&& BitVec.ofInt 64 1).toNat : Nat) := rfl
  rw [e, key, IntKind.wrap_i64]
  omega
theorem and_two (n : Int) : Go.bits .and .i64 n 2 = 0 ∨ Go.bits .and .i64 n 2 = 2 := by
  obtain ⟨r, hr⟩ : ∃ r, r = (BitVec.ofInt 64 n &&& BitVec.ofInt 64 2).toNat := ⟨_, rfl⟩
  have h1 : (BitVec.ofInt 64 2).toNat = 2 := by decide
  have e : Go.bits .and .i64 n 2 = IntKind.i64.wrap (r : Nat) := by rw [hr]; rfl
  rw [BitVec.toNat_and, h1] at hr
  have h2 : r ≤ 2 := by rw [hr]; exact Nat.and_le_right
  have h3 : r.testBit 0 = false := by rw [hr, Nat.testBit_and]; simp
  rw [Nat.testBit_zero, decide_eq_false_iff_not] at h3
  rw [e, IntKind.wrap_i64]
  omega
def trF (flags c : Int) : Int := if Go.bits .and .i64 flags 1 = 0 then c else foldc c
def trM (flags c : Int) : Int := if Go.bits .and .i64 flags 2 = 0 then c else mn c (mir c)
/-- What is searched in a character's place. -/
def tr (flags c : Int) : Int := trM flags (trF flags c)
def chrs (flags : Int) (l : List Int) : List Int := (l.filter nctl).map (tr flags)
def plcs (l : List Int) : List Int := placesOf nctl 0 l ++ [(l.length : Int)]

theorem all_loop (l : List Int) (hn : l.length ≤ 9000) (d : Nat) : ∀ (k i : Nat) (acc : List Int), i ≤ l.length → l.length - i = d → d + 12 < k → acc.length = i →
    fold_All.l0 k acc l (l.length : Int) (i : Int) = some (acc ++ (l.drop i).map foldc) := by
  induction d with
  | zero =>
    intro k i acc hi hd hk ha
    obtain ⟨k, rfl⟩ : ∃ m, k = m + 1 := ⟨k - 1, by omega⟩
    simp only [fold_All.l0]
    rw [if_neg (by omega), List.drop_eq_nil_of_le (by omega)]
    simp
  | succ d ih =>
    intro k i acc hi hd hk ha
    obtain ⟨k, rfl⟩ : ∃ m, k = m + 1 := ⟨k - 1, by omega⟩
    simp only [fold_All.l0]
    rw [if_pos (by omega), if_pos (by omega), if_pos (by omega), fold_eq k (by omega)]
    simp only [Option.bind_some]
    rw [if_pos (by omega), wrap_succ i (by omega), ih k (i + 1) _ (by omega) (by omega) (by omega) (by simp [ha]), drop_cons l i (by omega)]
    simp
theorem all_eq (k : Nat) (l : List Int) (hn : l.length ≤ 9000) (hk : l.length + 12 < k) : fold_All.f k l = some (l.map foldc) := by
  unfold fold_All.f
  have := all_loop l hn l.length k 0 [] (by omega) (by omega) hk rfl
  simpa using this
theorem of_loop (l0 : List Int) (flags : Int) (hn : l0.length ≤ 9000) (d : Nat) : ∀ (k i : Nat) (acc at_ : List Int), i ≤ l0.length → l0.length - i = d → d + l0.length + 100 < k → acc.length ≤ i → at_.length ≤ i →
    norm_Of.l0 k l0 flags acc at_ l0 (l0.length : Int) (i : Int) = some ((acc ++ (l0.drop i).filter nctl).map (tr flags), at_ ++ placesOf nctl i (l0.drop i) ++ [(l0.length : Int)]) := by
  induction d with
  | zero =>
    intro k i acc at_ hi hd hk ha hb
    obtain ⟨k, rfl⟩ : ∃ m, k = m + 1 := ⟨k - 1, by omega⟩
    simp only [norm_Of.l0]
    rw [if_neg (by omega), List.drop_eq_nil_of_le (by omega)]
    simp only [placesOf, List.filter_nil, List.append_nil]
    by_cases h1 : Go.bits .and .i64 flags 1 = 0
    · rw [if_pos h1]
      by_cases h2 : Go.bits .and .i64 flags 2 = 0
      · rw [if_pos h2, if_pos (by omega)]
        have e : acc.map (tr flags) = acc := by
          have : ∀ c, tr flags c = c := fun c => by unfold tr trM trF; rw [if_pos h2, if_pos h1]
          rw [List.map_congr_left (fun c _ => this c), List.map_id']
        rw [e]
      · rw [if_neg h2, plain_eq k acc (by omega) (by omega)]
        simp only [Option.bind_some]
        rw [if_pos (by omega)]
        have e : acc.map (tr flags) = plainL acc := by
          unfold plainL
          exact List.map_congr_left fun c _ => by unfold tr trM trF; rw [if_neg h2, if_pos h1]
        rw [e]
    · rw [if_neg h1, all_eq k acc (by omega) (by omega)]
      simp only [Option.bind_some]
      by_cases h2 : Go.bits .and .i64 flags 2 = 0
      · rw [if_pos h2, if_pos (by omega)]
        have e : acc.map (tr flags) = acc.map foldc := List.map_congr_left fun c _ => by unfold tr trM trF; rw [if_pos h2, if_neg h1]
        rw [e]
      · rw [if_neg h2, plain_eq k (acc.map foldc) (by simp; omega) (by simp; omega)]
        simp only [Option.bind_some]
        rw [if_pos (by omega)]
        have e : acc.map (tr flags) = plainL (acc.map foldc) := by
          unfold plainL
          rw [List.map_map]
          exact List.map_congr_left fun c _ => by unfold tr trM trF; rw [if_neg h2, if_neg h1]; rfl
        rw [e]
  | succ d ih =>
    intro k i acc at_ hi hd hk ha hb
    obtain ⟨k, rfl⟩ : ∃ m, k = m + 1 := ⟨k - 1, by omega⟩
    simp only [norm_Of.l0]
    rw [if_pos (by omega), if_pos (by omega), if_pos (by omega), control_eq k (by omega)]
    simp only [Option.bind_some]
    rw [wrap_succ i (by omega), drop_cons l0 i (by omega)]
    by_cases h : ctl (rd l0 (i : Int)) = true
    · have h2 : nctl (rd l0 (i : Int)) = false := by unfold nctl; rw [h]; rfl
      rw [if_pos h, ih k (i + 1) acc at_ (by omega) (by omega) (by omega) (by omega) (by omega)]
      simp [placesOf, h2]
    · have h2 : nctl (rd l0 (i : Int)) = true := by unfold nctl; simpa using h
      rw [if_neg h, if_pos (by omega), if_pos (by omega), ih k (i + 1) _ _ (by omega) (by omega) (by omega) (by simp; omega) (by simp; omega)]
      simp [placesOf, h2]
theorem norm_of_eq (k : Nat) (l : List Int) (flags : Int) (hn : l.length ≤ 9000) (hk : 2 * l.length + 100 < k) : norm_Of.f k l flags = some (chrs flags l, plcs l) := by
  unfold norm_Of.f chrs plcs
  have := of_loop l flags hn l.length k 0 [] [] (by omega) (by omega) (by omega) (by simp) (by simp)
  simpa using this
theorem rnorm_loop (l0 : List Int) (flags : Int) (hn : l0.length ≤ 9000) (d : Nat) : ∀ (k i : Nat) (acc at_ : List Int), i ≤ l0.length → l0.length - i = d → d + 100 < k → acc.length ≤ i → at_.length ≤ i →
    ductusref23_Of.l0 k l0 flags acc at_ (i : Int) = some (acc ++ ((l0.drop i).filter nctl).map (tr flags), at_ ++ placesOf nctl i (l0.drop i) ++ [(l0.length : Int)]) := by
  induction d with
  | zero =>
    intro k i acc at_ hi hd hk ha hb
    obtain ⟨k, rfl⟩ : ∃ m, k = m + 1 := ⟨k - 1, by omega⟩
    simp only [ductusref23_Of.l0]
    rw [if_neg (by omega), if_pos (by omega), List.drop_eq_nil_of_le (by omega)]
    simp [placesOf]
  | succ d ih =>
    intro k i acc at_ hi hd hk ha hb
    obtain ⟨k, rfl⟩ : ∃ m, k = m + 1 := ⟨k - 1, by omega⟩
    simp only [ductusref23_Of.l0]
    rw [if_pos (by omega), if_pos (by omega), rcontrol_eq]
    simp only [Option.bind_some]
    rw [wrap_succ i (by omega), drop_cons l0 i (by omega)]
    by_cases h : ctl (rd l0 (i : Int)) = true
    · have h2 : nctl (rd l0 (i : Int)) = false := by unfold nctl; rw [h]; rfl
      rw [if_pos h, ih k (i + 1) acc at_ (by omega) (by omega) (by omega) (by omega) (by omega)]
      simp [placesOf, h2]
    · have h2 : nctl (rd l0 (i : Int)) = true := by unfold nctl; simpa using h
      have next : ∀ c, c = tr flags (rd l0 (i : Int)) → (if acc.length < 17592186044416 then (if at_.length < 17592186044416 then (ductusref23_Of.l0 k l0 flags (acc ++ [c]) (at_ ++ [(i : Int)]) ((i + 1 : Nat) : Int)) else none) else none) = some (acc ++ ((rd l0 (i : Int) :: l0.drop (i + 1)).filter nctl).map (tr flags), at_ ++ placesOf nctl i (rd l0 (i : Int) :: l0.drop (i + 1)) ++ [(l0.length : Int)]) := by
        intro c hc
        rw [if_pos (by omega), if_pos (by omega), ih k (i + 1) _ _ (by omega) (by omega) (by omega) (by simp; omega) (by simp; omega)]
        simp [placesOf, h2, hc]
      rw [if_neg h, rfold_eq k (by omega)]
      simp only [Option.bind_some, rmirror_eq k (show 14 ≤ k by omega)]
      rcases and_one flags with a1 | a1 <;> rcases and_two flags with a2 | a2
      · rw [a1, a2, if_neg (by decide), if_neg (by decide)]
        exact next _ (by unfold tr trM trF; rw [if_pos a2, if_pos a1])
      · rw [a1, a2, if_neg (by decide), if_pos rfl]
        exact next _ (by unfold tr trM trF; rw [if_neg (by rw [a2]; decide), if_pos a1])
      · rw [a1, a2, if_pos rfl, if_neg (by decide)]
        exact next _ (by unfold tr trM trF; rw [if_pos a2, if_neg (by rw [a1]; decide)])
      · rw [a1, a2, if_pos rfl, if_pos rfl]
        exact next _ (by unfold tr trM trF; rw [if_neg (by rw [a2]; decide), if_neg (by rw [a1]; decide)])
theorem rnorm_of_eq (k : Nat) (l : List Int) (flags : Int) (hn : l.length ≤ 9000) (hk : l.length + 100 < k) : ductusref23_Of.f k l flags = some (chrs flags l, plcs l) := by
  unfold ductusref23_Of.f chrs plcs
  have := rnorm_loop l flags hn l.length k 0 [] [] (by omega) (by omega) (by omega) (by simp) (by simp)
  simpa using this

def backOf (l : List Int) (a b : Int) : Int × Int × Bool := if 0 ≤ a ∧ a ≤ b ∧ b < (l.length : Int) then (if b > a then (rd l a, wrap64 (rd l (b - 1) + 1), true) else (rd l a, rd l a, true)) else (0, 0, false)
theorem lies_eq (a b n : Int) : norm_lies.f a b n = some (decide (0 ≤ a ∧ a ≤ b ∧ b < n)) := by
  unfold norm_lies.f
  by_cases h : a ≥ 0
  · by_cases h2 : a ≤ b
    · rw [if_pos h, if_pos h2]
      simp [show 0 ≤ a from h, h2]
    · rw [if_pos h, if_neg h2]
      simp [h2]
  · rw [if_neg h]
    have : ¬ 0 ≤ a := h
    simp [this]
theorem back_eq (l : List Int) (hn : l.length ≤ 9001) (a b : Int) : norm_Back.f l a b = some (backOf l a b) := by
  unfold norm_Back.f backOf
  rw [lies_eq]
  simp only [Option.bind_some, decide_eq_true_eq]
  by_cases h : 0 ≤ a ∧ a ≤ b ∧ b < (l.length : Int)
  · rw [if_pos h, if_pos h, if_pos h.1, if_pos (by omega)]
    by_cases h2 : b > a
    · rw [if_pos h2, if_pos h2, wrap_id (x := b - 1) (by omega) (by omega), if_pos (by omega), if_pos (by omega)]
    · rw [if_neg h2, if_neg h2]
  · rw [if_neg h, if_neg h]
theorem rback_eq (k : Nat) (hk : 1 ≤ k) (l : List Int) (hn : l.length ≤ 9001) (a b : Int) : ductusref23_Back.f k l a b = some (backOf l a b) := by
  obtain ⟨k, rfl⟩ : ∃ m, k = m + 1 := ⟨k - 1, by omega⟩
  unfold ductusref23_Back.f backOf
  simp only [ductusref23_Back.j0, if_true]
  by_cases h1 : a < 0
  · rw [if_pos h1, if_neg (by omega)]
  · rw [if_neg h1]
    by_cases h2 : a > b
    · rw [if_pos h2, if_neg (by omega)]
    · rw [if_neg h2]
      by_cases h3 : b ≥ (l.length : Int)
      · rw [decide_eq_true h3, if_pos rfl, if_neg (by omega)]
      · rw [decide_eq_false h3, if_neg (by decide), if_pos (show 0 ≤ a ∧ a ≤ b ∧ b < (l.length : Int) by omega)]
        by_cases h4 : a = b
        · rw [if_pos h4, if_neg (show ¬ b > a by omega), if_pos (by omega), if_pos (by omega)]
        · rw [if_neg h4, if_pos (show b > a by omega), if_pos (by omega), if_pos (by omega), wrap_id (x := b - 1) (by omega) (by omega), if_pos (by omega), if_pos (by omega)]
theorem plcs_len (l : List Int) : (plcs l).length = (l.filter nctl).length + 1 := by
  unfold plcs
  rw [List.length_append, places_len]
  rfl
theorem plcs_up (l : List Int) : List.Pairwise (· < ·) (plcs l) := by
  unfold plcs
  refine List.pairwise_append.2 ⟨places_up nctl 0 l, List.pairwise_singleton _ _, fun x hx y hy => ?_⟩
  have := places_mem nctl 0 l x hx
  simp only [List.mem_singleton] at hy
  omega
theorem plcs_in (l : List Int) : ∀ x ∈ plcs l, 0 ≤ x ∧ x ≤ (l.length : Int) := by
  intro x hx
  unfold plcs at hx
  rcases List.mem_append.1 hx with h | h
  · have := places_mem nctl 0 l x h
    omega
  · simp only [List.mem_singleton] at h
    omega
/-- The place of the i-th that is searched. -/
theorem plcs_at (l : List Int) (i : Nat) (h : i < (l.filter nctl).length) : rd (plcs l) (i : Int) = (placesOf nctl 0 l)[i]'(by rw [places_len]; exact h) := by
  rw [rd_get _ i (by rw [plcs_len]; omega)]
  unfold plcs
  rw [List.getElem_append_left]
theorem plcs_lt (l : List Int) (i : Nat) (h : i < (l.filter nctl).length) : 0 ≤ rd (plcs l) (i : Int) ∧ rd (plcs l) (i : Int) < (l.length : Int) := by
  rw [plcs_at l i h]
  have := places_mem nctl 0 l _ (List.getElem_mem (show i < (placesOf nctl 0 l).length by rw [places_len]; exact h))
  omega
theorem plcs_mono (l : List Int) (i j : Nat) (h : i < j) (hj : j ≤ (l.filter nctl).length) : rd (plcs l) (i : Int) < rd (plcs l) (j : Int) := by
  rw [rd_get _ i (by rw [plcs_len]; omega), rd_get _ j (by rw [plcs_len]; omega)]
  exact List.pairwise_iff_getElem.1 (plcs_up l) i j _ _ h
end Go.Proofs.Ythgmkbghdobmlaa.P
namespace Go.Proofs.Ythgmkbghdobmlaa.P
open Go.RowKit Go.Proofs.YthgmkbghdobmlaaW.PrintWords Go.Proofs.YthgmkbghdobmlaaW.PrintLast
set_option linter.unusedVariables false

theorem ev_step {α β : Type} {f : Nat → Option α} {g : Nat → Option β} {a : α} {r : β} (H : Ev f a) (h : ∀ k, f k = some a → g (k + 1) = some r) : Ev g r := by
  obtain ⟨K, H⟩ := H
  refine ⟨K + 1, fun k hk => ?_⟩
  obtain ⟨k, rfl⟩ : ∃ m, k = m + 1 := ⟨k - 1, by omega⟩
  exact h k (H k (by omega))
theorem ev_step2 {α β γ : Type} {f : Nat → Option α} {f2 : Nat → Option γ} {g : Nat → Option β} {a : α} {b : γ} {r : β} (H : Ev f a) (H2 : Ev f2 b) (h : ∀ k, f k = some a → f2 k = some b → g (k + 1) = some r) : Ev g r := by
  obtain ⟨K, H⟩ := H
  obtain ⟨K2, H2⟩ := H2
  refine ⟨K + K2 + 1, fun k hk => ?_⟩
  obtain ⟨k, rfl⟩ : ∃ m, k = m + 1 := ⟨k - 1, by omega⟩
  exact h k (H k (by omega)) (H2 k (by omega))
theorem ev_step3 {α β γ δ : Type} {f : Nat → Option α} {f2 : Nat → Option γ} {f3 : Nat → Option δ} {g : Nat → Option β} {a : α} {b : γ} {c : δ} {r : β} (H : Ev f a) (H2 : Ev f2 b) (H3 : Ev f3 c) (h : ∀ k, f k = some a → f2 k = some b → f3 k = some c → g (k + 1) = some r) : Ev g r := by
  obtain ⟨K, H⟩ := H
  obtain ⟨K2, H2⟩ := H2
  obtain ⟨K3, H3⟩ := H3
  refine ⟨K + K2 + K3 + 1, fun k hk => ?_⟩
  obtain ⟨k, rfl⟩ : ∃ m, k = m + 1 := ⟨k - 1, by omega⟩
  exact h k (H k (by omega)) (H2 k (by omega)) (H3 k (by omega))
theorem ev_one {β : Type} {g : Nat → Option β} {r : β} (h : ∀ k, g (k + 1) = some r) : Ev g r := ⟨1, fun k hk => by
  obtain ⟨k, rfl⟩ : ∃ m, k = m + 1 := ⟨k - 1, by omega⟩
  exact h k⟩
theorem ev_now {β : Type} {g : Nat → Option β} {r : β} (h : ∀ k, g k = some r) : Ev g r := ⟨0, fun k _ => h k⟩
theorem ev_same {α β : Type} {f : Nat → Option α} {g : Nat → Option β} {a : α} {r : β} (H : Ev f a) (h : ∀ k, f k = some a → g k = some r) : Ev g r := by
  obtain ⟨K, H⟩ := H
  exact ⟨K, fun k hk => h k (H k hk)⟩
theorem ev_same2 {α β γ : Type} {f : Nat → Option α} {f2 : Nat → Option γ} {g : Nat → Option β} {a : α} {b : γ} {r : β} (H : Ev f a) (H2 : Ev f2 b) (h : ∀ k, f k = some a → f2 k = some b → g k = some r) : Ev g r := by
  obtain ⟨K, H⟩ := H
  obtain ⟨K2, H2⟩ := H2
  exact ⟨K + K2, fun k hk => h k (H k (by omega)) (H2 k (by omega))⟩
theorem ev_same3 {α β γ δ : Type} {f : Nat → Option α} {f2 : Nat → Option γ} {f3 : Nat → Option δ} {g : Nat → Option β} {a : α} {b : γ} {c : δ} {r : β} (H : Ev f a) (H2 : Ev f2 b) (H3 : Ev f3 c) (h : ∀ k, f k = some a → f2 k = some b → f3 k = some c → g k = some r) : Ev g r := by
  obtain ⟨K, H⟩ := H
  obtain ⟨K2, H2⟩ := H2
  obtain ⟨K3, H3⟩ := H3
  exact ⟨K + K2 + K3, fun k hk => h k (H k (by omega)) (H2 k (by omega)) (H3 k (by omega))⟩
/-- Two answers at once. -/
theorem ev_and {α γ : Type} {f : Nat → Option α} {f2 : Nat → Option γ} {a : α} {b : γ} (H : Ev f a) (H2 : Ev f2 b) : Ev (fun k => (f k).bind fun x => (f2 k).map fun y => (x, y)) (a, b) :=
  ev_same2 H H2 fun k h h2 => by rw [h, h2]; rfl
theorem ev_fst {α γ : Type} {o : Option α} {o2 : Option γ} {a : α} {b : γ} (h : (o.bind fun x => o2.map fun y => (x, y)) = some (a, b)) : o = some a ∧ o2 = some b := by
  cases o with
  | none => cases h
  | some x =>
    cases o2 with
    | none => cases h
    | some y =>
      simp only [Option.bind_some, Option.map_some, Option.some.injEq, Prod.mk.injEq] at h
      rw [h.1, h.2]
      exact ⟨rfl, rfl⟩
end Go.Proofs.Ythgmkbghdobmlaa.P
