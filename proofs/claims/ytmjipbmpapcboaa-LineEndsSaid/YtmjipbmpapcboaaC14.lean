/- Proved: the theorems below, each under its own conditions. -/
import Derived.Test.YtmjipbmpapcboaaC13
namespace Go.Proofs.Ytmjipbmpapcboaa.P
open Go.RowKit Go.Proofs.YtmjipbmpapcboaaW.PrintWords Go.Proofs.YtmjipbmpapcboaaW.PrintLast
set_option linter.unusedVariables false
set_option maxHeartbeats 8000000
set_option maxRecDepth 100000
set_option linter.unusedSimpArgs false
def line_Of.ans (l : List Int) (i : Int) : Int := if i < 0 then -1 else idxFrom (fun b => decide (i < b)) 0 l
def line_Of.f (l0 : List Int) (a1 : Int) : Option Int := if l0.length < 9223372036854775807 then some (line_Of.ans l0 a1) else none
theorem line_test {w : World} {c : Nat} (x i : Int) (hc : w.cell? ⟨c, 0, none⟩ = some (.int .i64 i)) :
    Calls Try.prog 25 #[.int .i64 x, .pointer (some ⟨c, 0, none⟩)] w fun e w' => e = .returned (.bool (decide (i < x))) ∧ w' = w := by
  go_enter Try.func25, Try.ntmps25
  go_wp2;go_ret;exact ⟨rfl, rfl⟩
set_option maxHeartbeats 1000000 in
theorem line_Of.calls (A0 : Option Addr) (c0 : Nat) (l0 : List Int) (a1 : Int) (r : Int) (w : World) (hr0 : Kd.C (Kd.int .i64) w A0 l0.length l0) (hc0 : l0.length ≤ c0) (h : line_Of.f l0 a1 = some r) :
    Calls Try.prog 13 #[.slice A0 l0.length c0, .int .i64 a1] w fun e w' => e = .returned (.int .i64 r) ∧ Below w.heap.size w w' := by
  have HL : Aside0 (l0.length < 9223372036854775807) := by
    refine ⟨?_⟩;unfold line_Of.f at h
    by_cases hl : l0.length < 9223372036854775807
    · exact hl
    · rw [if_neg hl] at h
      cases h
  have hr : line_Of.ans l0 a1 = r := by
    unfold line_Of.f at h;rw [if_pos HL.out] at h;exact Option.some.inj h
  clear h;have hb := below_alloc (Below.refl w.heap.size w) (.cells #[.int .i64 a1] 3);have hc : (w.alloc (.cells #[.int .i64 a1] 3)).cell? ⟨w.heap.size, 0, none⟩ = some (.int .i64 a1) := blk_cell (heap_alloc_new w _) 0
  have hct := idx_func.calls 25 #[.pointer (some ⟨w.heap.size, 0, none⟩)] (fun b => decide (a1 < b)) A0 c0 l0 (w.alloc (.cells #[.int .i64 a1] 3)) (Kd.C_below hr0 hb) HL.out
    (fun x hx n => (line_test (w := (w.alloc (.cells #[.int .i64 a1] 3)).drewN n) x a1 hc).mono (fun e w' ⟨h1, h2⟩ => ⟨h1, 0, h2⟩)) (fun x W => by rfl)
  unfold line_Of.ans at hr;obtain ⟨q, hq⟩ : ∃ q, idxFrom (fun b => decide (a1 < b)) 0 l0 = q := ⟨_, rfl⟩;rw [hq] at hct hr;have HB := Aside0.mk hb;clear hq hr0 hc0 hb
  by_cases hi : a1 < 0
  · rw [if_pos hi] at hr
    obtain rfl := hr;have h1 := decide_eq_true hi
    go_enter Try.func13, Try.ntmps13
    go_wp2_with (go_at_call 24; refine hct.mono ?_; rintro e w' ⟨rfl, m2, rfl⟩)
    go_ret;exact ⟨rfl, pw_below_drewN HB.out _⟩
  · rw [if_neg hi] at hr
    obtain rfl := hr;have h1 := decide_eq_false hi
    go_enter Try.func13, Try.ntmps13
    go_wp2_with (go_at_call 24; refine hct.mono ?_; rintro e w' ⟨rfl, m2, rfl⟩)
    go_ret;exact ⟨rfl, pw_below_drewN HB.out _⟩
end Go.Proofs.Ytmjipbmpapcboaa.P
namespace Go.Proofs.Ytmjipbmpapcboaa.P
open Go.RowKit Go.Proofs.YtmjipbmpapcboaaW.PrintWords Go.Proofs.YtmjipbmpapcboaaW.PrintLast Go.Proofs.YtmjipbmpapcboaaW.PrintMore
attribute [local go_sem] max2_int min2_int max_two min_two
set_option linter.unusedVariables false
set_option linter.unusedSimpArgs false
attribute [local go_sem high] eqA29
mutual
def line_Levels.j0 : Nat → List Int → List Int → Int → Bool → Int → Int → Option (List Int)
  | 0, _, _, _, _, _, _ => none
  | k + 1, x0, x1, x2, x36, x146000, x146001 => if x36 = true then (some ([] : List Int)) else (if 0 ≤ x146000 then (if x146000 ≤ x146001 then (if x146001 ≤ (x1.length : Int) then ((slices_Clone_int.f ((x1.take (x146001 : Int).toNat).drop (x146000 : Int).toNat)).bind fun t147 => (line_Levels.l0 k x0 x2 t147 true (wrap64 ((t147.length : Int) - 1)) x146000 x146001)) else (none)) else (none)) else (none))
def line_Levels.l0 : Nat → List Int → Int → List Int → Bool → Int → Int → Int → Option (List Int)
  | 0, _, _, _, _, _, _, _ => none
  | k + 1, x0, x2, x9, x10, x11, x146000, x146001 => if x11 ≥ 0 then (if 0 ≤ (wrap64 (x146000 + x11)) then (if (wrap64 (x146000 + x11)) < (x0.length : Int) then ((class_Of.f k (rd x0 (wrap64 (x146000 + x11)))).bind fun t151 => (if t151 = 11 then (line_Levels.j2 k x0 x2 x9 x10 x11 t151 true x146000 x146001) else (line_Levels.j2 k x0 x2 x9 x10 x11 t151 (t151 == 10) x146000 x146001))) else (none)) else (none)) else (some x9)
def line_Levels.j2 : Nat → List Int → Int → List Int → Bool → Int → Int → Bool → Int → Int → Option (List Int)
  | 0, _, _, _, _, _, _, _, _, _ => none
  | k + 1, x0, x2, x9, x10, x11, x12, x59, x146000, x146001 => if x59 = true then (if 0 ≤ x11 then (if x11 < (x9.length : Int) then (line_Levels.l0 k x0 x2 (x9.set (x11 : Int).toNat x2) true (wrap64 (x11 - 1)) x146000 x146001) else (none)) else (none)) else ((line_light.f k x12).bind fun t153 => (if t153 = true then (if x10 = true then (if 0 ≤ x11 then (if x11 < (x9.length : Int) then (line_Levels.l0 k x0 x2 (x9.set (x11 : Int).toNat x2) x10 (wrap64 (x11 - 1)) x146000 x146001) else (none)) else (none)) else (line_Levels.l0 k x0 x2 x9 x10 (wrap64 (x11 - 1)) x146000 x146001)) else (line_Levels.l0 k x0 x2 x9 false (wrap64 (x11 - 1)) x146000 x146001)))
end
def line_Levels.f (k : Nat) (l0 : List Int) (l1 : List Int) (a2 : Int) (a3_0 : Int) (a3_1 : Int) : Option (List Int) := if (l0.length : Int) = (l1.length : Int) then (if a3_0 < 0 then (line_Levels.j0 k l0 l1 a2 true a3_0 a3_1) else (if a3_0 > a3_1 then (line_Levels.j0 k l0 l1 a2 true a3_0 a3_1) else (line_Levels.j0 k l0 l1 a2 (decide (a3_1 > (l0.length : Int))) a3_0 a3_1))) else (line_Levels.j0 k l0 l1 a2 true a3_0 a3_1)
theorem line_Levels.mono_l : ∀ k, (∀ y0 y1 y2 y3 y4 y5, LeO (line_Levels.j0 k y0 y1 y2 y3 y4 y5) (line_Levels.j0 (k + 1) y0 y1 y2 y3 y4 y5)) ∧ (∀ y0 y1 y2 y3 y4 y5 y6, LeO (line_Levels.l0 k y0 y1 y2 y3 y4 y5 y6) (line_Levels.l0 (k + 1) y0 y1 y2 y3 y4 y5 y6)) ∧ (∀ y0 y1 y2 y3 y4 y5 y6 y7 y8, LeO (line_Levels.j2 k y0 y1 y2 y3 y4 y5 y6 y7 y8) (line_Levels.j2 (k + 1) y0 y1 y2 y3 y4 y5 y6 y7 y8))
  | 0 => ⟨fun _ _ _ _ _ _ r h => by simp [line_Levels.j0] at h, fun _ _ _ _ _ _ _ r h => by simp [line_Levels.l0] at h, fun _ _ _ _ _ _ _ _ _ r h => by simp [line_Levels.j2] at h⟩
  | k + 1 => by
    obtain ⟨ih0, ih1, ih2⟩ := line_Levels.mono_l k;refine ⟨?_, ?_, ?_⟩
    · intro y0 y1 y2 y3 y4 y5
      unfold line_Levels.j0
      repeat' first
      | (with_reducible exact ih0 _ _ _ _ _ _)
      | (with_reducible exact ih1 _ _ _ _ _ _ _)
      | (with_reducible exact ih2 _ _ _ _ _ _ _ _ _)
      | (with_reducible exact class_Of.mono _ _)
      | (with_reducible exact line_light.mono _ _)
      | (with_reducible exact LeO.refl _)
      | (with_reducible exact LeO.none _)
      | (with_reducible refine LeO.ite ?_ ?_)
      | (with_reducible refine LeO.bind ?_ (fun _ => ?_))
      | exact ih0 _ _ _ _ _ _
      | exact ih1 _ _ _ _ _ _ _
      | exact ih2 _ _ _ _ _ _ _ _ _
      | exact class_Of.mono _ _
      | exact line_light.mono _ _
      | exact LeO.none _
      | refine LeO.ite ?_ ?_
      | refine LeO.bind ?_ (fun _ => ?_)
    · intro y0 y1 y2 y3 y4 y5 y6
      unfold line_Levels.l0
      repeat' first
      | (with_reducible exact ih0 _ _ _ _ _ _)
      | (with_reducible exact ih1 _ _ _ _ _ _ _)
      | (with_reducible exact ih2 _ _ _ _ _ _ _ _ _)
      | (with_reducible exact class_Of.mono _ _)
      | (with_reducible exact line_light.mono _ _)
      | (with_reducible exact LeO.refl _)
      | (with_reducible exact LeO.none _)
      | (with_reducible refine LeO.ite ?_ ?_)
      | (with_reducible refine LeO.bind ?_ (fun _ => ?_))
      | exact ih0 _ _ _ _ _ _
      | exact ih1 _ _ _ _ _ _ _
      | exact ih2 _ _ _ _ _ _ _ _ _
      | exact class_Of.mono _ _
      | exact line_light.mono _ _
      | exact LeO.none _
      | refine LeO.ite ?_ ?_
      | refine LeO.bind ?_ (fun _ => ?_)
    · intro y0 y1 y2 y3 y4 y5 y6 y7 y8
      unfold line_Levels.j2
      repeat' first
      | (with_reducible exact ih0 _ _ _ _ _ _)
      | (with_reducible exact ih1 _ _ _ _ _ _ _)
      | (with_reducible exact ih2 _ _ _ _ _ _ _ _ _)
      | (with_reducible exact class_Of.mono _ _)
      | (with_reducible exact line_light.mono _ _)
      | (with_reducible exact LeO.refl _)
      | (with_reducible exact LeO.none _)
      | (with_reducible refine LeO.ite ?_ ?_)
      | (with_reducible refine LeO.bind ?_ (fun _ => ?_))
      | exact ih0 _ _ _ _ _ _
      | exact ih1 _ _ _ _ _ _ _
      | exact ih2 _ _ _ _ _ _ _ _ _
      | exact class_Of.mono _ _
      | exact line_light.mono _ _
      | exact LeO.none _
      | refine LeO.ite ?_ ?_
      | refine LeO.bind ?_ (fun _ => ?_)
theorem line_Levels.mono : ∀ a0 a1 a2 a3 a4 k, LeO (line_Levels.f k a0 a1 a2 a3 a4) (line_Levels.f (k + 1) a0 a1 a2 a3 a4) := by
  intro a0 a1 a2 a3 a4 k;obtain ⟨ih0, ih1, ih2⟩ := line_Levels.mono_l k;unfold line_Levels.f
  repeat' first
      | (with_reducible exact ih0 _ _ _ _ _ _)
      | (with_reducible exact ih1 _ _ _ _ _ _ _)
      | (with_reducible exact ih2 _ _ _ _ _ _ _ _ _)
      | (with_reducible exact class_Of.mono _ _)
      | (with_reducible exact line_light.mono _ _)
      | (with_reducible exact LeO.refl _)
      | (with_reducible exact LeO.none _)
      | (with_reducible refine LeO.ite ?_ ?_)
      | (with_reducible refine LeO.bind ?_ (fun _ => ?_))
      | exact ih0 _ _ _ _ _ _
      | exact ih1 _ _ _ _ _ _ _
      | exact ih2 _ _ _ _ _ _ _ _ _
      | exact class_Of.mono _ _
      | exact line_light.mono _ _
      | exact LeO.none _
      | refine LeO.ite ?_ ?_
      | refine LeO.bind ?_ (fun _ => ?_)
theorem line_Levels.calls (k : Nat) (A0 : Option Addr) (c0 : Nat) (l0 : List Int) (A1 : Option Addr) (c1 : Nat) (l1 : List Int) (a2 : Int) (a3_0 : Int) (a3_1 : Int) (r : List Int) (w : World) (hr0 : Kd.C (Kd.int .i64) w A0 l0.length l0) (hc0 : l0.length ≤ c0) (hr1 : Kd.C (Kd.int .i64) w A1 l1.length l1) (hc1 : l1.length ≤ c1) (h : line_Levels.f k l0 l1 a2 a3_0 a3_1 = some r) :
    Calls Try.prog 18 #[.slice A0 l0.length c0, .slice A1 l1.length c1, .int .i64 a2, .agg #[.int .i64 a3_0, .int .i64 a3_1]] w fun e w' => ∃ v0_ : Value, e = .returned (v0_) ∧ Kd.R (Kd.int .i64) 3 w' w.heap.size (fun _ => True) v0_ r ∧ Below w.heap.size w w' := by
  have hu29 := Try.underlying29;have HR0 := Aside0.mk hr0;have HC0 := Aside0.mk hc0;clear hr0 hc0;have HR1 := Aside0.mk hr1;have HC1 := Aside0.mk hc1;clear hr1 hc1;have HB := Aside0.mk (Below.refl w.heap.size w);unfold line_Levels.f at h;have H := h;clear h;have HC5 := Aside0.mk H;clear H
  go_enter Try.func18, Try.ntmps18
  go_upto_region 1 with (first | ((with_reducible refine gate_dst (N := 7) rfl ?_); (try (refine gate_guard (by rfl) ?_; dsimp only)); refine box_event ?hg (N := 7) ?hd (cs := #[.int .i64 a3_0, .int .i64 a3_1]) (t := 29) ?hr ?_; (case hd => rfl); (case hg => rfl); (case hr => exact uN); intro gb145 hg w6 hbox hb; have n_ := z4_ (below_step (uB HB.out) hb) (hbox) ((by rw [hg]; exact (below_size (uB HB.out)) : w.heap.size ≤ gb145)) ((by rw [hg]; exact (below_size (uB HB.out)) : w.heap.size ≤ gb145)); clear HB; obtain ⟨HB, BK145, GW145, GE145⟩ := n_; clear hb hbox hg))
  (try simp only [Act.put, List.setIfInBounds_toArray, List.set_cons_zero, List.set_cons_succ])
  go_cut [36] (fun v36 wc => ∃ (kq : Nat) (x36_4 : Bool), v36 = .bool x36_4 ∧ Aside0 (line_Levels.j0 kq l0 l1 a2 x36_4 a3_0 a3_1 = some r) ∧ Aside0 (kq ≤ k) ∧ Aside0 (wc.heap[gb145]? = some (.cells #[.int .i64 a3_0, .int .i64 a3_1] 29 (0, 0))) ∧ Aside0 (Below w.heap.size w wc))
  case first =>
    have H := HC5.out;clear HC5
    by_cases c7 : (l0.length : Int) = (l1.length : Int)
    rotate_left
    · rw [if_neg c7] at H
      have c7b0 := beq_eq_false_iff_ne.mpr c7;have c7b1 := bne_iff_ne.mpr c7
      have c7b2 : (l0.length == l1.length) = false := by first | simpa using c7 | (simp at c7 ⊢; omega)
      (first | rw [c7b0] | (simp only [i64_w, i32_w]; rw [c7b0]) | skip)
      have H' := Aside0.mk H;clear H;go_wp2;go_meet
      case rel => exact ⟨_, (true), uF, H', ⟨by first | omega | exact Nat.le_refl _⟩, ⟨uK BK145.out⟩, ⟨uG HB.out GE145.out⟩⟩
    rw [if_pos c7] at H;have c7b0 := beq_iff_eq.mpr c7;have c7b1 := bne_eq_false_iff_eq.mpr c7
    have c7b2 : (l0.length == l1.length) = true := by first | simpa using c7 | (simp at c7 ⊢; omega)
    clear c7
    (first | rw [c7b0] | (simp only [i64_w, i32_w]; rw [c7b0]) | skip)
    by_cases c8 : a3_0 < 0
    · rw [if_pos c8] at H
      have c8b0 := decide_eq_true c8;clear c8;have H' := Aside0.mk H;clear H;have hcz9_0 : w6.cell? ⟨gb145, 0, none⟩ = some (.int .i64 a3_0) := (blk_cell BK145.out 0).trans rfl;have hcz9_1 : w6.cell? ⟨gb145, 1, none⟩ = some (.int .i64 a3_1) := (blk_cell BK145.out 1).trans rfl;have hfz9_0 := blk_frozen BK145.out 0;have hfz9_1 := blk_frozen BK145.out 1;go_wp2;go_meet
      case rel => exact ⟨_, (true), uF, H', ⟨by first | omega | exact Nat.le_refl _⟩, ⟨uK BK145.out⟩, ⟨uG HB.out GE145.out⟩⟩
    rw [if_neg c8] at H;have c8b0 := decide_eq_false c8;clear c8
    by_cases c10 : a3_0 > a3_1
    · rw [if_pos c10] at H
      have c10b0 : decide (a3_1 < a3_0) = true := decide_eq_true c10;clear c10;have H' := Aside0.mk H;clear H;have hcz11_0 : w6.cell? ⟨gb145, 0, none⟩ = some (.int .i64 a3_0) := (blk_cell BK145.out 0).trans rfl;have hcz11_1 : w6.cell? ⟨gb145, 1, none⟩ = some (.int .i64 a3_1) := (blk_cell BK145.out 1).trans rfl;have hfz11_0 := blk_frozen BK145.out 0;have hfz11_1 := blk_frozen BK145.out 1;go_wp2;go_meet
      case rel => exact ⟨_, (true), uF, H', ⟨by first | omega | exact Nat.le_refl _⟩, ⟨uK BK145.out⟩, ⟨uG HB.out GE145.out⟩⟩
    rw [if_neg c10] at H;have c10b0 : decide (a3_1 < a3_0) = false := decide_eq_false c10;clear c10;have H' := Aside0.mk H;clear H;have hcz12_0 : w6.cell? ⟨gb145, 0, none⟩ = some (.int .i64 a3_0) := (blk_cell BK145.out 0).trans rfl;have hcz12_1 : w6.cell? ⟨gb145, 1, none⟩ = some (.int .i64 a3_1) := (blk_cell BK145.out 1).trans rfl;have hfz12_0 := blk_frozen BK145.out 0;have hfz12_1 := blk_frozen BK145.out 1;go_wp2;go_meet
    case rel => exact ⟨_, (decide (a3_1 > (l0.length : Int))), uF, H', ⟨by first | omega | exact Nat.le_refl _⟩, ⟨uK BK145.out⟩, ⟨uG HB.out GE145.out⟩⟩
  case rest =>
    clear HC5;(try clear c1);(try clear p2);(try clear c7b0);(try clear c7b1);(try clear c7b2);(try clear c8b0);(try clear c10b0);(try clear hcz11_0);(try clear hcz11_1);(try clear hcz12_0);(try clear hcz12_1);(try clear hcz9_0);(try clear hcz9_1);(try clear hfz11_0);(try clear hfz11_1);(try clear hfz12_0);(try clear hfz12_1);(try clear hfz9_0);(try clear hfz9_1);obtain ⟨kq, x36_4, rfl, HA, HJ4, BK145, HB⟩ := hcut
    cases kq with
    | zero => exact absurd HA.out (by simp [line_Levels.j0])
    | succ kj4 =>
      have H := HA.out;clear HA;simp only [line_Levels.j0] at H
      by_cases c13 : x36_4 = true
      · subst c13
        have H1 : (some ([] : List Int)) = some r := by rw [if_pos rfl] at H; exact H
        clear H;have H := H1;clear H1;obtain rfl := Option.some.inj H;go_wp2;go_ret;exact ⟨_, uE, by first | exact Kd.R_nil _ _ _ _ _ | exact Kd.N_nil _ _ _ _ _ | exact Kd.V_nil _ _ _ _ _ | exact Kd.Q_nil _ _ _ _ _ | exact Kd.S_nil _ _ _ _ _, uG HB.out GE145.out⟩
      replace c13 := Bool.eq_false_iff.mpr c13;subst c13
      have H1 : (if 0 ≤ a3_0 then (if a3_0 ≤ a3_1 then (if a3_1 ≤ (l1.length : Int) then ((slices_Clone_int.f ((l1.take (a3_1 : Int).toNat).drop (a3_0 : Int).toNat)).bind fun t147 => (line_Levels.l0 kj4 l0 a2 t147 true (wrap64 ((t147.length : Int) - 1)) a3_0 a3_1)) else (none)) else (none)) else (none)) = some r := by rw [if_neg (show ¬ (false = true) by decide)] at H; exact H
      clear H;have H := H1;clear H1;replace H := uP H;obtain ⟨c14, H⟩ := H;have c14b0 := eq_true c14;have c14b1 := decide_eq_true c14;clear c14;replace H := uP H;obtain ⟨c15, H⟩ := H;have c15b0 := eq_true c15;have c15b1 := decide_eq_true c15;clear c15;replace H := uP H;obtain ⟨c16, H⟩ := H;have c16b0 := eq_true c16;have c16b1 := decide_eq_true c16;clear c16;replace H := Option.bind_eq_some_iff.mp H;obtain ⟨t147, A170, H⟩ := H;have A17 := Aside0.mk A170;clear A170;have H' := Aside0.mk H;clear H;have hcz18_0 : wc.cell? ⟨gb145, 0, none⟩ = some (.int .i64 a3_0) := (blk_cell BK145.out 0).trans rfl;have hcz18_1 : wc.cell? ⟨gb145, 1, none⟩ = some (.int .i64 a3_1) := (blk_cell BK145.out 1).trans rfl;have hfz18_0 := blk_frozen BK145.out 0;have hfz18_1 := blk_frozen BK145.out 1;obtain ⟨i019, hi019, _, hsz19, _⟩ := info_parts info3;obtain ⟨A19, hcut19, hA19, hC19⟩ := print_mid_of (P := Try.prog) (Value.int .i64) 0 22 3 .i64 .i64 Try.underlying22 hi019 hsz19 A1 c1 l1 a3_0 a3_1 (uD) (by first | omega | exact uD) (uD) HC1.out;have HR146 := Aside0.mk (Kd.C_of_reads (h1 := fun _ => rfl) (hA19 _ (Kd.reads_of_C HR1.out)));have HC146 := Aside0.mk hC19;clear hA19 hC19 hi019 hsz19
      go_wp2_with (first | ((with_reducible refine gate_callee (f := 27) rfl ?_); refine goesL_ (some 43) rfl rfl Try.func27 (by kernel_rfl) rfl #[.slice A19 ((l1.take (a3_1 : Int).toNat).drop (a3_0 : Int).toNat).length (c1 - a3_0.toNat)] rfl (by (try simp only [List.map_toArray, List.map_cons, List.map_nil]); first | done | (rw [show ((l1.take (a3_1 : Int).toNat).drop (a3_0 : Int).toNat).length = (a3_1.toNat - a3_0.toNat) from (by rw [List.length_drop, List.length_take]; have h_ : (a3_1 : Int) ≤ (l1.length : Int) := uD; omega)] <;> rfl) | rfl | (simp only [List.length_drop, List.length_take]; rfl)) ?_; (with_reducible refine (slices_Clone_int.calls _ _ ((l1.take (a3_1 : Int).toNat).drop (a3_0 : Int).toNat) t147 _ ?side1 ?side2 A17.out).mono ?_); (case side1 => exact uC (Kd.C_below HR146.out HB.out)); (case side2 => exact HC146.out); rintro e w20 ⟨v148, rfl, ho0, hb⟩; refine ⟨_, rfl, ?_⟩; have n_ := z3_ (Kd.R_lower ho0 (below_size (uG HB.out GE145.out))) (blk_below (g := gb145) (o := .cells #[.int .i64 a3_0, .int .i64 a3_1] 29 (0, 0)) (uK BK145.out) hb) (below_step (uG HB.out GE145.out) hb); clear BK145 HB; obtain ⟨HO149, BK145, HB⟩ := n_; (try clear hb); (try clear ho0); obtain ⟨Ao21, co21, eo21⟩ := Kd.R_slice HO149.out; subst eo21))
      go_loopg [10, 11] kj4 (fun kq v10 v11 w' => ∃ (x9_2 : List Int) (x10_2 : Bool) (x11_2 : Int), v10 = .bool x10_2 ∧ v11 = .int .i64 x11_2 ∧ Aside0 (line_Levels.l0 kq l0 a2 x9_2 x10_2 x11_2 a3_0 a3_1 = some r) ∧ Aside0 (kq ≤ kj4) ∧ Aside0 (Kd.R (Kd.int .i64) 3 w' w.heap.size (fun _ => True) (.slice Ao21 t147.length co21) x9_2) ∧ Aside0 (w'.heap[gb145]? = some (.cells #[.int .i64 a3_0, .int .i64 a3_1] 29 (0, 0))) ∧ Aside0 (Below w.heap.size w w'))
      case atStart => exact ⟨(t147), (true), (wrap64 ((t147.length : Int) - 1)), uF, uF, H', ⟨Nat.le_refl _⟩, ⟨uR HO149.out⟩, ⟨uK BK145.out⟩, ⟨uG HB.out GE145.out⟩⟩
      case round =>
        clear H';(try clear c1);(try clear c2);(try clear p2);(try clear p6);(try clear c7b0);(try clear c7b1);(try clear c7b2);(try clear c8b0);(try clear c10b0);(try clear c13);(try clear c14b0);(try clear c14b1);(try clear c15b0);(try clear c15b1);(try clear c16b0);(try clear c16b1);(try clear c18);(try clear hcz11_0);(try clear hcz11_1);(try clear hcz12_0);(try clear hcz12_1);(try clear hcz18_0);(try clear hcz18_1);(try clear hcz9_0);(try clear hcz9_1);(try clear hfz11_0);(try clear hfz11_1);(try clear hfz12_0);(try clear hfz12_1);(try clear hfz18_0);(try clear hfz18_1);(try clear hfz9_0);(try clear hfz9_1);(try clear p2);obtain ⟨x9_2, x10_2, x11_2, rfl, rfl, HA, HK2, HO_9, BK145, HB⟩ := hrel;have hl9_2 := (Kd.R_reads' HO_9.out).1;rw [hl9_2] at HO_9;(try simp only [hl9_2]);(try simp only [hl9_2] at BK145)
        cases gk with
        | zero => exact absurd HA.out (by simp [line_Levels.l0])
        | succ k2 =>
          have H := HA.out;clear HA;simp only [line_Levels.l0] at H
          by_cases c22 : x11_2 ≥ 0
          rotate_left
          · rw [if_neg c22] at H
            have c22b0 : decide (0 ≤ x11_2) = false := decide_eq_false c22;clear c22;obtain rfl := Option.some.inj H;go_wp2;go_ret;exact ⟨_, uE, uR HO_9.out, uG HB.out GE145.out⟩
          rw [if_pos c22] at H;have c22b0 : decide (0 ≤ x11_2) = true := decide_eq_true c22;clear c22;obtain ⟨ji23, hji23⟩ : ∃ j_ : Int, (wrap64 (a3_0 + x11_2)) = j_ := ⟨_, rfl⟩
          replace H : (if 0 ≤ (ji23) then (if (ji23) < (l0.length : Int) then ((class_Of.f k2 (rd l0 (ji23))).bind fun t151 => (if t151 = 11 then (line_Levels.j2 k2 l0 a2 x9_2 x10_2 x11_2 t151 true a3_0 a3_1) else (line_Levels.j2 k2 l0 a2 x9_2 x10_2 x11_2 t151 (t151 == 10) a3_0 a3_1))) else (none)) else (none)) = some r := by first | (rw [hji23] at H; exact H) | (simp only [hji23] at H ⊢; exact H)
          have hji23w : (IntKind.i64.wrap (a3_0 + x11_2)) = ji23 := (i64_w _).trans hji23;replace H := uI H;obtain ⟨c24b0, H⟩ := H;replace H := uI H;obtain ⟨c25b0, H⟩ := H;replace H := Option.bind_eq_some_iff.mp H;obtain ⟨t151, A260, H⟩ := H;have A26 := Aside0.mk A260;clear A260;have HC27 := Aside0.mk H;clear H;have hcz28_0 : wr.cell? ⟨gb145, 0, none⟩ = some (.int .i64 a3_0) := (blk_cell BK145.out 0).trans rfl;have hcz28_1 : wr.cell? ⟨gb145, 1, none⟩ = some (.int .i64 a3_1) := (blk_cell BK145.out 1).trans rfl;have hfz28_0 := blk_frozen BK145.out 0;have hfz28_1 := blk_frozen BK145.out 1;have p150 : 0 ≤ ((ji23) : Int) := uD;have q150 : (ji23) < (l0.length : Int) := uD;obtain ⟨ad150, e150, hx150_0⟩ := Kd.at_int HR0.out (ji23) p150 q150;cases e150;replace hx150_0 := (HB.out.cell (World.block_lt_of_cell? w _ hx150_0)).trans hx150_0;replace p150 := eq_true p150;replace q150 := eq_true q150
          go_upto_region 9 with (first | ((with_reducible refine gate_callee (f := 28) rfl ?_); refine goesL_ (some 58) rfl rfl Try.func28 (by kernel_rfl) rfl #[.int .i64 (rd l0 (ji23))] rfl (by (try simp only [List.map_toArray, List.map_cons, List.map_nil]); first | done | (simp only [hji23]; rfl) | rfl | (simp only [List.length_drop, List.length_take]; rfl)) ?_; (with_reducible refine (class_Of.calls k2 (rd l0 (ji23)) t151 _ A26.out).mono ?_); rintro e w29 ⟨rfl, hb⟩; refine ⟨_, rfl, ?_⟩; have n_ := z3_ (Kd.R_below (uR HO_9.out) hb) (blk_below (g := gb145) (o := .cells #[.int .i64 a3_0, .int .i64 a3_1] 29 (0, 0)) (uK BK145.out) hb) (below_step (uG HB.out GE145.out) hb); clear HO_9 BK145 HB; obtain ⟨HO_9, BK145, HB⟩ := n_; (try clear hb); (try clear hb2); (try clear hk); (try clear hi)))
          (try simp only [Act.put, List.setIfInBounds_toArray, List.set_cons_zero, List.set_cons_succ])
          go_cut [59] (fun v59 wc => ∃ (kq : Nat) (x59_26 : Bool), v59 = .bool x59_26 ∧ Aside0 (line_Levels.j2 kq l0 a2 x9_2 x10_2 x11_2 t151 x59_26 a3_0 a3_1 = some r) ∧ Aside0 (kq ≤ k2) ∧ Aside0 (Kd.R (Kd.int .i64) 3 wc w.heap.size (fun _ => True) (.slice Ao21 x9_2.length co21) x9_2) ∧ Aside0 (wc.heap[gb145]? = some (.cells #[.int .i64 a3_0, .int .i64 a3_1] 29 (0, 0))) ∧ Aside0 (Below w.heap.size w wc))
          case first =>
            have H := HC27.out;clear HC27
            by_cases c30 : t151 = 11
            rotate_left
            · rw [if_neg c30] at H
              have c30b0 := beq_eq_false_iff_ne.mpr c30;have c30b1 := bne_iff_ne.mpr c30
              (first | rw [c30b0] | (simp only [i64_w, i32_w]; rw [c30b0]) | skip)
              have H' := Aside0.mk H;clear H;go_wp2;go_meet
              case rel => exact ⟨_, ((t151 == 10)), uF, H', ⟨by have := HJ4.out; have := HK2.out; first | omega | exact Nat.le_refl _⟩, ⟨by (try simp only [hl9_2]); (with_reducible repeat (first | apply Kd.R_alloc | apply Kd.R_drewN | apply Kd.R_drew)); exact HO_9.out⟩, ⟨by (try simp only [hl9_2]); (with_reducible repeat (first | refine blk_drewN ?_ _ | refine blk_drew ?_ | refine blk_alloc ?_ _)); exact BK145.out⟩, ⟨uG HB.out GE145.out⟩⟩
            rw [if_pos c30] at H;have c30b0 := beq_iff_eq.mpr c30;have c30b1 := bne_eq_false_iff_eq.mpr c30;clear c30
            (first | rw [c30b0] | (simp only [i64_w, i32_w]; rw [c30b0]) | skip)
            have H' := Aside0.mk H;clear H;go_wp2;go_meet
            case rel => exact ⟨_, (true), uF, H', ⟨by have := HJ4.out; have := HK2.out; first | omega | exact Nat.le_refl _⟩, ⟨by (try simp only [hl9_2]); (with_reducible repeat (first | apply Kd.R_alloc | apply Kd.R_drewN | apply Kd.R_drew)); exact HO_9.out⟩, ⟨by (try simp only [hl9_2]); (with_reducible repeat (first | refine blk_drewN ?_ _ | refine blk_drew ?_ | refine blk_alloc ?_ _)); exact BK145.out⟩, ⟨uG HB.out GE145.out⟩⟩
          case rest =>
            clear HC27;(try clear c1);(try clear p1);(try clear q1);(try clear hx1);(try clear c2);(try clear p2);(try clear c3);(try clear p6);(try clear c7b0);(try clear c7b1);(try clear c7b2);(try clear c8b0);(try clear c10b0);(try clear c13);(try clear c14b0);(try clear c14b1);(try clear c15b0);(try clear c15b1);(try clear p15);(try clear q15);(try clear hx15);(try clear c16b0);(try clear c16b1);(try clear c18);(try clear c22b0);(try clear c24b0);(try clear c25b0);(try clear c27);(try clear c28);(try clear c30b0);(try clear c30b1);(try clear hcz11_0);(try clear hcz11_1);(try clear hcz12_0);(try clear hcz12_1);(try clear hcz18_0);(try clear hcz18_1);(try clear hcz28_0);(try clear hcz28_1);(try clear hcz9_0);(try clear hcz9_1);(try clear hfz11_0);(try clear hfz11_1);(try clear hfz12_0);(try clear hfz12_1);(try clear hfz18_0);(try clear hfz18_1);(try clear hfz28_0);(try clear hfz28_1);(try clear hfz9_0);(try clear hfz9_1);(try clear hx150_0);(try clear p150);(try clear p2);(try clear p6);(try clear q150);obtain ⟨kq, x59_26, rfl, HA, HJ26, HO_9, BK145, HB⟩ := hcut
            cases kq with
            | zero => exact absurd HA.out (by simp [line_Levels.j2])
            | succ kj26 =>
              have H := HA.out;clear HA;simp only [line_Levels.j2] at H
              by_cases c31 : x59_26 = true
              · subst c31
                have H1 : (if 0 ≤ x11_2 then (if x11_2 < (x9_2.length : Int) then (line_Levels.l0 kj26 l0 a2 (x9_2.set (x11_2 : Int).toNat a2) true (wrap64 (x11_2 - 1)) a3_0 a3_1) else (none)) else (none)) = some r := by rw [if_pos rfl] at H; exact H
                clear H;have H := H1;clear H1;replace H := uI H;obtain ⟨c32b0, H⟩ := H;replace H := uI H;obtain ⟨c33b0, H⟩ := H;obtain ⟨y152, hy152⟩ : ∃ y_ : List Int, y_ = (x9_2.set (x11_2 : Int).toNat a2) := ⟨_, rfl⟩;replace H : (line_Levels.l0 kj26 l0 a2 y152 true (wrap64 (x11_2 - 1)) a3_0 a3_1) = some r := uH hy152 H;have Ny152 := Aside0.mk hy152;clear hy152;have H' := Aside0.mk H;clear H;have p34 : 0 ≤ (x11_2 : Int) := uD;have q34 : (x11_2 : Int) < ((x9_2.length : Int) : Int) := uD;obtain ⟨go34, co34, eo34, gb34, gl34, cl34, HG34⟩ := Kd.R_form HO_9.out (by omega)
                (first | cases eo34 | (injection eo34 with ea_ en_ ec_; (first | subst ea_ | (injection ea_ with ea_; subst ea_)); subst ec_; clear en_))
                have GB34 := Aside0.mk gb34;have GG34 := Aside0.mk HG34;clear gb34 gl34 HG34;obtain ⟨hx34_0, hf34_0⟩ := Kd.R_celln 0 HO_9.out (x11_2 : Int) p34 q34;replace p34 := eq_true p34;replace q34 := eq_true q34;have HP35 := Kd.R_putg HO_9.out (x11_2 : Int) a2
                go_wp2_with (first | ((with_reducible refine gate_store (t := 3) (p := 74) rfl ?_); refine store_event (t := 3) (p := 74) (v := ?vo_w36) (w1 := (wc.setCell ⟨go34, (x11_2 : Int).toNat, none⟩ (.int .i64 a2))) ?hg ?ho ?hn ?hr ?_; (case ho => rfl); (case hg => rfl); (case hn => rfl); (case hr => exact uN); intro w36 hw; have hg : wc.grownBy w36 (some go34) := (by rw [hw]; exact HP35.2); have hp_ : Kd.R (Kd.int .i64) 3 w36 w.heap.size (fun _ => True) (.slice (some ⟨go34, 0, none⟩) x9_2.length co21) y152 := (by rw [hw, Ny152.out]; exact HP35.1); clear HP35; have n_ := z3_ (hp_) (blk_grown (g := gb145) (o := .cells #[.int .i64 a3_0, .int .i64 a3_1] 29 (0, 0)) (uK BK145.out) hg (Kd.R_ne HO_9.out BK145.out (by decide))) ((by rw [hw]; exact below_set (HB.out) GB34.out : Below w.heap.size w w36)); clear HO_9 BK145 HB; obtain ⟨HO_9, BK145, HB⟩ := n_; clear hg hw hp_))
                (try simp only [← hl9_2]);go_roundg kj26
                case measure => have := HJ4.out; have := HK2.out; have := HJ26.out; omega
                case rel => exact ⟨(y152), (true), (wrap64 (x11_2 - 1)), uF, uF, H', ⟨by have := HJ4.out; have := HK2.out; have := HJ26.out; omega⟩, ⟨by (try simp only [hl9_2]); (with_reducible repeat (first | apply Kd.R_alloc | apply Kd.R_drewN | apply Kd.R_drew)); exact HO_9.out⟩, ⟨by (try simp only [hl9_2]); (with_reducible repeat (first | refine blk_drewN ?_ _ | refine blk_drew ?_ | refine blk_alloc ?_ _)); exact BK145.out⟩, ⟨uG HB.out GE145.out⟩⟩
              replace c31 := Bool.eq_false_iff.mpr c31;subst c31
              have H1 : ((line_light.f kj26 t151).bind fun t153 => (if t153 = true then (if x10_2 = true then (if 0 ≤ x11_2 then (if x11_2 < (x9_2.length : Int) then (line_Levels.l0 kj26 l0 a2 (x9_2.set (x11_2 : Int).toNat a2) x10_2 (wrap64 (x11_2 - 1)) a3_0 a3_1) else (none)) else (none)) else (line_Levels.l0 kj26 l0 a2 x9_2 x10_2 (wrap64 (x11_2 - 1)) a3_0 a3_1)) else (line_Levels.l0 kj26 l0 a2 x9_2 false (wrap64 (x11_2 - 1)) a3_0 a3_1))) = some r := by rw [if_neg (show ¬ (false = true) by decide)] at H; exact H
              clear H;have H := H1;clear H1;replace H := Option.bind_eq_some_iff.mp H;obtain ⟨t153, A370, H⟩ := H;have A37 := Aside0.mk A370;clear A370
              by_cases c38 : t153 = true
              rotate_left
              · replace c38 := Bool.eq_false_iff.mpr c38
                subst c38
                have H1 : (line_Levels.l0 kj26 l0 a2 x9_2 false (wrap64 (x11_2 - 1)) a3_0 a3_1) = some r := by rw [if_neg (show ¬ (false = true) by decide)] at H; exact H
                clear H;have H := H1;clear H1;have H' := Aside0.mk H;clear H
                go_wp2_with (first | ((with_reducible refine gate_callee (f := 29) rfl ?_); refine gL 68 Try.func29 #[.int .i64 t151] ?_; (with_reducible refine (line_light.calls kj26 t151 false _ A37.out).mono ?_); rintro e w47 ⟨rfl, hb⟩; refine ⟨_, rfl, ?_⟩; have n_ := z3_ (Kd.R_below (uR HO_9.out) hb) (blk_below (g := gb145) (o := .cells #[.int .i64 a3_0, .int .i64 a3_1] 29 (0, 0)) (uK BK145.out) hb) (below_step (uG HB.out GE145.out) hb); clear HO_9 BK145 HB; obtain ⟨HO_9, BK145, HB⟩ := n_; (try clear hb); (try clear hb2); (try clear hk); (try clear hi)))
                (try simp only [← hl9_2]);go_roundg kj26
                case measure => have := HJ4.out; have := HK2.out; have := HJ26.out; omega
                case rel => exact ⟨(x9_2), (false), (wrap64 (x11_2 - 1)), uF, uF, H', ⟨by have := HJ4.out; have := HK2.out; have := HJ26.out; omega⟩, ⟨by (try simp only [hl9_2]); (with_reducible repeat (first | apply Kd.R_alloc | apply Kd.R_drewN | apply Kd.R_drew)); exact HO_9.out⟩, ⟨by (try simp only [hl9_2]); (with_reducible repeat (first | refine blk_drewN ?_ _ | refine blk_drew ?_ | refine blk_alloc ?_ _)); exact BK145.out⟩, ⟨uG HB.out GE145.out⟩⟩
              subst c38
              have H1 : (if x10_2 = true then (if 0 ≤ x11_2 then (if x11_2 < (x9_2.length : Int) then (line_Levels.l0 kj26 l0 a2 (x9_2.set (x11_2 : Int).toNat a2) x10_2 (wrap64 (x11_2 - 1)) a3_0 a3_1) else (none)) else (none)) else (line_Levels.l0 kj26 l0 a2 x9_2 x10_2 (wrap64 (x11_2 - 1)) a3_0 a3_1)) = some r := by rw [if_pos rfl] at H; exact H
              clear H;have H := H1;clear H1
              by_cases c39 : x10_2 = true
              rotate_left
              · replace c39 := Bool.eq_false_iff.mpr c39
                subst c39
                have H1 : (line_Levels.l0 kj26 l0 a2 x9_2 false (wrap64 (x11_2 - 1)) a3_0 a3_1) = some r := by rw [if_neg (show ¬ (false = true) by decide)] at H; exact H
                clear H;have H := H1;clear H1;have H' := Aside0.mk H;clear H
                go_wp2_with (first | ((with_reducible refine gate_callee (f := 29) rfl ?_); refine gL 68 Try.func29 #[.int .i64 t151] ?_; (with_reducible refine (line_light.calls kj26 t151 true _ A37.out).mono ?_); rintro e w46 ⟨rfl, hb⟩; refine ⟨_, rfl, ?_⟩; have n_ := z3_ (Kd.R_below (uR HO_9.out) hb) (blk_below (g := gb145) (o := .cells #[.int .i64 a3_0, .int .i64 a3_1] 29 (0, 0)) (uK BK145.out) hb) (below_step (uG HB.out GE145.out) hb); clear HO_9 BK145 HB; obtain ⟨HO_9, BK145, HB⟩ := n_; (try clear hb); (try clear hb2); (try clear hk); (try clear hi)))
                (try simp only [← hl9_2]);go_roundg kj26
                case measure => have := HJ4.out; have := HK2.out; have := HJ26.out; omega
                case rel => exact ⟨(x9_2), (false), (wrap64 (x11_2 - 1)), uF, uF, H', ⟨by have := HJ4.out; have := HK2.out; have := HJ26.out; omega⟩, ⟨by (try simp only [hl9_2]); (with_reducible repeat (first | apply Kd.R_alloc | apply Kd.R_drewN | apply Kd.R_drew)); exact HO_9.out⟩, ⟨by (try simp only [hl9_2]); (with_reducible repeat (first | refine blk_drewN ?_ _ | refine blk_drew ?_ | refine blk_alloc ?_ _)); exact BK145.out⟩, ⟨uG HB.out GE145.out⟩⟩
              subst c39
              have H1 : (if 0 ≤ x11_2 then (if x11_2 < (x9_2.length : Int) then (line_Levels.l0 kj26 l0 a2 (x9_2.set (x11_2 : Int).toNat a2) true (wrap64 (x11_2 - 1)) a3_0 a3_1) else (none)) else (none)) = some r := by rw [if_pos rfl] at H; exact H
              clear H;have H := H1;clear H1;replace H := uI H;obtain ⟨c40b0, H⟩ := H;replace H := uI H;obtain ⟨c41b0, H⟩ := H;obtain ⟨y154, hy154⟩ : ∃ y_ : List Int, y_ = (x9_2.set (x11_2 : Int).toNat a2) := ⟨_, rfl⟩;replace H : (line_Levels.l0 kj26 l0 a2 y154 true (wrap64 (x11_2 - 1)) a3_0 a3_1) = some r := uH hy154 H;have Ny154 := Aside0.mk hy154;clear hy154;have H' := Aside0.mk H;clear H
              go_wp2_with (first | ((with_reducible refine gate_callee (f := 29) rfl ?_); refine gL 68 Try.func29 #[.int .i64 t151] ?_; (with_reducible refine (line_light.calls kj26 t151 true _ A37.out).mono ?_); rintro e w43 ⟨rfl, hb⟩; refine ⟨_, rfl, ?_⟩; have n_ := z3_ (Kd.R_below (uR HO_9.out) hb) (blk_below (g := gb145) (o := .cells #[.int .i64 a3_0, .int .i64 a3_1] 29 (0, 0)) (uK BK145.out) hb) (below_step (uG HB.out GE145.out) hb); clear HO_9 BK145 HB; obtain ⟨HO_9, BK145, HB⟩ := n_; (try clear hb); (try clear hb2); (try clear hk); (try clear hi); have p42 : 0 ≤ (x11_2 : Int) := uD; have q42 : (x11_2 : Int) < ((x9_2.length : Int) : Int) := uD; obtain ⟨go42, co42, eo42, gb42, gl42, cl42, HG42⟩ := Kd.R_form HO_9.out (by omega); (first | cases eo42 | (injection eo42 with ea_ en_ ec_; (first | subst ea_ | (injection ea_ with ea_; subst ea_)); subst ec_; clear en_)); have GB42 := Aside0.mk gb42; have GG42 := Aside0.mk HG42; clear gb42 gl42 HG42; obtain ⟨hx42_0, hf42_0⟩ := Kd.R_celln 0 HO_9.out (x11_2 : Int) p42 q42; replace p42 := eq_true p42; replace q42 := eq_true q42; obtain ⟨hy44_, hz44_⟩ := Kd.R_celln 0 HO_9.out (x11_2 : Int) (uD) (uD); have HP44 := Kd.R_putg HO_9.out (x11_2 : Int) a2) | ((with_reducible refine gate_store (t := 3) (p := 74) rfl ?_); refine store_event (t := 3) (p := 74) (v := ?vo_w45) (w1 := (w43.setCell ⟨go42, (x11_2 : Int).toNat, none⟩ (.int .i64 a2))) ?hg ?ho ?hn ?hr ?_; (case ho => rfl); (case hg => rfl); (case hn => rfl); (case hr => exact uN); intro w45 hw; have hg : w43.grownBy w45 (some go42) := (by rw [hw]; exact HP44.2); have hp_ : Kd.R (Kd.int .i64) 3 w45 w.heap.size (fun _ => True) (.slice (some ⟨go42, 0, none⟩) x9_2.length co21) y154 := (by rw [hw, Ny154.out]; exact HP44.1); clear HP44; have n_ := z3_ (hp_) (blk_grown (g := gb145) (o := .cells #[.int .i64 a3_0, .int .i64 a3_1] 29 (0, 0)) (uK BK145.out) hg (Kd.R_ne HO_9.out BK145.out (by decide))) ((by rw [hw]; exact below_set (HB.out) GB42.out : Below w.heap.size w w45)); clear HO_9 BK145 HB; obtain ⟨HO_9, BK145, HB⟩ := n_; clear hg hw hp_))
              (try simp only [← hl9_2]);go_roundg kj26
              case measure => have := HJ4.out; have := HK2.out; have := HJ26.out; omega
              case rel => exact ⟨(y154), (true), (wrap64 (x11_2 - 1)), uF, uF, H', ⟨by have := HJ4.out; have := HK2.out; have := HJ26.out; omega⟩, ⟨by (try simp only [hl9_2]); (with_reducible repeat (first | apply Kd.R_alloc | apply Kd.R_drewN | apply Kd.R_drew)); exact HO_9.out⟩, ⟨by (try simp only [hl9_2]); (with_reducible repeat (first | refine blk_drewN ?_ _ | refine blk_drew ?_ | refine blk_alloc ?_ _)); exact BK145.out⟩, ⟨uG HB.out GE145.out⟩⟩
def ductuslaw13_alive.f (k : Nat)  : Option (Bool) := (line_Lines.f k (([2, 5] : List Int)) 5).bind fun bt158 => ((line_Lines.f k (([2, 2] : List Int)) 2).bind fun bt165 => ((line_Levels.f k (([1488, 32, 9, 32, 8297] : List Int)) (([1, 1, 1, 1, 1] : List Int)) 0 0 5).bind fun t175 => (if bt158.2 = 0 then (if bt165.2 = 3 then (if (bt158.1.length : Int) = 2 then (if 1 < (bt158.1.length : Int) then (if (((rd_T29 bt158.1 1).f0) == 2 && (((rd_T29 bt158.1 1).f1) == 5)) = true then ((ductusref01_Ints.f k t175 (([1, 0, 0, 0, 0] : List Int))).bind fun t182 => (if t182 = true then ((line_Of.f (([2, 5] : List Int)) 2).bind fun t186 => (if t186 = 1 then ((line_Wrap.f k 5 2).bind fun t187 => ((ductusref01_Ints.f k t187 (([2, 4, 5] : List Int))).bind fun t193 => (if t193 = true then ((line_Right.f k ([] : List Int) 0).bind fun t194 => (some t194)) else (none)))) else (none))) else (none))) else (none)) else (none)) else (none)) else (none)) else (none))))
theorem ductuslaw13_alive.mono : ∀ k, LeO (ductuslaw13_alive.f k ) (ductuslaw13_alive.f (k + 1) ) := by
  intro  k;unfold ductuslaw13_alive.f
  repeat' first
      | (with_reducible exact ductusref01_Ints.mono _ _ _)
      | (with_reducible exact line_Levels.mono _ _ _ _ _ _)
      | (with_reducible exact line_Lines.mono _ _ _)
      | (with_reducible exact line_Right.mono _ _ _)
      | (with_reducible exact line_Wrap.mono _ _ _)
      | (with_reducible exact LeO.refl _)
      | (with_reducible exact LeO.none _)
      | (with_reducible refine LeO.ite ?_ ?_)
      | (with_reducible refine LeO.bind ?_ (fun _ => ?_))
      | exact ductusref01_Ints.mono _ _ _
      | exact line_Levels.mono _ _ _ _ _ _
      | exact line_Lines.mono _ _ _
      | exact line_Right.mono _ _ _
      | exact line_Wrap.mono _ _ _
      | exact LeO.none _
      | refine LeO.ite ?_ ?_
      | refine LeO.bind ?_ (fun _ => ?_)
theorem ductuslaw13_alive.calls (k : Nat)  (r : Bool) (w : World) (h : ductuslaw13_alive.f k  = some r) :
    Calls Try.prog 8 #[] w fun e w' => e = .returned (.bool r) ∧ Below w.heap.size w w' := by
  have hu29 := Try.underlying29;have HB := Aside0.mk (Below.refl w.heap.size w);have H : ((line_Lines.f k (([2, 5] : List Int)) 5).bind fun bt158 => ((line_Lines.f k (([2, 2] : List Int)) 2).bind fun bt165 => ((line_Levels.f k (([1488, 32, 9, 32, 8297] : List Int)) (([1, 1, 1, 1, 1] : List Int)) 0 0 5).bind fun t175 => (if bt158.2 = 0 then (if bt165.2 = 3 then (if (bt158.1.length : Int) = 2 then (if 1 < (bt158.1.length : Int) then (if (((rd_T29 bt158.1 1).f0) == 2 && (((rd_T29 bt158.1 1).f1) == 5)) = true then ((ductusref01_Ints.f k t175 (([1, 0, 0, 0, 0] : List Int))).bind fun t182 => (if t182 = true then ((line_Of.f (([2, 5] : List Int)) 2).bind fun t186 => (if t186 = 1 then ((line_Wrap.f k 5 2).bind fun t187 => ((ductusref01_Ints.f k t187 (([2, 4, 5] : List Int))).bind fun t193 => (if t193 = true then ((line_Right.f k ([] : List Int) 0).bind fun t194 => (some t194)) else (none)))) else (none))) else (none))) else (none)) else (none)) else (none)) else (none)) else (none))))) = some r := h;clear h;obtain ⟨y155, hy155⟩ : ∃ y_ : List Int, y_ = (([2, 5] : List Int)) := ⟨_, rfl⟩;replace H : ((line_Lines.f k y155 5).bind fun bt158 => ((line_Lines.f k (([2, 2] : List Int)) 2).bind fun bt165 => ((line_Levels.f k (([1488, 32, 9, 32, 8297] : List Int)) (([1, 1, 1, 1, 1] : List Int)) 0 0 5).bind fun t175 => (if bt158.2 = 0 then (if bt165.2 = 3 then (if (bt158.1.length : Int) = 2 then (if 1 < (bt158.1.length : Int) then (if (((rd_T29 bt158.1 1).f0) == 2 && (((rd_T29 bt158.1 1).f1) == 5)) = true then ((ductusref01_Ints.f k t175 (([1, 0, 0, 0, 0] : List Int))).bind fun t182 => (if t182 = true then ((line_Of.f (([2, 5] : List Int)) 2).bind fun t186 => (if t186 = 1 then ((line_Wrap.f k 5 2).bind fun t187 => ((ductusref01_Ints.f k t187 (([2, 4, 5] : List Int))).bind fun t193 => (if t193 = true then ((line_Right.f k ([] : List Int) 0).bind fun t194 => (some t194)) else (none)))) else (none))) else (none))) else (none)) else (none)) else (none)) else (none)) else (none))))) = some r := uH hy155 H;have Ny155 := Aside0.mk hy155;clear hy155;replace H := Option.bind_eq_some_iff.mp H;obtain ⟨⟨t158, t159⟩, A10, H⟩ := H;have A1 := Aside0.mk A10;clear A10;obtain ⟨y162, hy162⟩ : ∃ y_ : List Int, y_ = (([2, 2] : List Int)) := ⟨_, rfl⟩
  replace H : ((line_Lines.f k y162 2).bind fun bt165 => ((line_Levels.f k (([1488, 32, 9, 32, 8297] : List Int)) (([1, 1, 1, 1, 1] : List Int)) 0 0 5).bind fun t175 => (if t159 = 0 then (if bt165.2 = 3 then (if (t158.length : Int) = 2 then (if 1 < (t158.length : Int) then (if (((rd_T29 t158 1).f0) == 2 && (((rd_T29 t158 1).f1) == 5)) = true then ((ductusref01_Ints.f k t175 (([1, 0, 0, 0, 0] : List Int))).bind fun t182 => (if t182 = true then ((line_Of.f (([2, 5] : List Int)) 2).bind fun t186 => (if t186 = 1 then ((line_Wrap.f k 5 2).bind fun t187 => ((ductusref01_Ints.f k t187 (([2, 4, 5] : List Int))).bind fun t193 => (if t193 = true then ((line_Right.f k ([] : List Int) 0).bind fun t194 => (some t194)) else (none)))) else (none))) else (none))) else (none)) else (none)) else (none)) else (none)) else (none)))) = some r := uH hy162 H;have Ny162 := Aside0.mk hy162;clear hy162;replace H := Option.bind_eq_some_iff.mp H;obtain ⟨⟨t165, t166⟩, A20, H⟩ := H;have A2 := Aside0.mk A20;clear A20;obtain ⟨y169, hy169⟩ : ∃ y_ : List Int, y_ = (([1488, 32, 9, 32, 8297] : List Int)) := ⟨_, rfl⟩;replace H : ((line_Levels.f k y169 (([1, 1, 1, 1, 1] : List Int)) 0 0 5).bind fun t175 => (if t159 = 0 then (if t166 = 3 then (if (t158.length : Int) = 2 then (if 1 < (t158.length : Int) then (if (((rd_T29 t158 1).f0) == 2 && (((rd_T29 t158 1).f1) == 5)) = true then ((ductusref01_Ints.f k t175 (([1, 0, 0, 0, 0] : List Int))).bind fun t182 => (if t182 = true then ((line_Of.f (([2, 5] : List Int)) 2).bind fun t186 => (if t186 = 1 then ((line_Wrap.f k 5 2).bind fun t187 => ((ductusref01_Ints.f k t187 (([2, 4, 5] : List Int))).bind fun t193 => (if t193 = true then ((line_Right.f k ([] : List Int) 0).bind fun t194 => (some t194)) else (none)))) else (none))) else (none))) else (none)) else (none)) else (none)) else (none)) else (none))) = some r := uH hy169 H;have Ny169 := Aside0.mk hy169;clear hy169;obtain ⟨y172, hy172⟩ : ∃ y_ : List Int, y_ = (([1, 1, 1, 1, 1] : List Int)) := ⟨_, rfl⟩;replace H : ((line_Levels.f k y169 y172 0 0 5).bind fun t175 => (if t159 = 0 then (if t166 = 3 then (if (t158.length : Int) = 2 then (if 1 < (t158.length : Int) then (if (((rd_T29 t158 1).f0) == 2 && (((rd_T29 t158 1).f1) == 5)) = true then ((ductusref01_Ints.f k t175 (([1, 0, 0, 0, 0] : List Int))).bind fun t182 => (if t182 = true then ((line_Of.f (([2, 5] : List Int)) 2).bind fun t186 => (if t186 = 1 then ((line_Wrap.f k 5 2).bind fun t187 => ((ductusref01_Ints.f k t187 (([2, 4, 5] : List Int))).bind fun t193 => (if t193 = true then ((line_Right.f k ([] : List Int) 0).bind fun t194 => (some t194)) else (none)))) else (none))) else (none))) else (none)) else (none)) else (none)) else (none)) else (none))) = some r := uH hy172 H;have Ny172 := Aside0.mk hy172;clear hy172;replace H := Option.bind_eq_some_iff.mp H;obtain ⟨t175, A30, H⟩ := H;have A3 := Aside0.mk A30;clear A30;replace H := uP H;obtain ⟨c4, H⟩ := H;have c4b0 := beq_iff_eq.mpr c4;have c4b1 := bne_eq_false_iff_eq.mpr c4;clear c4
  replace H := uP H;obtain ⟨c5, H⟩ := H;have c5b0 := beq_iff_eq.mpr c5;have c5b1 := bne_eq_false_iff_eq.mpr c5;clear c5;replace H := uP H;obtain ⟨c6, H⟩ := H;have c6b0 := beq_iff_eq.mpr c6;have c6b1 := bne_eq_false_iff_eq.mpr c6;clear c6;replace H := uP H;obtain ⟨c7, H⟩ := H;have c7b0 := decide_eq_true c7;have c7b1 : decide (1 < t158.length) = true := decide_eq_true (by omega);clear c7;replace H := uP H;obtain ⟨c8, H⟩ := H;have c8b0 : (((rd_T29 t158 1).f0) == 2 && (((rd_T29 t158 1).f1) == 5)) = true := c8;(try (have c8b1 : decide (((rd_T29 t158 1).f0) = 2 && (((rd_T29 t158 1).f1) == 5)) = true := by simpa using c8));(try (have c8b2 : (((rd_T29 t158 1).f0) == 2 && (((rd_T29 t158 1).f1) == 5)) = true := by simpa using c8));clear c8;obtain ⟨y179, hy179⟩ : ∃ y_ : List Int, y_ = (([1, 0, 0, 0, 0] : List Int)) := ⟨_, rfl⟩;replace H : ((ductusref01_Ints.f k t175 y179).bind fun t182 => (if t182 = true then ((line_Of.f (([2, 5] : List Int)) 2).bind fun t186 => (if t186 = 1 then ((line_Wrap.f k 5 2).bind fun t187 => ((ductusref01_Ints.f k t187 (([2, 4, 5] : List Int))).bind fun t193 => (if t193 = true then ((line_Right.f k ([] : List Int) 0).bind fun t194 => (some t194)) else (none)))) else (none))) else (none))) = some r := uH hy179 H;have Ny179 := Aside0.mk hy179;clear hy179;replace H := Option.bind_eq_some_iff.mp H;obtain ⟨t182, A90, H⟩ := H;have A9 := Aside0.mk A90;clear A90
  by_cases c10 : t182 = true
  rotate_left
  · replace c10 := Bool.eq_false_iff.mpr c10
    subst c10
    have H1 : (none) = some r := by rw [if_neg (show ¬ (false = true) by decide)] at H; exact H
    clear H;have H := H1;clear H1;exact absurd H (by simp)
  subst c10
  have H1 : ((line_Of.f (([2, 5] : List Int)) 2).bind fun t186 => (if t186 = 1 then ((line_Wrap.f k 5 2).bind fun t187 => ((ductusref01_Ints.f k t187 (([2, 4, 5] : List Int))).bind fun t193 => (if t193 = true then ((line_Right.f k ([] : List Int) 0).bind fun t194 => (some t194)) else (none)))) else (none))) = some r := by rw [if_pos rfl] at H; exact H
  clear H;have H := H1;clear H1;obtain ⟨y183, hy183⟩ : ∃ y_ : List Int, y_ = (([2, 5] : List Int)) := ⟨_, rfl⟩;replace H : ((line_Of.f y183 2).bind fun t186 => (if t186 = 1 then ((line_Wrap.f k 5 2).bind fun t187 => ((ductusref01_Ints.f k t187 (([2, 4, 5] : List Int))).bind fun t193 => (if t193 = true then ((line_Right.f k ([] : List Int) 0).bind fun t194 => (some t194)) else (none)))) else (none))) = some r := uH hy183 H;have Ny183 := Aside0.mk hy183;clear hy183;replace H := Option.bind_eq_some_iff.mp H;obtain ⟨t186, A110, H⟩ := H;have A11 := Aside0.mk A110;clear A110;replace H := uP H;obtain ⟨c12, H⟩ := H;have c12b0 := beq_iff_eq.mpr c12;have c12b1 := bne_eq_false_iff_eq.mpr c12;clear c12;replace H := Option.bind_eq_some_iff.mp H;obtain ⟨t187, A130, H⟩ := H;have A13 := Aside0.mk A130;clear A130;obtain ⟨y190, hy190⟩ : ∃ y_ : List Int, y_ = (([2, 4, 5] : List Int)) := ⟨_, rfl⟩;replace H : ((ductusref01_Ints.f k t187 y190).bind fun t193 => (if t193 = true then ((line_Right.f k ([] : List Int) 0).bind fun t194 => (some t194)) else (none))) = some r := uH hy190 H;have Ny190 := Aside0.mk hy190;clear hy190;replace H := Option.bind_eq_some_iff.mp H;obtain ⟨t193, A140, H⟩ := H;have A14 := Aside0.mk A140;clear A140
  by_cases c15 : t193 = true
  rotate_left
  · replace c15 := Bool.eq_false_iff.mpr c15
    subst c15
    have H1 : (none) = some r := by rw [if_neg (show ¬ (false = true) by decide)] at H; exact H
    clear H;have H := H1;clear H1;exact absurd H (by simp)
  subst c15
  have H1 : ((line_Right.f k ([] : List Int) 0).bind fun t194 => (some t194)) = some r := by rw [if_pos rfl] at H; exact H
  clear H;have H := H1;clear H1;replace H := Option.bind_eq_some_iff.mp H;obtain ⟨t194, A160, H⟩ := H;have A16 := Aside0.mk A160;clear A160;obtain rfl := Option.some.inj H
  go_enter Try.func8, Try.ntmps8
  go_wp2_with (first | ((with_reducible refine gate_dst (N := 7) rfl ?_); (try (refine gate_guard (by rfl) ?_; dsimp only)); refine Kd.R_lit (Kd.int .i64) _ 3 ?hg (N := 7) ?hd (xs := ([2, 5] : List Int)) (inner := [.int .i64 2, .int .i64 5]) (ok := fun _ => True) (okp := fun _ => True) ?hr ?hp (fun _ hk => hk) trivial (Below.refl _ _) (Nat.le_refl _) (by simp) ?_; (case hd => rfl); (case hg => rfl); (case hr => exact uN); (case hp => exact (Reps.one uL (Reps.one uL (Reps.none _ _)))); intro v156 w17 ho18 hb hg_ hnew_; clear hg_ hnew_; (first | rw [← Ny155.out] at ho18 | (simp only [Int.reduceToNat] at ho18; rw [← Ny155.out] at ho18)); have n_ := z2_ (Kd.R_lower ho18 (below_size (uB HB.out))) (below_step (uB HB.out) hb); clear HB; obtain ⟨HO157, HB⟩ := n_; clear hb ho18; obtain ⟨Ao19, co19, eo19⟩ := Kd.R_slice HO157.out; subst eo19) | ((with_reducible refine gate_callee (f := 9) rfl ?_); refine gL 8 Try.func9 #[.slice Ao19 y155.length co19, .int .i64 5] ?_; (with_reducible refine (line_Lines.calls k _ _ y155 5 t158 t159 _ ?side1 ?side2 A1.out).mono ?_); (case side1 => exact uC (Kd.R_reads' HO157.out).2.2); (case side2 => exact (Kd.R_reads' HO157.out).2.1); rintro e w20 ⟨v160, rfl, ho0, hb⟩; refine ⟨_, rfl, ?_⟩; have n_ := z3_ (Kd.R_below (uR HO157.out) hb) (Kd.R_lower ho0 (below_size (uB HB.out))) (below_step (uB HB.out) hb); clear HO157 HB; obtain ⟨HO157, HO161, HB⟩ := n_; (try clear hb); (try clear ho0)) | ((with_reducible refine gate_dst (N := 12) rfl ?_); (try (refine gate_guard (by rfl) ?_; dsimp only)); refine Kd.R_lit (Kd.int .i64) _ 3 ?hg (N := 12) ?hd (xs := ([2, 2] : List Int)) (inner := [.int .i64 2, .int .i64 2]) (ok := fun _ => True) (okp := fun _ => True) ?hr ?hp (fun _ hk => hk) trivial (Below.refl _ _) (Nat.le_refl _) (by simp) ?_; (case hd => rfl); (case hg => rfl); (case hr => exact uN); (case hp => exact (Reps.one uL (Reps.one uL (Reps.none _ _)))); intro v163 w21 ho22 hb hg_ hnew_; clear hg_ hnew_; (first | rw [← Ny162.out] at ho22 | (simp only [Int.reduceToNat] at ho22; rw [← Ny162.out] at ho22)); have n_ := z4_ (Kd.R_elder' (uR HO157.out) (Kd.R_base ho22) hb) (Kd.R_below (uR HO161.out) hb) (Kd.R_lower (Kd.R_new' ho22 (Kd.R_lt (uR HO157.out))) (below_size (uB HB.out))) (below_step (uB HB.out) hb); clear HO157 HO161 HB; obtain ⟨HO157, HO161, HO164, HB⟩ := n_; clear hb ho22; obtain ⟨Ao23, co23, eo23⟩ := Kd.R_slice HO164.out; subst eo23) | ((with_reducible refine gate_callee (f := 9) rfl ?_); refine gL 13 Try.func9 #[.slice Ao23 y162.length co23, .int .i64 2] ?_; (with_reducible refine (line_Lines.calls k _ _ y162 2 t165 t166 _ ?side1 ?side2 A2.out).mono ?_); (case side1 => exact uC (Kd.R_reads' HO164.out).2.2); (case side2 => exact (Kd.R_reads' HO164.out).2.1); rintro e w24 ⟨v167, rfl, ho0, hb⟩; refine ⟨_, rfl, ?_⟩; have n_ := z5_ (Kd.R_below (uR HO157.out) hb) (Kd.R_elder' (uR HO161.out) (Kd.R_base ho0) hb) (Kd.R_below (uR HO164.out) hb) (Kd.R_lower (Kd.R_new' ho0 (Kd.R_lt (uR HO161.out))) (below_size (uB HB.out))) (below_step (uB HB.out) hb); clear HO157 HO161 HO164 HB; obtain ⟨HO157, HO161, HO164, HO168, HB⟩ := n_; (try clear hb); (try clear ho0)) | ((with_reducible refine gate_dst (N := 16) rfl ?_); (try (refine gate_guard (by rfl) ?_; dsimp only)); refine Kd.R_lit (Kd.int .i64) _ 3 ?hg (N := 16) ?hd (xs := ([1488, 32, 9, 32, 8297] : List Int)) (inner := [.int .i64 1488, .int .i64 32, .int .i64 9, .int .i64 32, .int .i64 8297]) (ok := fun _ => True) (okp := fun _ => True) ?hr ?hp (fun _ hk => hk) trivial (Below.refl _ _) (Nat.le_refl _) (by simp) ?_; (case hd => rfl); (case hg => rfl); (case hr => exact uN); (case hp => exact (Reps.one uL (Reps.one uL (Reps.one uL (Reps.one uL (Reps.one uL (Reps.none _ _))))))); intro v170 w25 ho26 hb hg_ hnew_; clear hg_ hnew_; (first | rw [← Ny169.out] at ho26 | (simp only [Int.reduceToNat] at ho26; rw [← Ny169.out] at ho26)); have n_ := z6_ (Kd.R_elder' (uR HO157.out) (Kd.R_base ho26) hb) (Kd.R_below (uR HO161.out) hb) (Kd.R_elder' (uR HO164.out) (Kd.R_base ho26) hb) (Kd.R_below (uR HO168.out) hb) (Kd.R_lower (Kd.R_new' (Kd.R_new' ho26 (Kd.R_lt (uR HO157.out))) (Kd.R_lt (uR HO164.out))) (below_size (uB HB.out))) (below_step (uB HB.out) hb); clear HO157 HO161 HO164 HO168 HB; obtain ⟨HO157, HO161, HO164, HO168, HO171, HB⟩ := n_; clear hb ho26) | ((with_reducible refine gate_dst (N := 17) rfl ?_); (try (refine gate_guard (by rfl) ?_; dsimp only)); refine Kd.R_lit (Kd.int .i64) _ 3 ?hg (N := 17) ?hd (xs := ([1, 1, 1, 1, 1] : List Int)) (inner := [.int .i64 1, .int .i64 1, .int .i64 1, .int .i64 1, .int .i64 1]) (ok := fun _ => True) (okp := fun _ => True) ?hr ?hp (fun _ hk => hk) trivial (Below.refl _ _) (Nat.le_refl _) (by simp) ?_; (case hd => rfl); (case hg => rfl); (case hr => exact uN); (case hp => exact (Reps.one uL (Reps.one uL (Reps.one uL (Reps.one uL (Reps.one uL (Reps.none _ _))))))); intro v173 w27 ho28 hb hg_ hnew_; clear hg_ hnew_; (first | rw [← Ny172.out] at ho28 | (simp only [Int.reduceToNat] at ho28; rw [← Ny172.out] at ho28)); have n_ := z7_ (Kd.R_elder' (uR HO157.out) (Kd.R_base ho28) hb) (Kd.R_below (uR HO161.out) hb) (Kd.R_elder' (uR HO164.out) (Kd.R_base ho28) hb) (Kd.R_below (uR HO168.out) hb) (Kd.R_elder' (uR HO171.out) (Kd.R_base ho28) hb) (Kd.R_lower (Kd.R_new' (Kd.R_new' (Kd.R_new' ho28 (Kd.R_lt (uR HO157.out))) (Kd.R_lt (uR HO164.out))) (Kd.R_lt (uR HO171.out))) (below_size (uB HB.out))) (below_step (uB HB.out) hb); clear HO157 HO161 HO164 HO168 HO171 HB; obtain ⟨HO157, HO161, HO164, HO168, HO171, HO174, HB⟩ := n_; clear hb ho28; obtain ⟨Ao29, co29, eo29⟩ := Kd.R_slice HO171.out; subst eo29; obtain ⟨Ao30, co30, eo30⟩ := Kd.R_slice HO174.out; subst eo30) | ((with_reducible refine gate_callee (f := 18) rfl ?_); refine gL 19 Try.func18 #[.slice Ao29 y169.length co29, .slice Ao30 y172.length co30, .int .i64 0, .agg #[.int .i64 0, .int .i64 5]] ?_; (with_reducible refine (line_Levels.calls k _ _ y169 _ _ y172 0 0 5 t175 _ ?side1 ?side2 ?side3 ?side4 A3.out).mono ?_); (case side1 => exact uC (Kd.R_reads' HO171.out).2.2); (case side2 => exact (Kd.R_reads' HO171.out).2.1); (case side3 => exact uC (Kd.R_reads' HO174.out).2.2); (case side4 => exact (Kd.R_reads' HO174.out).2.1); rintro e w31 ⟨v176, rfl, ho0, hb⟩; refine ⟨_, rfl, ?_⟩; have n_ := z8_ (Kd.R_elder' (uR HO157.out) (Kd.R_base ho0) hb) (Kd.R_below (uR HO161.out) hb) (Kd.R_elder' (uR HO164.out) (Kd.R_base ho0) hb) (Kd.R_below (uR HO168.out) hb) (Kd.R_elder' (uR HO171.out) (Kd.R_base ho0) hb) (Kd.R_elder' (uR HO174.out) (Kd.R_base ho0) hb) (Kd.R_lower (Kd.R_new' (Kd.R_new' (Kd.R_new' (Kd.R_new' ho0 (Kd.R_lt (uR HO157.out))) (Kd.R_lt (uR HO164.out))) (Kd.R_lt (uR HO171.out))) (Kd.R_lt (uR HO174.out))) (below_size (uB HB.out))) (below_step (uB HB.out) hb); clear HO157 HO161 HO164 HO168 HO171 HO174 HB; obtain ⟨HO157, HO161, HO164, HO168, HO171, HO174, HO177, HB⟩ := n_; (try clear hb); (try clear ho0); obtain ⟨Ao32, co32, eo32⟩ := Kd.R_slice HO161.out; subst eo32; have p178 : 0 ≤ (1 : Int) := (by omega); have q178 : 1 < (t158.length : Int) := uD; obtain ⟨ad178, e178, hx178_0, hx178_1⟩ := at_T29 (Kd.R_reads' HO161.out).2.2 1 p178 q178; cases e178; (try simp only [show (1 : Int).toNat = 1 from rfl, Nat.reduceMul, Nat.reduceEqDiff, Go.Addr.add, ↓reduceIte] at hx178_0); (try simp only [show (1 : Int).toNat = 1 from rfl, Nat.reduceMul, Nat.reduceEqDiff, Go.Addr.add, ↓reduceIte] at hx178_1); have qi178 : (1 < t158.length) = True := eq_true (by omega); (try rw [show ((1 : Int)).toNat = 1 from rfl] at hx178_0); (try rw [show 1 * 2 = 2 from rfl] at hx178_0); (try rw [show ((1 : Int)).toNat = 1 from rfl] at hx178_1); (try rw [show 1 * 2 = 2 from rfl] at hx178_1); replace p178 := eq_true p178; replace q178 := eq_true q178) | ((with_reducible refine gate_dst (N := 40) rfl ?_); (try (refine gate_guard (by rfl) ?_; dsimp only)); refine Kd.R_lit (Kd.int .i64) _ 3 ?hg (N := 40) ?hd (xs := ([1, 0, 0, 0, 0] : List Int)) (inner := [.int .i64 1, .int .i64 0, .int .i64 0, .int .i64 0, .int .i64 0]) (ok := fun _ => True) (okp := fun _ => True) ?hr ?hp (fun _ hk => hk) trivial (Below.refl _ _) (Nat.le_refl _) (by simp) ?_; (case hd => rfl); (case hg => rfl); (case hr => exact uN); (case hp => exact (Reps.one uL (Reps.one uL (Reps.one uL (Reps.one uL (Reps.one uL (Reps.none _ _))))))); intro v180 w33 ho34 hb hg_ hnew_; clear hg_ hnew_; (first | rw [← Ny179.out] at ho34 | (simp only [Int.reduceToNat] at ho34; rw [← Ny179.out] at ho34)); have n_ := z9_ (Kd.R_elder' (uR HO157.out) (Kd.R_base ho34) hb) (Kd.R_below (uR HO161.out) hb) (Kd.R_elder' (uR HO164.out) (Kd.R_base ho34) hb) (Kd.R_below (uR HO168.out) hb) (Kd.R_elder' (uR HO171.out) (Kd.R_base ho34) hb) (Kd.R_elder' (uR HO174.out) (Kd.R_base ho34) hb) (Kd.R_elder' (uR HO177.out) (Kd.R_base ho34) hb) (Kd.R_lower (Kd.R_new' (Kd.R_new' (Kd.R_new' (Kd.R_new' (Kd.R_new' ho34 (Kd.R_lt (uR HO157.out))) (Kd.R_lt (uR HO164.out))) (Kd.R_lt (uR HO171.out))) (Kd.R_lt (uR HO174.out))) (Kd.R_lt (uR HO177.out))) (below_size (uB HB.out))) (below_step (uB HB.out) hb); clear HO157 HO161 HO164 HO168 HO171 HO174 HO177 HB; obtain ⟨HO157, HO161, HO164, HO168, HO171, HO174, HO177, HO181, HB⟩ := n_; clear hb ho34; obtain ⟨Ao35, co35, eo35⟩ := Kd.R_slice HO177.out; subst eo35; obtain ⟨Ao36, co36, eo36⟩ := Kd.R_slice HO181.out; subst eo36) | (go_at_call 15; (fail_if_success (have _ := HO185)); (with_reducible refine (ductusref01_Ints.calls k _ _ t175 _ _ y179 true _ ?side1 ?side2 ?side3 ?side4 A9.out).mono ?_); (case side1 => exact uC (Kd.R_reads' HO177.out).2.2); (case side2 => exact (Kd.R_reads' HO177.out).2.1); (case side3 => exact uC (Kd.R_reads' HO181.out).2.2); (case side4 => exact (Kd.R_reads' HO181.out).2.1); rintro e w' ⟨rfl, ⟨nd, rfl⟩⟩) | ((with_reducible refine gate_dst (N := 44) rfl ?_); (try (refine gate_guard (by rfl) ?_; dsimp only)); refine Kd.R_lit (Kd.int .i64) _ 3 ?hg (N := 44) ?hd (xs := ([2, 5] : List Int)) (inner := [.int .i64 2, .int .i64 5]) (ok := fun _ => True) (okp := fun _ => True) ?hr ?hp (fun _ hk => hk) trivial (Below.refl _ _) (Nat.le_refl _) (by simp) ?_; (case hd => rfl); (case hg => rfl); (case hr => exact uN); (case hp => exact (Reps.one uL (Reps.one uL (Reps.none _ _)))); intro v184 w37 ho38 hb hg_ hnew_; clear hg_ hnew_; (first | rw [← Ny183.out] at ho38 | (simp only [Int.reduceToNat] at ho38; rw [← Ny183.out] at ho38)); have n_ := z10_ (Kd.R_elder' (uR HO157.out) (Kd.R_base ho38) hb) (Kd.R_below (uR HO161.out) hb) (Kd.R_elder' (uR HO164.out) (Kd.R_base ho38) hb) (Kd.R_below (uR HO168.out) hb) (Kd.R_elder' (uR HO171.out) (Kd.R_base ho38) hb) (Kd.R_elder' (uR HO174.out) (Kd.R_base ho38) hb) (Kd.R_elder' (uR HO177.out) (Kd.R_base ho38) hb) (Kd.R_elder' (uR HO181.out) (Kd.R_base ho38) hb) (Kd.R_lower (Kd.R_new' (Kd.R_new' (Kd.R_new' (Kd.R_new' (Kd.R_new' (Kd.R_new' ho38 (Kd.R_lt (uR HO157.out))) (Kd.R_lt (uR HO164.out))) (Kd.R_lt (uR HO171.out))) (Kd.R_lt (uR HO174.out))) (Kd.R_lt (uR HO177.out))) (Kd.R_lt (uR HO181.out))) (below_size (uB HB.out))) (below_step (uB HB.out) hb); clear HO157 HO161 HO164 HO168 HO171 HO174 HO177 HO181 HB; obtain ⟨HO157, HO161, HO164, HO168, HO171, HO174, HO177, HO181, HO185, HB⟩ := n_; clear hb ho38; obtain ⟨Ao39, co39, eo39⟩ := Kd.R_slice HO185.out; subst eo39) | (go_at_call 13; (with_reducible refine (line_Of.calls _ _ y183 2 t186 _ ?side1 ?side2 A11.out).mono ?_); (case side1 => exact uC (Kd.R_reads' HO185.out).2.2); (case side2 => exact (Kd.R_reads' HO185.out).2.1); rintro e w40 ⟨rfl, hb⟩; have n_ := z10_ (Kd.R_below (uR HO157.out) hb) (Kd.R_below (uR HO161.out) hb) (Kd.R_below (uR HO164.out) hb) (Kd.R_below (uR HO168.out) hb) (Kd.R_below (uR HO171.out) hb) (Kd.R_below (uR HO174.out) hb) (Kd.R_below (uR HO177.out) hb) (Kd.R_below (uR HO181.out) hb) (Kd.R_below (uR HO185.out) hb) (below_step (uB HB.out) hb); clear HO157 HO161 HO164 HO168 HO171 HO174 HO177 HO181 HO185 HB; obtain ⟨HO157, HO161, HO164, HO168, HO171, HO174, HO177, HO181, HO185, HB⟩ := n_; (try clear hb); (try clear hb2); (try clear hk); (try clear hi)) | (go_at_call 16; (with_reducible refine (line_Wrap.calls k 5 2 t187 _ A13.out).mono ?_); rintro e w41 ⟨v188, rfl, ho0, hb⟩; have n_ := z11_ (Kd.R_elder' (uR HO157.out) (Kd.R_base ho0) hb) (Kd.R_below (uR HO161.out) hb) (Kd.R_elder' (uR HO164.out) (Kd.R_base ho0) hb) (Kd.R_below (uR HO168.out) hb) (Kd.R_elder' (uR HO171.out) (Kd.R_base ho0) hb) (Kd.R_elder' (uR HO174.out) (Kd.R_base ho0) hb) (Kd.R_elder' (uR HO177.out) (Kd.R_base ho0) hb) (Kd.R_elder' (uR HO181.out) (Kd.R_base ho0) hb) (Kd.R_elder' (uR HO185.out) (Kd.R_base ho0) hb) (Kd.R_lower (Kd.R_new' (Kd.R_new' (Kd.R_new' (Kd.R_new' (Kd.R_new' (Kd.R_new' (Kd.R_new' ho0 (Kd.R_lt (uR HO157.out))) (Kd.R_lt (uR HO164.out))) (Kd.R_lt (uR HO171.out))) (Kd.R_lt (uR HO174.out))) (Kd.R_lt (uR HO177.out))) (Kd.R_lt (uR HO181.out))) (Kd.R_lt (uR HO185.out))) (below_size (uB HB.out))) (below_step (uB HB.out) hb); clear HO157 HO161 HO164 HO168 HO171 HO174 HO177 HO181 HO185 HB; obtain ⟨HO157, HO161, HO164, HO168, HO171, HO174, HO177, HO181, HO185, HO189, HB⟩ := n_; (try clear hb); (try clear ho0)) | ((with_reducible refine gate_dst (N := 50) rfl ?_); (try (refine gate_guard (by rfl) ?_; dsimp only)); refine Kd.R_lit (Kd.int .i64) _ 3 ?hg (N := 50) ?hd (xs := ([2, 4, 5] : List Int)) (inner := [.int .i64 2, .int .i64 4, .int .i64 5]) (ok := fun _ => True) (okp := fun _ => True) ?hr ?hp (fun _ hk => hk) trivial (Below.refl _ _) (Nat.le_refl _) (by simp) ?_; (case hd => rfl); (case hg => rfl); (case hr => exact uN); (case hp => exact (Reps.one uL (Reps.one uL (Reps.one uL (Reps.none _ _))))); intro v191 w42 ho43 hb hg_ hnew_; clear hg_ hnew_; (first | rw [← Ny190.out] at ho43 | (simp only [Int.reduceToNat] at ho43; rw [← Ny190.out] at ho43)); have n_ := z12_ (Kd.R_elder' (uR HO157.out) (Kd.R_base ho43) hb) (Kd.R_below (uR HO161.out) hb) (Kd.R_elder' (uR HO164.out) (Kd.R_base ho43) hb) (Kd.R_below (uR HO168.out) hb) (Kd.R_elder' (uR HO171.out) (Kd.R_base ho43) hb) (Kd.R_elder' (uR HO174.out) (Kd.R_base ho43) hb) (Kd.R_elder' (uR HO177.out) (Kd.R_base ho43) hb) (Kd.R_elder' (uR HO181.out) (Kd.R_base ho43) hb) (Kd.R_elder' (uR HO185.out) (Kd.R_base ho43) hb) (Kd.R_elder' (uR HO189.out) (Kd.R_base ho43) hb) (Kd.R_lower (Kd.R_new' (Kd.R_new' (Kd.R_new' (Kd.R_new' (Kd.R_new' (Kd.R_new' (Kd.R_new' (Kd.R_new' ho43 (Kd.R_lt (uR HO157.out))) (Kd.R_lt (uR HO164.out))) (Kd.R_lt (uR HO171.out))) (Kd.R_lt (uR HO174.out))) (Kd.R_lt (uR HO177.out))) (Kd.R_lt (uR HO181.out))) (Kd.R_lt (uR HO185.out))) (Kd.R_lt (uR HO189.out))) (below_size (uB HB.out))) (below_step (uB HB.out) hb); clear HO157 HO161 HO164 HO168 HO171 HO174 HO177 HO181 HO185 HO189 HB; obtain ⟨HO157, HO161, HO164, HO168, HO171, HO174, HO177, HO181, HO185, HO189, HO192, HB⟩ := n_; clear hb ho43; obtain ⟨Ao44, co44, eo44⟩ := Kd.R_slice HO189.out; subst eo44; obtain ⟨Ao45, co45, eo45⟩ := Kd.R_slice HO192.out; subst eo45) | (go_at_call 15; (with_reducible refine (ductusref01_Ints.calls k _ _ t187 _ _ y190 true _ ?side1 ?side2 ?side3 ?side4 A14.out).mono ?_); (case side1 => exact uC (Kd.R_reads' HO189.out).2.2); (case side2 => exact (Kd.R_reads' HO189.out).2.1); (case side3 => exact uC (Kd.R_reads' HO192.out).2.2); (case side4 => exact (Kd.R_reads' HO192.out).2.1); rintro e w' ⟨rfl, ⟨nd, rfl⟩⟩) | (go_at_call 12; (refine (line_Right.calls k _ _ ([] : List Int) 0 t194 _ ?side1 ?side2 A16.out).mono ?_); (case side1 => exact Kd.C_nil _ _); (case side2 => exact Nat.le_refl _); rintro e w46 ⟨rfl, hb⟩; have n_ := z12_ (Kd.R_below (uR HO157.out) hb) (Kd.R_below (uR HO161.out) hb) (Kd.R_below (uR HO164.out) hb) (Kd.R_below (uR HO168.out) hb) (Kd.R_below (uR HO171.out) hb) (Kd.R_below (uR HO174.out) hb) (Kd.R_below (uR HO177.out) hb) (Kd.R_below (uR HO181.out) hb) (Kd.R_below (uR HO185.out) hb) (Kd.R_below (uR HO189.out) hb) (Kd.R_below (uR HO192.out) hb) (below_step (uB HB.out) hb); clear HO157 HO161 HO164 HO168 HO171 HO174 HO177 HO181 HO185 HO189 HO192 HB; obtain ⟨HO157, HO161, HO164, HO168, HO171, HO174, HO177, HO181, HO185, HO189, HO192, HB⟩ := n_; (try clear hb); (try clear hb2); (try clear hk); (try clear hi)))
  go_ret;exact ⟨uE, uB HB.out⟩
def ductusref02_Opens.f (a0 : Int) : Option (Bool) := if a0 = 19 then (some true) else (if a0 = 20 then (some true) else (some (a0 == 21)))
theorem ductusref02_Opens.calls (a0 : Int) (r : Bool) (w : World) (h : ductusref02_Opens.f a0 = some r) :
    Calls Try.prog 22 #[.int .i64 a0] w fun e w' => e = .returned (.bool r) ∧ Drawn0 w w' := by
  unfold ductusref02_Opens.f at h;have H := h;clear h
  by_cases c2 : a0 = 19
  · rw [if_pos c2] at H
    have c2b0 := beq_iff_eq.mpr c2;have c2b1 := bne_eq_false_iff_eq.mpr c2;clear c2;obtain rfl := Option.some.inj H
    go_enter Try.func22, Try.ntmps22
    go_wp2;go_ret;exact ⟨uF, uW⟩
  rw [if_neg c2] at H;have c2b0 := beq_eq_false_iff_ne.mpr c2;have c2b1 := bne_iff_ne.mpr c2
  by_cases c3 : a0 = 20
  rotate_left
  · rw [if_neg c3] at H
    have c3b0 := beq_eq_false_iff_ne.mpr c3;have c3b1 := bne_iff_ne.mpr c3;obtain rfl := Option.some.inj H
    go_enter Try.func22, Try.ntmps22
    go_wp2;go_ret;exact ⟨uF, uW⟩
  rw [if_pos c3] at H;have c3b0 := beq_iff_eq.mpr c3;have c3b1 := bne_eq_false_iff_eq.mpr c3;clear c3;obtain rfl := Option.some.inj H
  go_enter Try.func22, Try.ntmps22
  go_wp2;go_ret;exact ⟨uF, uW⟩
def ductusref02_Out.f (a0 : Int) : Option (Bool) := if a0 = 9 then (some true) else (if a0 = 14 then (some true) else (if a0 = 15 then (some true) else (if a0 = 16 then (some true) else (if a0 = 17 then (some true) else (some (a0 == 18))))))
theorem ductusref02_Out.calls (a0 : Int) (r : Bool) (w : World) (h : ductusref02_Out.f a0 = some r) :
    Calls Try.prog 23 #[.int .i64 a0] w fun e w' => e = .returned (.bool r) ∧ Drawn0 w w' := by
  unfold ductusref02_Out.f at h;have H := h;clear h
  by_cases c2 : a0 = 9
  · rw [if_pos c2] at H
    have c2b0 := beq_iff_eq.mpr c2;have c2b1 := bne_eq_false_iff_eq.mpr c2;clear c2;obtain rfl := Option.some.inj H
    go_enter Try.func23, Try.ntmps23
    go_wp2;go_ret;exact ⟨uF, uW⟩
  rw [if_neg c2] at H;have c2b0 := beq_eq_false_iff_ne.mpr c2;have c2b1 := bne_iff_ne.mpr c2
  by_cases c3 : a0 = 14
  · rw [if_pos c3] at H
    have c3b0 := beq_iff_eq.mpr c3;have c3b1 := bne_eq_false_iff_eq.mpr c3;clear c3;obtain rfl := Option.some.inj H
    go_enter Try.func23, Try.ntmps23
    go_wp2;go_ret;exact ⟨uF, uW⟩
  rw [if_neg c3] at H;have c3b0 := beq_eq_false_iff_ne.mpr c3;have c3b1 := bne_iff_ne.mpr c3
  by_cases c4 : a0 = 15
  · rw [if_pos c4] at H
    have c4b0 := beq_iff_eq.mpr c4;have c4b1 := bne_eq_false_iff_eq.mpr c4;clear c4;obtain rfl := Option.some.inj H
    go_enter Try.func23, Try.ntmps23
    go_wp2;go_ret;exact ⟨uF, uW⟩
  rw [if_neg c4] at H;have c4b0 := beq_eq_false_iff_ne.mpr c4;have c4b1 := bne_iff_ne.mpr c4
  by_cases c5 : a0 = 16
  · rw [if_pos c5] at H
    have c5b0 := beq_iff_eq.mpr c5;have c5b1 := bne_eq_false_iff_eq.mpr c5;clear c5;obtain rfl := Option.some.inj H
    go_enter Try.func23, Try.ntmps23
    go_wp2;go_ret;exact ⟨uF, uW⟩
  rw [if_neg c5] at H;have c5b0 := beq_eq_false_iff_ne.mpr c5;have c5b1 := bne_iff_ne.mpr c5
  by_cases c6 : a0 = 17
  rotate_left
  · rw [if_neg c6] at H
    have c6b0 := beq_eq_false_iff_ne.mpr c6;have c6b1 := bne_iff_ne.mpr c6;obtain rfl := Option.some.inj H
    go_enter Try.func23, Try.ntmps23
    go_wp2;go_ret;exact ⟨uF, uW⟩
  rw [if_pos c6] at H;have c6b0 := beq_iff_eq.mpr c6;have c6b1 := bne_eq_false_iff_eq.mpr c6;clear c6;obtain rfl := Option.some.inj H
  go_enter Try.func23, Try.ntmps23
  go_wp2;go_ret;exact ⟨uF, uW⟩
end Go.Proofs.Ytmjipbmpapcboaa.P
namespace Go.Proofs.Ytmjipbmpapcboaa.P
def swFrom (c : Int) : List (Int × Int × Int) → Int
  | [] => 0
  | x :: l => if x.1 ≤ c ∧ c ≤ x.2.1 then x.2.2 else swFrom c l
end Go.Proofs.Ytmjipbmpapcboaa.P
