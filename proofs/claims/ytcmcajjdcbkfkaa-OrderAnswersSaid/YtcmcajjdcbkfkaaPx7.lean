/- Printed by a program of this claim's own over the translation: Lean functions of the Go functions, each with its proof; no condition beyond those written. -/
import Derived.Test.YtcmcajjdcbkfkaaPx0
import Derived.Test.YtcmcajjdcbkfkaaPx6
namespace Go.Proofs.Ytcmcajjdcbkfkaa.P
open Go.RowKit Go.Proofs.YtcmcajjdcbkfkaaW.PrintWords Go.Proofs.YtcmcajjdcbkfkaaW.PrintLast Go.Proofs.YtcmcajjdcbkfkaaW.PrintMore
attribute [local go_sem] max2_int min2_int max_two min_two max_three min_three max_four min_four   -- for this text's walks alone
set_option linter.unusedVariables false
set_option linter.unusedSimpArgs false

/-! ### ductusref03_Mirror: function 19 -/
def ductusref03_Mirror.l0 : Nat → Int → List Int → Int → Option (Int)
  | 0, _, _, _ => none
  | k + 1, x0, x3, x4 => if x4 < (x3.length : Int) then (if 0 ≤ x4 then (if (rd x3 x4) = x0 then (if 0 ≤ (wrap64 (x4 + 1)) then (if (wrap64 (x4 + 1)) < (x3.length : Int) then (some (rd x3 (wrap64 (x4 + 1)))) else (none)) else (none)) else (if 0 ≤ (wrap64 (x4 + 1)) then (if (wrap64 (x4 + 1)) < (x3.length : Int) then (if (rd x3 (wrap64 (x4 + 1))) = x0 then (some (rd x3 x4)) else (ductusref03_Mirror.l0 k x0 x3 (wrap64 (x4 + 2)))) else (none)) else (none))) else (none)) else (some x0)
def ductusref03_Mirror.f (k : Nat) (a0 : Int) : Option (Int) := (ductusref03_brackets.f).bind fun t250 => ((some (([60, 62, 171, 187, 8804, 8805, 8810, 8811] : List Int) : List Int)).bind fun y253 => (if t250.length + y253.length < 17592186044416 then (ductusref03_Mirror.l0 k a0 (t250 ++ y253) 0) else (none)))
theorem ductusref03_Mirror.mono_l : ∀ k, (∀ y0 y1 y2, LeO (ductusref03_Mirror.l0 k y0 y1 y2) (ductusref03_Mirror.l0 (k + 1) y0 y1 y2))
  | 0 => fun _ _ _ r h => by simp [ductusref03_Mirror.l0] at h
  | k + 1 => by
    have ih0 := ductusref03_Mirror.mono_l k
    · intro y0 y1 y2
      unfold ductusref03_Mirror.l0
      repeat' first
      | (with_reducible exact ih0 _ _ _)
      | (with_reducible exact LeO.refl _)
      | (with_reducible exact LeO.none _)
      | (with_reducible refine LeO.ite ?_ ?_)
      | (with_reducible refine LeO.bind ?_ (fun _ => ?_))
      | exact ih0 _ _ _
      | exact LeO.none _
      | refine LeO.ite ?_ ?_
      | refine LeO.bind ?_ (fun _ => ?_)
theorem ductusref03_Mirror.mono : ∀ a0 k, LeO (ductusref03_Mirror.f k a0) (ductusref03_Mirror.f (k + 1) a0) := by
  intro a0 k
  have ih0 := ductusref03_Mirror.mono_l k
  unfold ductusref03_Mirror.f
  repeat' first
      | (with_reducible exact ih0 _ _ _)
      | (with_reducible exact LeO.refl _)
      | (with_reducible exact LeO.none _)
      | (with_reducible refine LeO.ite ?_ ?_)
      | (with_reducible refine LeO.bind ?_ (fun _ => ?_))
      | exact ih0 _ _ _
      | exact LeO.none _
      | refine LeO.ite ?_ ?_
      | refine LeO.bind ?_ (fun _ => ?_)
set_option maxHeartbeats 8000000 in
set_option maxRecDepth 100000 in
theorem ductusref03_Mirror.calls (k : Nat) (a0 : Int) (r : Int) (w : World) (h : ductusref03_Mirror.f k a0 = some r) :
    Calls Try.prog 19 #[.int .i64 a0] w fun e w' => e = .returned (.int .i64 r) ∧ Below w.heap.size w w' := by
  have HB := Aside0.mk (Below.refl w.heap.size w)
  have H : ((ductusref03_brackets.f).bind fun t250 => ((some (([60, 62, 171, 187, 8804, 8805, 8810, 8811] : List Int) : List Int)).bind fun y253 => (if t250.length + y253.length < 17592186044416 then (ductusref03_Mirror.l0 k a0 (t250 ++ y253) 0) else (none)))) = some r := h
  clear h
  replace H := Option.bind_eq_some_iff.mp H
  obtain ⟨t250, A20, H⟩ := H
  replace H : ((some (([60, 62, 171, 187, 8804, 8805, 8810, 8811] : List Int) : List Int)).bind fun y253 => (if t250.length + y253.length < 17592186044416 then (ductusref03_Mirror.l0 k a0 (t250 ++ y253) 0) else (none))) = some r := H
  have A2 := Aside0.mk A20
  clear A20
  obtain ⟨y253, hy253⟩ : ∃ y_ : List Int, y_ = (([60, 62, 171, 187, 8804, 8805, 8810, 8811] : List Int)) := ⟨_, rfl⟩
  replace H : (if t250.length + y253.length < 17592186044416 then (ductusref03_Mirror.l0 k a0 (t250 ++ y253) 0) else (none)) = some r := by first | (rw [hy253]; with_reducible exact H) | (have H2_ := (Option.bind_some _ _).symm.trans H; rw [hy253]; with_reducible exact H2_) | (have H2_ := (Option.bind_some _ _).symm.trans H; with_reducible exact H2_) | with_reducible exact H | (rw [hy253]; exact H) | exact H
  have Ny253 := Aside0.mk hy253
  clear hy253
  by_cases c3 : t250.length + y253.length < 17592186044416
  rotate_left
  · rw [if_neg c3] at H
    exact absurd H (by simp)
  rw [if_pos c3] at H
  have LMc3 := Aside0.mk c3
  clear c3
  obtain ⟨y256, hy256⟩ : ∃ y_ : List Int, y_ = (t250 ++ y253) := ⟨_, rfl⟩
  replace H : (ductusref03_Mirror.l0 k a0 y256 0) = some r := by first | (rw [hy256]; with_reducible exact H) | (have H2_ := (Option.bind_some _ _).symm.trans H; rw [hy256]; with_reducible exact H2_) | (have H2_ := (Option.bind_some _ _).symm.trans H; with_reducible exact H2_) | with_reducible exact H | (rw [hy256]; exact H) | exact H
  have Ny256 := Aside0.mk hy256
  clear hy256
  have H' := Aside0.mk H
  clear H
  go_enter Try.func19, Try.ntmps19
  go_wp2_with (first | ((with_reducible refine gate_callee (f := 25) rfl ?_); refine goesL_ (some 5) rfl rfl Try.func25 (by kernel_rfl) rfl #[] rfl (by (try simp only [List.map_toArray, List.map_cons, List.map_nil]); first | done | rfl | (simp only [List.length_drop, List.length_take]; rfl)) ?_; (with_reducible refine (ductusref03_brackets.calls  t250 _ A2.out).mono ?_); rintro e w4 ⟨v251, rfl, ho0, hb⟩; refine ⟨_, rfl, ?_⟩; have n0_ := Aside0.mk (Kd.R_lower ho0 (below_size (by repeat (first | (with_reducible first | exact HB.out | apply below_alloc | apply pw_below_drewN | apply below_drew1) | exact HB.out)))); have n1_ := Aside0.mk (below_step (by repeat (first | (with_reducible first | exact HB.out | apply below_alloc | apply pw_below_drewN | apply below_drew1) | exact HB.out)) hb); clear HB; have HO252 := n0_; have HB := n1_; clear n0_ n1_; (try clear hb); (try clear hb2); (try clear hk); (try clear hi); (try clear ho0)) | ((with_reducible refine gate_dst (N := 6) rfl ?_); refine Kd.R_lit (Kd.int .i64) _ 3 ?hg (N := 6) ?hd (xs := ([60, 62, 171, 187, 8804, 8805, 8810, 8811] : List Int)) (inner := [.int .i64 60, .int .i64 62, .int .i64 171, .int .i64 187, .int .i64 8804, .int .i64 8805, .int .i64 8810, .int .i64 8811]) (ok := fun _ => True) (okp := fun _ => True) ?hr ?hp (fun _ hk => hk) trivial (Below.refl _ _) (Nat.le_refl _) (by simp) ?_; (case hd => rfl); (case hg => rfl); (case hr => first | (go_simp; done) | (go_simp; rfl)); (case hp => exact (Reps.one (show Kd.M (Kd.int .i64) _ _ _ 60 [.int .i64 60] from rfl) (Reps.one (show Kd.M (Kd.int .i64) _ _ _ 62 [.int .i64 62] from rfl) (Reps.one (show Kd.M (Kd.int .i64) _ _ _ 171 [.int .i64 171] from rfl) (Reps.one (show Kd.M (Kd.int .i64) _ _ _ 187 [.int .i64 187] from rfl) (Reps.one (show Kd.M (Kd.int .i64) _ _ _ 8804 [.int .i64 8804] from rfl) (Reps.one (show Kd.M (Kd.int .i64) _ _ _ 8805 [.int .i64 8805] from rfl) (Reps.one (show Kd.M (Kd.int .i64) _ _ _ 8810 [.int .i64 8810] from rfl) (Reps.one (show Kd.M (Kd.int .i64) _ _ _ 8811 [.int .i64 8811] from rfl) (Reps.none _ _)))))))))); intro v254 w5 ho6 hb hg_ hnew_; clear hg_ hnew_; (first | rw [← Ny253.out] at ho6 | (simp only [Int.reduceToNat] at ho6; rw [← Ny253.out] at ho6)); have n0_ := Aside0.mk (Kd.R_elder' (by (with_reducible repeat (first | apply Kd.R_alloc | apply Kd.R_drewN | apply Kd.R_drew)); exact HO252.out) (Kd.R_base ho6) hb); have n1_ := Aside0.mk (Kd.R_lower (Kd.R_new' ho6 (Kd.R_lt (by (with_reducible repeat (first | apply Kd.R_alloc | apply Kd.R_drewN | apply Kd.R_drew)); exact HO252.out))) (below_size (by repeat (first | (with_reducible first | exact HB.out | apply below_alloc | apply pw_below_drewN | apply below_drew1) | exact HB.out)))); have n2_ := Aside0.mk (below_step (by repeat (first | (with_reducible first | exact HB.out | apply below_alloc | apply pw_below_drewN | apply below_drew1) | exact HB.out)) hb); clear HO252; clear HB; have HO252 := n0_; have HO255 := n1_; have HB := n2_; clear n0_ n1_ n2_; clear hb ho6; obtain ⟨Ao8, co8, eo8⟩ := Kd.R_slice HO255.out; subst eo8) | ((with_reducible refine gate_builtin (b := .append) (xs := #[.tmp 5, .tmp 6]) rfl ?_); at_builtin; refine Kd.R_append_rows (Kd.int .i64) (w0 := w) w.heap.size rfl (.tmp 5) (.tmp 6) 22 3 (.int .i64 0) 8 rfl Try.underlying22 info3 rfl (by decide) (by omega) v251 t250 y253 _ _ _ (fun k_ => some k_ ≠ (.slice Ao8 y253.length co8 : Value).ownBlock) (fun _ => False) rfl rfl ?aO ?aR (fun _ _ h => h) (fun _ h => h.elim) ?aF ?aB ?aS ?aL ?_; (case aR => repeat (first | exact (Kd.R_reads' HO255.out).2.2 | (with_reducible refine Kd.C_alloc ?_ _) | (with_reducible refine Kd.C_drewN ?_ _) | (with_reducible refine Kd.C_drew ?_))); (case aB => exact (by repeat (first | (with_reducible first | exact HB.out | apply below_alloc | apply pw_below_drewN | apply below_drew1) | exact HB.out))); (case aF => exact (fun k_ hk => Kd.fresh' (Kd.R_lt (by (with_reducible repeat (first | apply Kd.R_alloc | apply Kd.R_drewN | apply Kd.R_drew)); exact HO255.out)) k_ hk)); (case aO => exact (by (with_reducible repeat (first | apply Kd.R_alloc | apply Kd.R_drewN | apply Kd.R_drew)); exact Kd.R_mono HO252.out (fun _ hk => hk.2))); (case aS => exact (below_size (by repeat (first | (with_reducible first | exact HB.out | apply below_alloc | apply pw_below_drewN | apply below_drew1) | exact HB.out)))); (case aL => have := LMc3.out; omega); intro v257 w7 ho hb hg hat; rw [← Ny256.out] at ho; have n0_ := Aside0.mk (Kd.R_after (ok := (fun _ => True)) (by (with_reducible repeat (first | apply Kd.R_alloc | apply Kd.R_drewN | apply Kd.R_drew)); exact HO255.out) hg hat); have n1_ := Aside0.mk (hb); have n2_ := Aside0.mk (ho); clear HO255; clear HB; clear HO252; have HO255 := n0_; have HB := n1_; have HO258 := n2_; clear n0_ n1_ n2_; clear ho hb hg hat))
  go_loopg [4] k (fun kq v4 w' => ∃ (x4_1 : Int), v4 = .int .i64 x4_1 ∧ Aside0 (ductusref03_Mirror.l0 kq a0 y256 x4_1 = some r) ∧ Aside0 (kq ≤ k) ∧ Aside0 (Kd.R (Kd.int .i64) 3 w' w.heap.size (fun _ => True) v257 y256) ∧ Aside0 (Below w.heap.size w w'))
  case atStart => exact ⟨(0), (by first | rfl | (simp; done) | (simp [*]; done)), H', ⟨Nat.le_refl _⟩, ⟨by (with_reducible repeat (first | apply Kd.R_alloc | apply Kd.R_drewN | apply Kd.R_drew)); exact Kd.R_mono HO258.out (fun _ hk => trivial)⟩, ⟨by repeat (first | (with_reducible first | exact HB.out | apply below_alloc | apply pw_below_drewN | apply below_drew1) | exact HB.out)⟩⟩
  case round =>
    clear H'
    try clear c1
    try clear c2
    try clear p2
    try clear c3
    obtain ⟨x4_1, rfl, HA, HK1, HO_3, HB⟩ := hrel
    cases gk with
    | zero => exact absurd HA.out (by simp [ductusref03_Mirror.l0])
    | succ k1 =>
      have H := HA.out
      clear HA
      simp only [ductusref03_Mirror.l0] at H
      by_cases c9 : x4_1 < (y256.length : Int)
      rotate_left
      · rw [if_neg c9] at H
        have c9b0 : decide (x4_1 < (y256.length : Int)) = false := decide_eq_false c9
        clear c9
        obtain rfl := Option.some.inj H
        obtain ⟨Ao22, co22, eo22⟩ := Kd.R_slice HO_3.out
        subst eo22
        go_wp2
        go_ret
        exact ⟨by first | rfl | (simp [errW_none, errW_some] <;> rfl) | (simp [*, errW_none, errW_some] <;> rfl), by repeat (first | (with_reducible first | exact HB.out | apply below_alloc | apply pw_below_drewN | apply below_drew1) | exact HB.out)⟩
      rw [if_pos c9] at H
      have c9b0 : decide (x4_1 < (y256.length : Int)) = true := decide_eq_true c9
      clear c9
      by_cases c10 : 0 ≤ x4_1
      rotate_left
      · rw [if_neg c10] at H
        exact absurd H (by simp)
      rw [if_pos c10] at H
      have c10b0 : decide (0 ≤ x4_1) = true := decide_eq_true c10
      clear c10
      by_cases c11 : (rd y256 x4_1) = a0
      · rw [if_pos c11] at H
        have c11b0 : ((rd y256 x4_1) == a0) = true := beq_iff_eq.mpr c11
        have c11b1 : ((rd y256 x4_1) != a0) = false := bne_eq_false_iff_eq.mpr c11
        clear c11
        obtain ⟨ji12, hji12⟩ : ∃ j_ : Int, (wrap64 (x4_1 + 1)) = j_ := ⟨_, rfl⟩
        replace H : (if 0 ≤ (ji12) then (if (ji12) < (y256.length : Int) then (some (rd y256 (ji12))) else (none)) else (none)) = some r := by first | (rw [hji12] at H; exact H) | (simp only [hji12] at H ⊢; exact H)
        have hji12w : (IntKind.i64.wrap (x4_1 + 1)) = ji12 := (i64_w _).trans hji12
        by_cases c13 : 0 ≤ (ji12)
        rotate_left
        · rw [if_neg c13] at H
          exact absurd H (by simp)
        rw [if_pos c13] at H
        have c13b0 : decide (0 ≤ (ji12)) = true := decide_eq_true c13
        clear c13
        by_cases c14 : (ji12) < (y256.length : Int)
        rotate_left
        · rw [if_neg c14] at H
          exact absurd H (by simp)
        rw [if_pos c14] at H
        have c14b0 : decide ((ji12) < (y256.length : Int)) = true := decide_eq_true c14
        clear c14
        obtain rfl := Option.some.inj H
        obtain ⟨Ao15, co15, eo15⟩ := Kd.R_slice HO_3.out
        subst eo15
        have p259 : 0 ≤ (x4_1 : Int) := of_decide_eq_true (by first | (with_reducible assumption) | assumption)
        have q259 : x4_1 < (y256.length : Int) := of_decide_eq_true (by first | (with_reducible assumption) | assumption)
        obtain ⟨ad259, e259, hx259_0⟩ := Kd.at_int (Kd.R_reads' HO_3.out).2.2 x4_1 p259 q259
        cases e259
        replace p259 := eq_true p259
        replace q259 := eq_true q259
        have p260 : 0 ≤ ((ji12) : Int) := of_decide_eq_true (by first | (with_reducible assumption) | assumption)
        have q260 : (ji12) < (y256.length : Int) := of_decide_eq_true (by first | (with_reducible assumption) | assumption)
        obtain ⟨ad260, e260, hx260_0⟩ := Kd.at_int (Kd.R_reads' HO_3.out).2.2 (ji12) p260 q260
        obtain rfl : ad259 = ad260 := (by injection e260)
        replace p260 := eq_true p260
        replace q260 := eq_true q260
        go_wp2
        go_ret
        exact ⟨by first | rfl | (simp [errW_none, errW_some] <;> rfl) | (simp only [← hji12]; first | rfl | (simp [errW_none, errW_some] <;> rfl)) | (simp [*, errW_none, errW_some] <;> rfl), by repeat (first | (with_reducible first | exact HB.out | apply below_alloc | apply pw_below_drewN | apply below_drew1) | exact HB.out)⟩
      rw [if_neg c11] at H
      have c11b0 : ((rd y256 x4_1) == a0) = false := beq_eq_false_iff_ne.mpr c11
      have c11b1 : ((rd y256 x4_1) != a0) = true := bne_iff_ne.mpr c11
      obtain ⟨ji16, hji16⟩ : ∃ j_ : Int, (wrap64 (x4_1 + 1)) = j_ := ⟨_, rfl⟩
      replace H : (if 0 ≤ (ji16) then (if (ji16) < (y256.length : Int) then (if (rd y256 (ji16)) = a0 then (some (rd y256 x4_1)) else (ductusref03_Mirror.l0 k1 a0 y256 (wrap64 (x4_1 + 2)))) else (none)) else (none)) = some r := by first | (rw [hji16] at H; exact H) | (simp only [hji16] at H ⊢; exact H)
      have hji16w : (IntKind.i64.wrap (x4_1 + 1)) = ji16 := (i64_w _).trans hji16
      by_cases c17 : 0 ≤ (ji16)
      rotate_left
      · rw [if_neg c17] at H
        exact absurd H (by simp)
      rw [if_pos c17] at H
      have c17b0 : decide (0 ≤ (ji16)) = true := decide_eq_true c17
      clear c17
      by_cases c18 : (ji16) < (y256.length : Int)
      rotate_left
      · rw [if_neg c18] at H
        exact absurd H (by simp)
      rw [if_pos c18] at H
      have c18b0 : decide ((ji16) < (y256.length : Int)) = true := decide_eq_true c18
      clear c18
      by_cases c19 : (rd y256 (ji16)) = a0
      rotate_left
      · rw [if_neg c19] at H
        have c19b0 : ((rd y256 (ji16)) == a0) = false := beq_eq_false_iff_ne.mpr c19
        have c19b1 : ((rd y256 (ji16)) != a0) = true := bne_iff_ne.mpr c19
        have H' := Aside0.mk H
        clear H
        obtain ⟨Ao21, co21, eo21⟩ := Kd.R_slice HO_3.out
        subst eo21
        have p259 : 0 ≤ (x4_1 : Int) := of_decide_eq_true (by first | (with_reducible assumption) | assumption)
        have q259 : x4_1 < (y256.length : Int) := of_decide_eq_true (by first | (with_reducible assumption) | assumption)
        obtain ⟨ad259, e259, hx259_0⟩ := Kd.at_int (Kd.R_reads' HO_3.out).2.2 x4_1 p259 q259
        cases e259
        replace p259 := eq_true p259
        replace q259 := eq_true q259
        have p261 : 0 ≤ ((ji16) : Int) := of_decide_eq_true (by first | (with_reducible assumption) | assumption)
        have q261 : (ji16) < (y256.length : Int) := of_decide_eq_true (by first | (with_reducible assumption) | assumption)
        obtain ⟨ad261, e261, hx261_0⟩ := Kd.at_int (Kd.R_reads' HO_3.out).2.2 (ji16) p261 q261
        obtain rfl : ad259 = ad261 := (by injection e261)
        replace p261 := eq_true p261
        replace q261 := eq_true q261
        go_wp2
        go_roundg k1
        case measure => have := HK1.out; omega
        case rel => exact ⟨(wrap64 (x4_1 + 2)), (by first | rfl | (simp; done) | (simp [*]; done)), H', ⟨by have := HK1.out; omega⟩, ⟨by (with_reducible repeat (first | apply Kd.R_alloc | apply Kd.R_drewN | apply Kd.R_drew)); exact HO_3.out⟩, ⟨by repeat (first | (with_reducible first | exact HB.out | apply below_alloc | apply pw_below_drewN | apply below_drew1) | exact HB.out)⟩⟩
      rw [if_pos c19] at H
      have c19b0 : ((rd y256 (ji16)) == a0) = true := beq_iff_eq.mpr c19
      have c19b1 : ((rd y256 (ji16)) != a0) = false := bne_eq_false_iff_eq.mpr c19
      clear c19
      obtain rfl := Option.some.inj H
      obtain ⟨Ao20, co20, eo20⟩ := Kd.R_slice HO_3.out
      subst eo20
      have p259 : 0 ≤ (x4_1 : Int) := of_decide_eq_true (by first | (with_reducible assumption) | assumption)
      have q259 : x4_1 < (y256.length : Int) := of_decide_eq_true (by first | (with_reducible assumption) | assumption)
      obtain ⟨ad259, e259, hx259_0⟩ := Kd.at_int (Kd.R_reads' HO_3.out).2.2 x4_1 p259 q259
      cases e259
      replace p259 := eq_true p259
      replace q259 := eq_true q259
      have p261 : 0 ≤ ((ji16) : Int) := of_decide_eq_true (by first | (with_reducible assumption) | assumption)
      have q261 : (ji16) < (y256.length : Int) := of_decide_eq_true (by first | (with_reducible assumption) | assumption)
      obtain ⟨ad261, e261, hx261_0⟩ := Kd.at_int (Kd.R_reads' HO_3.out).2.2 (ji16) p261 q261
      obtain rfl : ad259 = ad261 := (by injection e261)
      replace p261 := eq_true p261
      replace q261 := eq_true q261
      have p262 : 0 ≤ (x4_1 : Int) := of_decide_eq_true (by first | (with_reducible assumption) | assumption)
      have q262 : x4_1 < (y256.length : Int) := of_decide_eq_true (by first | (with_reducible assumption) | assumption)
      obtain ⟨ad262, e262, hx262_0⟩ := Kd.at_int (Kd.R_reads' HO_3.out).2.2 x4_1 p262 q262
      obtain rfl : ad259 = ad262 := (by injection e262)
      replace p262 := eq_true p262
      replace q262 := eq_true q262
      go_wp2
      go_ret
      exact ⟨by first | rfl | (simp [errW_none, errW_some] <;> rfl) | (simp only [← hji16]; first | rfl | (simp [errW_none, errW_some] <;> rfl)) | (simp [*, errW_none, errW_some] <;> rfl), by repeat (first | (with_reducible first | exact HB.out | apply below_alloc | apply pw_below_drewN | apply below_drew1) | exact HB.out)⟩

/-! ### ductusref14_Seen: function 16 -/
def ductusref14_Seen.l0 : Nat → List Int → List Int → List Int → List Int → Int → Option (List Int)
  | 0, _, _, _, _, _ => none
  | k + 1, x0, x1, x5, x6, x7 => if x7 < (x6.length : Int) then (if 0 ≤ x7 then (if 0 ≤ (rd x6 x7) then (if (rd x6 x7) < (x0.length : Int) then (if (rd x6 x7) < (x1.length : Int) then (if (Int.tmod (rd x1 (rd x6 x7)) 2) = 0 then (if x5.length < 17592186044416 then (ductusref14_Seen.l0 k x0 x1 (x5 ++ [rd x0 (rd x6 x7)]) x6 (wrap64 (x7 + 1))) else (none)) else ((ductusref03_Mirror.f k (rd x0 (rd x6 x7))).bind fun t273 => (if x5.length < 17592186044416 then (ductusref14_Seen.l0 k x0 x1 (x5 ++ [t273]) x6 (wrap64 (x7 + 1))) else (none)))) else (none)) else (none)) else (none)) else (none)) else (some x5)
def ductusref14_Seen.f (k : Nat) (l0 : List Int) (l1 : List Int) : Option (List Int) := if (l0.length : Int) = (l1.length : Int) then ((ductusref14_Of.f k l1).bind fun t263 => (ductusref14_Seen.l0 k l0 l1 ([] : List Int) t263 0)) else (some ([] : List Int))
theorem ductusref14_Seen.mono_l : ∀ k, (∀ y0 y1 y2 y3 y4, LeO (ductusref14_Seen.l0 k y0 y1 y2 y3 y4) (ductusref14_Seen.l0 (k + 1) y0 y1 y2 y3 y4))
  | 0 => fun _ _ _ _ _ r h => by simp [ductusref14_Seen.l0] at h
  | k + 1 => by
    have ih0 := ductusref14_Seen.mono_l k
    · intro y0 y1 y2 y3 y4
      unfold ductusref14_Seen.l0
      repeat' first
      | (with_reducible exact ih0 _ _ _ _ _)
      | (with_reducible exact ductusref03_Mirror.mono _ _)
      | (with_reducible exact ductusref14_Of.mono _ _)
      | (with_reducible exact LeO.refl _)
      | (with_reducible exact LeO.none _)
      | (with_reducible refine LeO.ite ?_ ?_)
      | (with_reducible refine LeO.bind ?_ (fun _ => ?_))
      | exact ih0 _ _ _ _ _
      | exact ductusref03_Mirror.mono _ _
      | exact ductusref14_Of.mono _ _
      | exact LeO.none _
      | refine LeO.ite ?_ ?_
      | refine LeO.bind ?_ (fun _ => ?_)
theorem ductusref14_Seen.mono : ∀ a0 a1 k, LeO (ductusref14_Seen.f k a0 a1) (ductusref14_Seen.f (k + 1) a0 a1) := by
  intro a0 a1 k
  have ih0 := ductusref14_Seen.mono_l k
  unfold ductusref14_Seen.f
  repeat' first
      | (with_reducible exact ih0 _ _ _ _ _)
      | (with_reducible exact ductusref03_Mirror.mono _ _)
      | (with_reducible exact ductusref14_Of.mono _ _)
      | (with_reducible exact LeO.refl _)
      | (with_reducible exact LeO.none _)
      | (with_reducible refine LeO.ite ?_ ?_)
      | (with_reducible refine LeO.bind ?_ (fun _ => ?_))
      | exact ih0 _ _ _ _ _
      | exact ductusref03_Mirror.mono _ _
      | exact ductusref14_Of.mono _ _
      | exact LeO.none _
      | refine LeO.ite ?_ ?_
      | refine LeO.bind ?_ (fun _ => ?_)
set_option maxHeartbeats 8000000 in
set_option maxRecDepth 100000 in
theorem ductusref14_Seen.calls (k : Nat) (A0 : Option Addr) (c0 : Nat) (l0 : List Int) (A1 : Option Addr) (c1 : Nat) (l1 : List Int) (r : List Int) (w : World) (hr0 : Kd.C (Kd.int .i64) w A0 l0.length l0) (hc0 : l0.length ≤ c0) (hr1 : Kd.C (Kd.int .i64) w A1 l1.length l1) (hc1 : l1.length ≤ c1) (h : ductusref14_Seen.f k l0 l1 = some r) :
    Calls Try.prog 16 #[.slice A0 l0.length c0, .slice A1 l1.length c1] w fun e w' => ∃ v0_ : Value, e = .returned (v0_) ∧ Kd.R (Kd.int .i64) 3 w' w.heap.size (fun _ => True) v0_ r ∧ Below w.heap.size w w' := by
  have HR0 := Aside0.mk hr0
  have HC0 := Aside0.mk hc0
  clear hr0 hc0
  have HR1 := Aside0.mk hr1
  have HC1 := Aside0.mk hc1
  clear hr1 hc1
  have HB := Aside0.mk (Below.refl w.heap.size w)
  have H : (if (l0.length : Int) = (l1.length : Int) then ((ductusref14_Of.f k l1).bind fun t263 => (ductusref14_Seen.l0 k l0 l1 ([] : List Int) t263 0)) else (some ([] : List Int))) = some r := h
  clear h
  by_cases c3 : (l0.length : Int) = (l1.length : Int)
  rotate_left
  · rw [if_neg c3] at H
    have c3b0 : ((l0.length : Int) == (l1.length : Int)) = false := beq_eq_false_iff_ne.mpr c3
    have c3b1 : ((l0.length : Int) != (l1.length : Int)) = true := bne_iff_ne.mpr c3
    have c3b2 : (l0.length == l1.length) = false := by first | simpa using c3 | (simp at c3 ⊢; omega)
    obtain rfl := Option.some.inj H
    go_enter Try.func16, Try.ntmps16
    go_wp2
    go_ret
    exact ⟨_, by first | rfl | (simp [errW_none, errW_some] <;> rfl) | (simp [*, errW_none, errW_some] <;> rfl), by first | exact Kd.R_nil _ _ _ _ _ | exact Kd.N_nil _ _ _ _ _ | exact Kd.V_nil _ _ _ _ _ | exact Kd.Q_nil _ _ _ _ _ | exact Kd.S_nil _ _ _ _ _, by repeat (first | (with_reducible first | exact HB.out | apply below_alloc | apply pw_below_drewN | apply below_drew1) | exact HB.out)⟩
  rw [if_pos c3] at H
  have c3b0 : ((l0.length : Int) == (l1.length : Int)) = true := beq_iff_eq.mpr c3
  have c3b1 : ((l0.length : Int) != (l1.length : Int)) = false := bne_eq_false_iff_eq.mpr c3
  have c3b2 : (l0.length == l1.length) = true := by first | simpa using c3 | (simp at c3 ⊢; omega)
  clear c3
  replace H := Option.bind_eq_some_iff.mp H
  obtain ⟨t263, A40, H⟩ := H
  replace H : (ductusref14_Seen.l0 k l0 l1 ([] : List Int) t263 0) = some r := H
  have A4 := Aside0.mk A40
  clear A40
  have H' := Aside0.mk H
  clear H
  go_enter Try.func16, Try.ntmps16
  go_wp2_with (first | ((with_reducible refine gate_callee (f := 12) rfl ?_); refine goesL_ (some 15) rfl rfl Try.func12 (by kernel_rfl) rfl #[.slice A1 l1.length c1] rfl (by (try simp only [List.map_toArray, List.map_cons, List.map_nil]); first | done | rfl | (simp only [List.length_drop, List.length_take]; rfl)) ?_; (with_reducible refine (ductusref14_Of.calls k _ _ l1 t263 _ ?side1 ?side2 A4.out).mono ?_); (case side1 => repeat (first | exact HR1.out | (with_reducible refine Kd.C_alloc ?_ _) | (with_reducible refine Kd.C_drewN ?_ _) | (with_reducible refine Kd.C_drew ?_))); (case side2 => exact HC1.out); rintro e w5 ⟨v264, rfl, ho0, hb⟩; refine ⟨_, rfl, ?_⟩; have n0_ := Aside0.mk (Kd.R_lower ho0 (below_size (by repeat (first | (with_reducible first | exact HB.out | apply below_alloc | apply pw_below_drewN | apply below_drew1) | exact HB.out)))); have n1_ := Aside0.mk (below_step (by repeat (first | (with_reducible first | exact HB.out | apply below_alloc | apply pw_below_drewN | apply below_drew1) | exact HB.out)) hb); clear HB; have HO265 := n0_; have HB := n1_; clear n0_ n1_; (try clear hb); (try clear hb2); (try clear hk); (try clear hi); (try clear ho0)))
  go_loopg [5, 7] k (fun kq v5 v7 w' => ∃ (x5_1 : List Int) (x7_1 : Int), v7 = .int .i64 x7_1 ∧ Aside0 (ductusref14_Seen.l0 kq l0 l1 x5_1 t263 x7_1 = some r) ∧ Aside0 (kq ≤ k) ∧ Aside0 (Kd.R (Kd.int .i64) 3 w' w.heap.size (fun k_ => some k_ ≠ (v264 : Value).ownBlock) v5 x5_1) ∧ Aside0 (Kd.R (Kd.int .i64) 3 w' w.heap.size (fun k_ => some k_ ≠ (v5 : Value).ownBlock) v264 t263) ∧ Aside0 (Below w.heap.size w w'))
  case atStart => exact ⟨(([] : List Int)), (0), (by first | rfl | (simp; done) | (simp [*]; done)), H', ⟨Nat.le_refl _⟩, ⟨by first | exact Kd.R_nil _ _ _ _ _ | exact Kd.N_nil _ _ _ _ _ | exact Kd.V_nil _ _ _ _ _ | exact Kd.Q_nil _ _ _ _ _ | exact Kd.S_nil _ _ _ _ _⟩, ⟨by (with_reducible repeat (first | apply Kd.R_alloc | apply Kd.R_drewN | apply Kd.R_drew)); exact Kd.R_mono HO265.out (fun _ hk => (by simp [Value.ownBlock]))⟩, ⟨by repeat (first | (with_reducible first | exact HB.out | apply below_alloc | apply pw_below_drewN | apply below_drew1) | exact HB.out)⟩⟩
  case round =>
    clear H'
    try clear c1
    try clear p2
    try clear c3
    try clear c3b0
    try clear c3b1
    try clear c3b2
    obtain ⟨x5_1, x7_1, rfl, HA, HK1, HO_5, HO_6, HB⟩ := hrel
    cases gk with
    | zero => exact absurd HA.out (by simp [ductusref14_Seen.l0])
    | succ k1 =>
      have H := HA.out
      clear HA
      simp only [ductusref14_Seen.l0] at H
      by_cases c6 : x7_1 < (t263.length : Int)
      rotate_left
      · rw [if_neg c6] at H
        have c6b0 : decide (x7_1 < (t263.length : Int)) = false := decide_eq_false c6
        clear c6
        obtain rfl := Option.some.inj H
        obtain ⟨Ao20, co20, eo20⟩ := Kd.R_slice HO_6.out
        subst eo20
        go_wp2
        go_ret
        exact ⟨_, by first | rfl | (simp [errW_none, errW_some] <;> rfl) | (simp [*, errW_none, errW_some] <;> rfl), by (with_reducible repeat (first | apply Kd.R_alloc | apply Kd.R_drewN | apply Kd.R_drew)); exact Kd.R_mono HO_5.out (fun _ hk => trivial), by repeat (first | (with_reducible first | exact HB.out | apply below_alloc | apply pw_below_drewN | apply below_drew1) | exact HB.out)⟩
      rw [if_pos c6] at H
      have c6b0 : decide (x7_1 < (t263.length : Int)) = true := decide_eq_true c6
      clear c6
      by_cases c7 : 0 ≤ x7_1
      rotate_left
      · rw [if_neg c7] at H
        exact absurd H (by simp)
      rw [if_pos c7] at H
      have c7b0 : decide (0 ≤ x7_1) = true := decide_eq_true c7
      clear c7
      by_cases c8 : 0 ≤ (rd t263 x7_1)
      rotate_left
      · rw [if_neg c8] at H
        exact absurd H (by simp)
      rw [if_pos c8] at H
      have c8b0 : decide (0 ≤ (rd t263 x7_1)) = true := decide_eq_true c8
      clear c8
      by_cases c9 : (rd t263 x7_1) < (l0.length : Int)
      rotate_left
      · rw [if_neg c9] at H
        exact absurd H (by simp)
      rw [if_pos c9] at H
      have c9b0 : decide ((rd t263 x7_1) < (l0.length : Int)) = true := decide_eq_true c9
      clear c9
      by_cases c10 : (rd t263 x7_1) < (l1.length : Int)
      rotate_left
      · rw [if_neg c10] at H
        exact absurd H (by simp)
      rw [if_pos c10] at H
      have c10b0 : decide ((rd t263 x7_1) < (l1.length : Int)) = true := decide_eq_true c10
      clear c10
      by_cases c11 : (Int.tmod (rd l1 (rd t263 x7_1)) 2) = 0
      · rw [if_pos c11] at H
        have c11b0 : ((Int.tmod (rd l1 (rd t263 x7_1)) 2) == 0) = true := beq_iff_eq.mpr c11
        have c11b1 : ((Int.tmod (rd l1 (rd t263 x7_1)) 2) != 0) = false := bne_eq_false_iff_eq.mpr c11
        clear c11
        by_cases c12 : x5_1.length < 17592186044416
        rotate_left
        · rw [if_neg c12] at H
          exact absurd H (by simp)
        rw [if_pos c12] at H
        have LMc12 := Aside0.mk c12
        clear c12
        obtain ⟨y270, hy270⟩ : ∃ y_ : List Int, y_ = (x5_1 ++ [rd l0 (rd t263 x7_1)]) := ⟨_, rfl⟩
        replace H : (ductusref14_Seen.l0 k1 l0 l1 y270 t263 (wrap64 (x7_1 + 1))) = some r := by first | (rw [hy270]; with_reducible exact H) | (have H2_ := (Option.bind_some _ _).symm.trans H; rw [hy270]; with_reducible exact H2_) | (have H2_ := (Option.bind_some _ _).symm.trans H; with_reducible exact H2_) | with_reducible exact H | (rw [hy270]; exact H) | exact H
        have Ny270 := Aside0.mk hy270
        clear hy270
        have H' := Aside0.mk H
        clear H
        obtain ⟨Ao13, co13, eo13⟩ := Kd.R_slice HO_6.out
        subst eo13
        have p266 : 0 ≤ (x7_1 : Int) := of_decide_eq_true (by first | (with_reducible assumption) | assumption)
        have q266 : x7_1 < (t263.length : Int) := of_decide_eq_true (by first | (with_reducible assumption) | assumption)
        obtain ⟨ad266, e266, hx266_0⟩ := Kd.at_int (Kd.R_reads' HO_6.out).2.2 x7_1 p266 q266
        cases e266
        replace p266 := eq_true p266
        replace q266 := eq_true q266
        have p267 : 0 ≤ ((rd t263 x7_1) : Int) := of_decide_eq_true (by first | (with_reducible assumption) | assumption)
        have q267 : (rd t263 x7_1) < (l0.length : Int) := of_decide_eq_true (by first | (with_reducible assumption) | assumption)
        obtain ⟨ad267, e267, hx267_0⟩ := Kd.at_int HR0.out (rd t263 x7_1) p267 q267
        cases e267
        replace hx267_0 := (HB.out.cell (World.block_lt_of_cell? w _ hx267_0)).trans hx267_0
        replace p267 := eq_true p267
        replace q267 := eq_true q267
        have p268 : 0 ≤ (x7_1 : Int) := of_decide_eq_true (by first | (with_reducible assumption) | assumption)
        have q268 : x7_1 < (t263.length : Int) := of_decide_eq_true (by first | (with_reducible assumption) | assumption)
        obtain ⟨ad268, e268, hx268_0⟩ := Kd.at_int (Kd.R_reads' HO_6.out).2.2 x7_1 p268 q268
        obtain rfl : ad266 = ad268 := (by injection e268)
        replace p268 := eq_true p268
        replace q268 := eq_true q268
        have p269 : 0 ≤ ((rd t263 x7_1) : Int) := of_decide_eq_true (by first | (with_reducible assumption) | assumption)
        have q269 : (rd t263 x7_1) < (l1.length : Int) := of_decide_eq_true (by first | (with_reducible assumption) | assumption)
        obtain ⟨ad269, e269, hx269_0⟩ := Kd.at_int HR1.out (rd t263 x7_1) p269 q269
        cases e269
        replace hx269_0 := (HB.out.cell (World.block_lt_of_cell? w _ hx269_0)).trans hx269_0
        replace p269 := eq_true p269
        replace q269 := eq_true q269
        go_wp2_with (first | ((with_reducible refine gate_builtin (b := .append) (xs := #[.tmp 40, .tmp 42]) rfl ?_); at_builtin; refine Kd.R_append (Kd.int .i64) (w0 := w) w.heap.size rfl (.tmp 40) (.tmp 42) 22 3 (.int .i64 0) 8 rfl Try.underlying22 info3 rfl (by decide) (by omega) u5 x5_1 (rd l0 (rd t263 x7_1)) [.int .i64 (rd l0 (rd t263 x7_1))] (fun k_ => some k_ ≠ (.slice (some ad266) t263.length co13 : Value).ownBlock) (fun _ => False) rfl rfl ?aP (fun _ hk => hk.elim) ?aF ?aO ?aB ?aS ?aL ?_; (case aP => exact rfl); (case aB => exact (by repeat (first | (with_reducible first | exact HB.out | apply below_alloc | apply pw_below_drewN | apply below_drew1) | exact HB.out))); (case aF => exact (fun k_ hk => Kd.fresh' (Kd.R_lt (by (with_reducible repeat (first | apply Kd.R_alloc | apply Kd.R_drewN | apply Kd.R_drew)); exact HO_6.out)) k_ hk)); (case aO => exact (by (with_reducible repeat (first | apply Kd.R_alloc | apply Kd.R_drewN | apply Kd.R_drew)); exact HO_5.out)); (case aS => exact (below_size (by repeat (first | (with_reducible first | exact HB.out | apply below_alloc | apply pw_below_drewN | apply below_drew1) | exact HB.out)))); (case aL => have := LMc12.out; omega); intro v271 w14 ho hb hg hat; rw [← Ny270.out] at ho; have n0_ := Aside0.mk (Kd.R_after (ok := (fun _ => True)) (by (with_reducible repeat (first | apply Kd.R_alloc | apply Kd.R_drewN | apply Kd.R_drew)); exact Kd.R_mono HO_6.out (fun _ hk => ⟨trivial, hk⟩)) hg hat); have n1_ := Aside0.mk (hb); have n2_ := Aside0.mk (ho); clear HO_6; clear HB; clear HO_5; have HO_6 := n0_; have HB := n1_; have HO272 := n2_; clear n0_ n1_ n2_; clear ho hb hg hat))
        go_roundg k1
        case measure => have := HK1.out; omega
        case rel => exact ⟨(y270), (wrap64 (x7_1 + 1)), (by first | rfl | (simp; done) | (simp [*]; done)), H', ⟨by have := HK1.out; omega⟩, ⟨by (with_reducible repeat (first | apply Kd.R_alloc | apply Kd.R_drewN | apply Kd.R_drew)); exact HO272.out⟩, ⟨by (with_reducible repeat (first | apply Kd.R_alloc | apply Kd.R_drewN | apply Kd.R_drew)); exact Kd.R_mono HO_6.out (fun _ hk => hk.2)⟩, ⟨by repeat (first | (with_reducible first | exact HB.out | apply below_alloc | apply pw_below_drewN | apply below_drew1) | exact HB.out)⟩⟩
      rw [if_neg c11] at H
      have c11b0 : ((Int.tmod (rd l1 (rd t263 x7_1)) 2) == 0) = false := beq_eq_false_iff_ne.mpr c11
      have c11b1 : ((Int.tmod (rd l1 (rd t263 x7_1)) 2) != 0) = true := bne_iff_ne.mpr c11
      replace H := Option.bind_eq_some_iff.mp H
      obtain ⟨t273, A150, H⟩ := H
      replace H : (if x5_1.length < 17592186044416 then (ductusref14_Seen.l0 k1 l0 l1 (x5_1 ++ [t273]) t263 (wrap64 (x7_1 + 1))) else (none)) = some r := H
      have A15 := Aside0.mk A150
      clear A150
      by_cases c16 : x5_1.length < 17592186044416
      rotate_left
      · rw [if_neg c16] at H
        exact absurd H (by simp)
      rw [if_pos c16] at H
      have LMc16 := Aside0.mk c16
      clear c16
      obtain ⟨y274, hy274⟩ : ∃ y_ : List Int, y_ = (x5_1 ++ [t273]) := ⟨_, rfl⟩
      replace H : (ductusref14_Seen.l0 k1 l0 l1 y274 t263 (wrap64 (x7_1 + 1))) = some r := by first | (rw [hy274]; with_reducible exact H) | (have H2_ := (Option.bind_some _ _).symm.trans H; rw [hy274]; with_reducible exact H2_) | (have H2_ := (Option.bind_some _ _).symm.trans H; with_reducible exact H2_) | with_reducible exact H | (rw [hy274]; exact H) | exact H
      have Ny274 := Aside0.mk hy274
      clear hy274
      have H' := Aside0.mk H
      clear H
      obtain ⟨Ao17, co17, eo17⟩ := Kd.R_slice HO_6.out
      subst eo17
      have p266 : 0 ≤ (x7_1 : Int) := of_decide_eq_true (by first | (with_reducible assumption) | assumption)
      have q266 : x7_1 < (t263.length : Int) := of_decide_eq_true (by first | (with_reducible assumption) | assumption)
      obtain ⟨ad266, e266, hx266_0⟩ := Kd.at_int (Kd.R_reads' HO_6.out).2.2 x7_1 p266 q266
      cases e266
      replace p266 := eq_true p266
      replace q266 := eq_true q266
      have p267 : 0 ≤ ((rd t263 x7_1) : Int) := of_decide_eq_true (by first | (with_reducible assumption) | assumption)
      have q267 : (rd t263 x7_1) < (l0.length : Int) := of_decide_eq_true (by first | (with_reducible assumption) | assumption)
      obtain ⟨ad267, e267, hx267_0⟩ := Kd.at_int HR0.out (rd t263 x7_1) p267 q267
      cases e267
      replace hx267_0 := (HB.out.cell (World.block_lt_of_cell? w _ hx267_0)).trans hx267_0
      replace p267 := eq_true p267
      replace q267 := eq_true q267
      have p268 : 0 ≤ (x7_1 : Int) := of_decide_eq_true (by first | (with_reducible assumption) | assumption)
      have q268 : x7_1 < (t263.length : Int) := of_decide_eq_true (by first | (with_reducible assumption) | assumption)
      obtain ⟨ad268, e268, hx268_0⟩ := Kd.at_int (Kd.R_reads' HO_6.out).2.2 x7_1 p268 q268
      obtain rfl : ad266 = ad268 := (by injection e268)
      replace p268 := eq_true p268
      replace q268 := eq_true q268
      have p269 : 0 ≤ ((rd t263 x7_1) : Int) := of_decide_eq_true (by first | (with_reducible assumption) | assumption)
      have q269 : (rd t263 x7_1) < (l1.length : Int) := of_decide_eq_true (by first | (with_reducible assumption) | assumption)
      obtain ⟨ad269, e269, hx269_0⟩ := Kd.at_int HR1.out (rd t263 x7_1) p269 q269
      cases e269
      replace hx269_0 := (HB.out.cell (World.block_lt_of_cell? w _ hx269_0)).trans hx269_0
      replace p269 := eq_true p269
      replace q269 := eq_true q269
      go_wp2_with (first | ((with_reducible refine gate_callee (f := 19) rfl ?_); refine goesL_ (some 39) rfl rfl Try.func19 (by kernel_rfl) rfl #[.int .i64 (rd l0 (rd t263 x7_1))] rfl (by (try simp only [List.map_toArray, List.map_cons, List.map_nil]); first | done | rfl | (simp only [List.length_drop, List.length_take]; rfl)) ?_; (with_reducible refine (ductusref03_Mirror.calls k1 (rd l0 (rd t263 x7_1)) t273 _ A15.out).mono ?_); rintro e w18 ⟨rfl, hb⟩; refine ⟨_, rfl, ?_⟩; have n0_ := Aside0.mk (Kd.R_below (by (with_reducible repeat (first | apply Kd.R_alloc | apply Kd.R_drewN | apply Kd.R_drew)); exact HO_5.out) hb); have n1_ := Aside0.mk (Kd.R_below (by (with_reducible repeat (first | apply Kd.R_alloc | apply Kd.R_drewN | apply Kd.R_drew)); exact HO_6.out) hb); have n2_ := Aside0.mk (below_step (by repeat (first | (with_reducible first | exact HB.out | apply below_alloc | apply pw_below_drewN | apply below_drew1) | exact HB.out)) hb); clear HO_5; clear HO_6; clear HB; have HO_5 := n0_; have HO_6 := n1_; have HB := n2_; clear n0_ n1_ n2_; (try clear hb); (try clear hb2); (try clear hk); (try clear hi)) | ((with_reducible refine gate_builtin (b := .append) (xs := #[.tmp 40, .tmp 42]) rfl ?_); at_builtin; refine Kd.R_append (Kd.int .i64) (w0 := w) w.heap.size rfl (.tmp 40) (.tmp 42) 22 3 (.int .i64 0) 8 rfl Try.underlying22 info3 rfl (by decide) (by omega) u5 x5_1 t273 [.int .i64 t273] (fun k_ => some k_ ≠ (.slice (some ad266) t263.length co17 : Value).ownBlock) (fun _ => False) rfl rfl ?aP (fun _ hk => hk.elim) ?aF ?aO ?aB ?aS ?aL ?_; (case aP => exact rfl); (case aB => exact (by repeat (first | (with_reducible first | exact HB.out | apply below_alloc | apply pw_below_drewN | apply below_drew1) | exact HB.out))); (case aF => exact (fun k_ hk => Kd.fresh' (Kd.R_lt (by (with_reducible repeat (first | apply Kd.R_alloc | apply Kd.R_drewN | apply Kd.R_drew)); exact HO_6.out)) k_ hk)); (case aO => exact (by (with_reducible repeat (first | apply Kd.R_alloc | apply Kd.R_drewN | apply Kd.R_drew)); exact HO_5.out)); (case aS => exact (below_size (by repeat (first | (with_reducible first | exact HB.out | apply below_alloc | apply pw_below_drewN | apply below_drew1) | exact HB.out)))); (case aL => have := LMc16.out; omega); intro v275 w19 ho hb hg hat; rw [← Ny274.out] at ho; have n0_ := Aside0.mk (Kd.R_after (ok := (fun _ => True)) (by (with_reducible repeat (first | apply Kd.R_alloc | apply Kd.R_drewN | apply Kd.R_drew)); exact Kd.R_mono HO_6.out (fun _ hk => ⟨trivial, hk⟩)) hg hat); have n1_ := Aside0.mk (hb); have n2_ := Aside0.mk (ho); clear HO_6; clear HB; clear HO_5; have HO_6 := n0_; have HB := n1_; have HO276 := n2_; clear n0_ n1_ n2_; clear ho hb hg hat))
      go_roundg k1
      case measure => have := HK1.out; omega
      case rel => exact ⟨(y274), (wrap64 (x7_1 + 1)), (by first | rfl | (simp; done) | (simp [*]; done)), H', ⟨by have := HK1.out; omega⟩, ⟨by (with_reducible repeat (first | apply Kd.R_alloc | apply Kd.R_drewN | apply Kd.R_drew)); exact HO276.out⟩, ⟨by (with_reducible repeat (first | apply Kd.R_alloc | apply Kd.R_drewN | apply Kd.R_drew)); exact Kd.R_mono HO_6.out (fun _ hk => hk.2)⟩, ⟨by repeat (first | (with_reducible first | exact HB.out | apply below_alloc | apply pw_below_drewN | apply below_drew1) | exact HB.out)⟩⟩

/-! ### ductusref14_Only: function 18 -/
def ductusref14_Only.l0 : Nat → List Int → List Bool → List Int → Int → Option (List Int)
  | 0, _, _, _, _ => none
  | k + 1, x0, x1, x5, x6 => if x6 < (x0.length : Int) then (if 0 ≤ x6 then (if (rd x0 x6) ≥ 0 then (if (rd x0 x6) < (x1.length : Int) then (if 0 ≤ (rd x0 x6) then (if rdOf false x1 (rd x0 x6) = true then (if x5.length < 17592186044416 then (ductusref14_Only.l0 k x0 x1 (x5 ++ [rd x0 x6]) (wrap64 (x6 + 1))) else (none)) else (ductusref14_Only.l0 k x0 x1 x5 (wrap64 (x6 + 1)))) else (none)) else (ductusref14_Only.l0 k x0 x1 x5 (wrap64 (x6 + 1)))) else (ductusref14_Only.l0 k x0 x1 x5 (wrap64 (x6 + 1)))) else (none)) else (some x5)
def ductusref14_Only.f (k : Nat) (l0 : List Int) (l1 : List Bool) : Option (List Int) := ductusref14_Only.l0 k l0 l1 ([] : List Int) 0
theorem ductusref14_Only.mono_l : ∀ k, (∀ y0 y1 y2 y3, LeO (ductusref14_Only.l0 k y0 y1 y2 y3) (ductusref14_Only.l0 (k + 1) y0 y1 y2 y3))
  | 0 => fun _ _ _ _ r h => by simp [ductusref14_Only.l0] at h
  | k + 1 => by
    have ih0 := ductusref14_Only.mono_l k
    · intro y0 y1 y2 y3
      unfold ductusref14_Only.l0
      repeat' first
      | (with_reducible exact ih0 _ _ _ _)
      | (with_reducible exact LeO.refl _)
      | (with_reducible exact LeO.none _)
      | (with_reducible refine LeO.ite ?_ ?_)
      | (with_reducible refine LeO.bind ?_ (fun _ => ?_))
      | exact ih0 _ _ _ _
      | exact LeO.none _
      | refine LeO.ite ?_ ?_
      | refine LeO.bind ?_ (fun _ => ?_)
theorem ductusref14_Only.mono : ∀ a0 a1 k, LeO (ductusref14_Only.f k a0 a1) (ductusref14_Only.f (k + 1) a0 a1) := by
  intro a0 a1 k
  have ih0 := ductusref14_Only.mono_l k
  unfold ductusref14_Only.f
  repeat' first
      | (with_reducible exact ih0 _ _ _ _)
      | (with_reducible exact LeO.refl _)
      | (with_reducible exact LeO.none _)
      | (with_reducible refine LeO.ite ?_ ?_)
      | (with_reducible refine LeO.bind ?_ (fun _ => ?_))
      | exact ih0 _ _ _ _
      | exact LeO.none _
      | refine LeO.ite ?_ ?_
      | refine LeO.bind ?_ (fun _ => ?_)
set_option maxHeartbeats 8000000 in
set_option maxRecDepth 100000 in
theorem ductusref14_Only.calls (k : Nat) (A0 : Option Addr) (c0 : Nat) (l0 : List Int) (A1 : Option Addr) (c1 : Nat) (l1 : List Bool) (r : List Int) (w : World) (hr0 : Kd.C (Kd.int .i64) w A0 l0.length l0) (hc0 : l0.length ≤ c0) (hr1 : Kd.C Kd.bool w A1 l1.length l1) (hc1 : l1.length ≤ c1) (h : ductusref14_Only.f k l0 l1 = some r) :
    Calls Try.prog 18 #[.slice A0 l0.length c0, .slice A1 l1.length c1] w fun e w' => ∃ v0_ : Value, e = .returned (v0_) ∧ Kd.R (Kd.int .i64) 3 w' w.heap.size (fun _ => True) v0_ r ∧ Below w.heap.size w w' := by
  have HR0 := Aside0.mk hr0
  have HC0 := Aside0.mk hc0
  clear hr0 hc0
  have HR1 := Aside0.mk hr1
  have HC1 := Aside0.mk hc1
  clear hr1 hc1
  have HB := Aside0.mk (Below.refl w.heap.size w)
  have H : (ductusref14_Only.l0 k l0 l1 ([] : List Int) 0) = some r := h
  clear h
  have H' := Aside0.mk H
  clear H
  go_enter Try.func18, Try.ntmps18
  go_wp2
  go_loopg [5, 6] k (fun kq v5 v6 w' => ∃ (x5_1 : List Int) (x6_1 : Int), v6 = .int .i64 x6_1 ∧ Aside0 (ductusref14_Only.l0 kq l0 l1 x5_1 x6_1 = some r) ∧ Aside0 (kq ≤ k) ∧ Aside0 (Kd.R (Kd.int .i64) 3 w' w.heap.size (fun _ => True) v5 x5_1) ∧ Aside0 (Below w.heap.size w w'))
  case atStart => exact ⟨(([] : List Int)), (0), (by first | rfl | (simp; done) | (simp [*]; done)), H', ⟨Nat.le_refl _⟩, ⟨by first | exact Kd.R_nil _ _ _ _ _ | exact Kd.N_nil _ _ _ _ _ | exact Kd.V_nil _ _ _ _ _ | exact Kd.Q_nil _ _ _ _ _ | exact Kd.S_nil _ _ _ _ _⟩, ⟨by repeat (first | (with_reducible first | exact HB.out | apply below_alloc | apply pw_below_drewN | apply below_drew1) | exact HB.out)⟩⟩
  case round =>
    clear H'
    try clear c1
    try clear p2
    obtain ⟨x5_1, x6_1, rfl, HA, HK1, HO_5, HB⟩ := hrel
    cases gk with
    | zero => exact absurd HA.out (by simp [ductusref14_Only.l0])
    | succ k1 =>
      have H := HA.out
      clear HA
      simp only [ductusref14_Only.l0] at H
      by_cases c3 : x6_1 < (l0.length : Int)
      rotate_left
      · rw [if_neg c3] at H
        have c3b0 : decide (x6_1 < (l0.length : Int)) = false := decide_eq_false c3
        clear c3
        obtain rfl := Option.some.inj H
        go_wp2
        go_ret
        exact ⟨_, by first | rfl | (simp [errW_none, errW_some] <;> rfl) | (simp [*, errW_none, errW_some] <;> rfl), by (with_reducible repeat (first | apply Kd.R_alloc | apply Kd.R_drewN | apply Kd.R_drew)); exact HO_5.out, by repeat (first | (with_reducible first | exact HB.out | apply below_alloc | apply pw_below_drewN | apply below_drew1) | exact HB.out)⟩
      rw [if_pos c3] at H
      have c3b0 : decide (x6_1 < (l0.length : Int)) = true := decide_eq_true c3
      clear c3
      by_cases c4 : 0 ≤ x6_1
      rotate_left
      · rw [if_neg c4] at H
        exact absurd H (by simp)
      rw [if_pos c4] at H
      have c4b0 : decide (0 ≤ x6_1) = true := decide_eq_true c4
      clear c4
      by_cases c5 : (rd l0 x6_1) ≥ 0
      rotate_left
      · rw [if_neg c5] at H
        have c5b0 : decide (0 ≤ (rd l0 x6_1)) = false := decide_eq_false c5
        clear c5
        have H' := Aside0.mk H
        clear H
        have p277 : 0 ≤ (x6_1 : Int) := of_decide_eq_true (by first | (with_reducible assumption) | assumption)
        have q277 : x6_1 < (l0.length : Int) := of_decide_eq_true (by first | (with_reducible assumption) | assumption)
        obtain ⟨ad277, e277, hx277_0⟩ := Kd.at_int HR0.out x6_1 p277 q277
        cases e277
        replace hx277_0 := (HB.out.cell (World.block_lt_of_cell? w _ hx277_0)).trans hx277_0
        replace p277 := eq_true p277
        replace q277 := eq_true q277
        go_wp2
        go_roundg k1
        case measure => have := HK1.out; omega
        case rel => exact ⟨(x5_1), (wrap64 (x6_1 + 1)), (by first | rfl | (simp; done) | (simp [*]; done)), H', ⟨by have := HK1.out; omega⟩, ⟨by (with_reducible repeat (first | apply Kd.R_alloc | apply Kd.R_drewN | apply Kd.R_drew)); exact HO_5.out⟩, ⟨by repeat (first | (with_reducible first | exact HB.out | apply below_alloc | apply pw_below_drewN | apply below_drew1) | exact HB.out)⟩⟩
      rw [if_pos c5] at H
      have c5b0 : decide (0 ≤ (rd l0 x6_1)) = true := decide_eq_true c5
      clear c5
      by_cases c6 : (rd l0 x6_1) < (l1.length : Int)
      rotate_left
      · rw [if_neg c6] at H
        have c6b0 : decide ((rd l0 x6_1) < (l1.length : Int)) = false := decide_eq_false c6
        clear c6
        have H' := Aside0.mk H
        clear H
        have p277 : 0 ≤ (x6_1 : Int) := of_decide_eq_true (by first | (with_reducible assumption) | assumption)
        have q277 : x6_1 < (l0.length : Int) := of_decide_eq_true (by first | (with_reducible assumption) | assumption)
        obtain ⟨ad277, e277, hx277_0⟩ := Kd.at_int HR0.out x6_1 p277 q277
        cases e277
        replace hx277_0 := (HB.out.cell (World.block_lt_of_cell? w _ hx277_0)).trans hx277_0
        replace p277 := eq_true p277
        replace q277 := eq_true q277
        have p278 : 0 ≤ (x6_1 : Int) := of_decide_eq_true (by first | (with_reducible assumption) | assumption)
        have q278 : x6_1 < (l0.length : Int) := of_decide_eq_true (by first | (with_reducible assumption) | assumption)
        obtain ⟨ad278, e278, hx278_0⟩ := Kd.at_int HR0.out x6_1 p278 q278
        obtain rfl : ad277 = ad278 := (by injection e278)
        replace hx278_0 := (HB.out.cell (World.block_lt_of_cell? w _ hx278_0)).trans hx278_0
        replace p278 := eq_true p278
        replace q278 := eq_true q278
        go_wp2
        go_roundg k1
        case measure => have := HK1.out; omega
        case rel => exact ⟨(x5_1), (wrap64 (x6_1 + 1)), (by first | rfl | (simp; done) | (simp [*]; done)), H', ⟨by have := HK1.out; omega⟩, ⟨by (with_reducible repeat (first | apply Kd.R_alloc | apply Kd.R_drewN | apply Kd.R_drew)); exact HO_5.out⟩, ⟨by repeat (first | (with_reducible first | exact HB.out | apply below_alloc | apply pw_below_drewN | apply below_drew1) | exact HB.out)⟩⟩
      rw [if_pos c6] at H
      have c6b0 : decide ((rd l0 x6_1) < (l1.length : Int)) = true := decide_eq_true c6
      clear c6
      by_cases c7 : 0 ≤ (rd l0 x6_1)
      rotate_left
      · rw [if_neg c7] at H
        exact absurd H (by simp)
      rw [if_pos c7] at H
      have c7b0 : decide (0 ≤ (rd l0 x6_1)) = true := decide_eq_true c7
      clear c7
      obtain ⟨bq8, hbq8⟩ : ∃ b_ : Bool, b_ = (rdOf false l1 (rd l0 x6_1)) := ⟨_, rfl⟩
      replace H : (if bq8 = true then (if x5_1.length < 17592186044416 then (ductusref14_Only.l0 k1 l0 l1 (x5_1 ++ [rd l0 x6_1]) (wrap64 (x6_1 + 1))) else (none)) else (ductusref14_Only.l0 k1 l0 l1 x5_1 (wrap64 (x6_1 + 1)))) = some r := by rw [← hbq8] at H; exact H
      have Nbq8 := Aside0.mk hbq8
      clear hbq8
      by_cases c9 : bq8 = true
      rotate_left
      · replace c9 := Bool.eq_false_iff.mpr c9
        subst c9
        have H1 : (ductusref14_Only.l0 k1 l0 l1 x5_1 (wrap64 (x6_1 + 1))) = some r := by rw [if_neg (show ¬ (false = true) by decide)] at H; exact H
        clear H
        have H := H1
        clear H1
        have H' := Aside0.mk H
        clear H
        have p277 : 0 ≤ (x6_1 : Int) := of_decide_eq_true (by first | (with_reducible assumption) | assumption)
        have q277 : x6_1 < (l0.length : Int) := of_decide_eq_true (by first | (with_reducible assumption) | assumption)
        obtain ⟨ad277, e277, hx277_0⟩ := Kd.at_int HR0.out x6_1 p277 q277
        cases e277
        replace hx277_0 := (HB.out.cell (World.block_lt_of_cell? w _ hx277_0)).trans hx277_0
        replace p277 := eq_true p277
        replace q277 := eq_true q277
        have p278 : 0 ≤ (x6_1 : Int) := of_decide_eq_true (by first | (with_reducible assumption) | assumption)
        have q278 : x6_1 < (l0.length : Int) := of_decide_eq_true (by first | (with_reducible assumption) | assumption)
        obtain ⟨ad278, e278, hx278_0⟩ := Kd.at_int HR0.out x6_1 p278 q278
        obtain rfl : ad277 = ad278 := (by injection e278)
        replace hx278_0 := (HB.out.cell (World.block_lt_of_cell? w _ hx278_0)).trans hx278_0
        replace p278 := eq_true p278
        replace q278 := eq_true q278
        have p279 : 0 ≤ (x6_1 : Int) := of_decide_eq_true (by first | (with_reducible assumption) | assumption)
        have q279 : x6_1 < (l0.length : Int) := of_decide_eq_true (by first | (with_reducible assumption) | assumption)
        obtain ⟨ad279, e279, hx279_0⟩ := Kd.at_int HR0.out x6_1 p279 q279
        obtain rfl : ad277 = ad279 := (by injection e279)
        replace hx279_0 := (HB.out.cell (World.block_lt_of_cell? w _ hx279_0)).trans hx279_0
        replace p279 := eq_true p279
        replace q279 := eq_true q279
        have p280 : 0 ≤ ((rd l0 x6_1) : Int) := of_decide_eq_true (by first | (with_reducible assumption) | assumption)
        have q280 : (rd l0 x6_1) < (l1.length : Int) := of_decide_eq_true (by first | (with_reducible assumption) | assumption)
        obtain ⟨ad280, e280, hx280_0⟩ := Kd.at_bool HR1.out (rd l0 x6_1) p280 q280
        (try rw [← Nbq8.out] at hx280_0)
        cases e280
        replace hx280_0 := (HB.out.cell (World.block_lt_of_cell? w _ hx280_0)).trans hx280_0
        replace p280 := eq_true p280
        replace q280 := eq_true q280
        go_wp2
        go_roundg k1
        case measure => have := HK1.out; omega
        case rel => exact ⟨(x5_1), (wrap64 (x6_1 + 1)), (by first | rfl | (simp; done) | (simp [*]; done)), H', ⟨by have := HK1.out; omega⟩, ⟨by (with_reducible repeat (first | apply Kd.R_alloc | apply Kd.R_drewN | apply Kd.R_drew)); exact HO_5.out⟩, ⟨by repeat (first | (with_reducible first | exact HB.out | apply below_alloc | apply pw_below_drewN | apply below_drew1) | exact HB.out)⟩⟩
      subst c9
      have H1 : (if x5_1.length < 17592186044416 then (ductusref14_Only.l0 k1 l0 l1 (x5_1 ++ [rd l0 x6_1]) (wrap64 (x6_1 + 1))) else (none)) = some r := by rw [if_pos rfl] at H; exact H
      clear H
      have H := H1
      clear H1
      by_cases c10 : x5_1.length < 17592186044416
      rotate_left
      · rw [if_neg c10] at H
        exact absurd H (by simp)
      rw [if_pos c10] at H
      have LMc10 := Aside0.mk c10
      clear c10
      obtain ⟨y282, hy282⟩ : ∃ y_ : List Int, y_ = (x5_1 ++ [rd l0 x6_1]) := ⟨_, rfl⟩
      replace H : (ductusref14_Only.l0 k1 l0 l1 y282 (wrap64 (x6_1 + 1))) = some r := by first | (rw [hy282]; with_reducible exact H) | (have H2_ := (Option.bind_some _ _).symm.trans H; rw [hy282]; with_reducible exact H2_) | (have H2_ := (Option.bind_some _ _).symm.trans H; with_reducible exact H2_) | with_reducible exact H | (rw [hy282]; exact H) | exact H
      have Ny282 := Aside0.mk hy282
      clear hy282
      have H' := Aside0.mk H
      clear H
      have p277 : 0 ≤ (x6_1 : Int) := of_decide_eq_true (by first | (with_reducible assumption) | assumption)
      have q277 : x6_1 < (l0.length : Int) := of_decide_eq_true (by first | (with_reducible assumption) | assumption)
      obtain ⟨ad277, e277, hx277_0⟩ := Kd.at_int HR0.out x6_1 p277 q277
      cases e277
      replace hx277_0 := (HB.out.cell (World.block_lt_of_cell? w _ hx277_0)).trans hx277_0
      replace p277 := eq_true p277
      replace q277 := eq_true q277
      have p278 : 0 ≤ (x6_1 : Int) := of_decide_eq_true (by first | (with_reducible assumption) | assumption)
      have q278 : x6_1 < (l0.length : Int) := of_decide_eq_true (by first | (with_reducible assumption) | assumption)
      obtain ⟨ad278, e278, hx278_0⟩ := Kd.at_int HR0.out x6_1 p278 q278
      obtain rfl : ad277 = ad278 := (by injection e278)
      replace hx278_0 := (HB.out.cell (World.block_lt_of_cell? w _ hx278_0)).trans hx278_0
      replace p278 := eq_true p278
      replace q278 := eq_true q278
      have p279 : 0 ≤ (x6_1 : Int) := of_decide_eq_true (by first | (with_reducible assumption) | assumption)
      have q279 : x6_1 < (l0.length : Int) := of_decide_eq_true (by first | (with_reducible assumption) | assumption)
      obtain ⟨ad279, e279, hx279_0⟩ := Kd.at_int HR0.out x6_1 p279 q279
      obtain rfl : ad277 = ad279 := (by injection e279)
      replace hx279_0 := (HB.out.cell (World.block_lt_of_cell? w _ hx279_0)).trans hx279_0
      replace p279 := eq_true p279
      replace q279 := eq_true q279
      have p280 : 0 ≤ ((rd l0 x6_1) : Int) := of_decide_eq_true (by first | (with_reducible assumption) | assumption)
      have q280 : (rd l0 x6_1) < (l1.length : Int) := of_decide_eq_true (by first | (with_reducible assumption) | assumption)
      obtain ⟨ad280, e280, hx280_0⟩ := Kd.at_bool HR1.out (rd l0 x6_1) p280 q280
      (try rw [← Nbq8.out] at hx280_0)
      cases e280
      replace hx280_0 := (HB.out.cell (World.block_lt_of_cell? w _ hx280_0)).trans hx280_0
      replace p280 := eq_true p280
      replace q280 := eq_true q280
      have p281 : 0 ≤ (x6_1 : Int) := of_decide_eq_true (by first | (with_reducible assumption) | assumption)
      have q281 : x6_1 < (l0.length : Int) := of_decide_eq_true (by first | (with_reducible assumption) | assumption)
      obtain ⟨ad281, e281, hx281_0⟩ := Kd.at_int HR0.out x6_1 p281 q281
      obtain rfl : ad277 = ad281 := (by injection e281)
      replace hx281_0 := (HB.out.cell (World.block_lt_of_cell? w _ hx281_0)).trans hx281_0
      replace p281 := eq_true p281
      replace q281 := eq_true q281
      go_wp2_with (first | ((with_reducible refine gate_builtin (b := .append) (xs := #[.tmp 36, .tmp 41]) rfl ?_); (try (refine gate_guard (by rfl) ?_; dsimp only)); at_builtin; refine Kd.R_append (Kd.int .i64) (w0 := w) w.heap.size rfl (.tmp 36) (.tmp 41) 22 3 (.int .i64 0) 8 rfl Try.underlying22 info3 rfl (by decide) (by omega) u5 x5_1 (rd l0 x6_1) [.int .i64 (rd l0 x6_1)] (fun _ => True) (fun _ => False) rfl rfl ?aP (fun _ hk => hk.elim) ?aF ?aO ?aB ?aS ?aL ?_; (case aP => exact rfl); (case aB => exact (by repeat (first | (with_reducible first | exact HB.out | apply below_alloc | apply pw_below_drewN | apply below_drew1) | exact HB.out))); (case aF => exact (fun _ _ => trivial)); (case aO => exact (by (with_reducible repeat (first | apply Kd.R_alloc | apply Kd.R_drewN | apply Kd.R_drew)); exact HO_5.out)); (case aS => exact (below_size (by repeat (first | (with_reducible first | exact HB.out | apply below_alloc | apply pw_below_drewN | apply below_drew1) | exact HB.out)))); (case aL => have := LMc10.out; omega); intro v283 w11 ho hb hg hat; rw [← Ny282.out] at ho; have n0_ := Aside0.mk (hb); have n1_ := Aside0.mk (ho); clear HB; clear HO_5; have HB := n0_; have HO284 := n1_; clear n0_ n1_; clear ho hb hg hat))
      go_roundg k1
      case measure => have := HK1.out; omega
      case rel => exact ⟨(y282), (wrap64 (x6_1 + 1)), (by first | rfl | (simp; done) | (simp [*]; done)), H', ⟨by have := HK1.out; omega⟩, ⟨by (with_reducible repeat (first | apply Kd.R_alloc | apply Kd.R_drewN | apply Kd.R_drew)); exact HO284.out⟩, ⟨by repeat (first | (with_reducible first | exact HB.out | apply below_alloc | apply pw_below_drewN | apply below_drew1) | exact HB.out)⟩⟩

end Go.Proofs.Ytcmcajjdcbkfkaa.P
