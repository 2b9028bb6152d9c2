/- Proved: the theorems below, each under its own conditions. -/
import Derived.Test.YtmjipbmpapcboaaC13
import Derived.Test.YtmjipbmpapcboaaC14
import Derived.Test.YtmjipbmpapcboaaC17
import Derived.Test.YtmjipbmpapcboaaC24
import Derived.BigQuiet
set_option maxHeartbeats 8000000
set_option maxRecDepth 100000
namespace Go.Proofs.Ytmjipbmpapcboaa.P
open Go.RowKit Go.Proofs.YtmjipbmpapcboaaW.PrintWords Go.Proofs.YtmjipbmpapcboaaW.PrintLast Go.Proofs.YtmjipbmpapcboaaW.PrintMore
attribute [local go_sem] max2_int min2_int max_two min_two
set_option linter.unusedVariables false
set_option linter.unusedSimpArgs false
def ductusref02_Neutral.f (a0 : Int) : Option (Bool) := if a0 = 10 then (some true) else (if a0 = 11 then (some true) else (if a0 = 12 then (some true) else (if a0 = 13 then (some true) else ((ductusref02_Opens.f a0).bind fun t632 => (if t632 = true then (some true) else (some (a0 == 22)))))))
theorem ductusref02_Neutral.calls (a0 : Int) (r : Bool) (w : World) (h : ductusref02_Neutral.f a0 = some r) :
    Calls Try.prog 83 #[.int .i64 a0] w fun e w' => e = .returned (.bool r) ∧ Drawn0 w w' := by
  unfold ductusref02_Neutral.f at h;have H := h;clear h
  by_cases c2 : a0 = 10
  · rw [if_pos c2] at H
    have c2b0 := beq_iff_eq.mpr c2;have c2b1 := bne_eq_false_iff_eq.mpr c2;clear c2;obtain rfl := Option.some.inj H
    go_enter Try.func83, Try.ntmps83
    go_wp2;go_ret;exact ⟨uF, uW⟩
  rw [if_neg c2] at H;have c2b0 := beq_eq_false_iff_ne.mpr c2;have c2b1 := bne_iff_ne.mpr c2
  by_cases c3 : a0 = 11
  · rw [if_pos c3] at H
    have c3b0 := beq_iff_eq.mpr c3;have c3b1 := bne_eq_false_iff_eq.mpr c3;clear c3;obtain rfl := Option.some.inj H
    go_enter Try.func83, Try.ntmps83
    go_wp2;go_ret;exact ⟨uF, uW⟩
  rw [if_neg c3] at H;have c3b0 := beq_eq_false_iff_ne.mpr c3;have c3b1 := bne_iff_ne.mpr c3
  by_cases c4 : a0 = 12
  · rw [if_pos c4] at H
    have c4b0 := beq_iff_eq.mpr c4;have c4b1 := bne_eq_false_iff_eq.mpr c4;clear c4;obtain rfl := Option.some.inj H
    go_enter Try.func83, Try.ntmps83
    go_wp2;go_ret;exact ⟨uF, uW⟩
  rw [if_neg c4] at H;have c4b0 := beq_eq_false_iff_ne.mpr c4;have c4b1 := bne_iff_ne.mpr c4
  by_cases c5 : a0 = 13
  · rw [if_pos c5] at H
    have c5b0 := beq_iff_eq.mpr c5;have c5b1 := bne_eq_false_iff_eq.mpr c5;clear c5;obtain rfl := Option.some.inj H
    go_enter Try.func83, Try.ntmps83
    go_wp2;go_ret;exact ⟨uF, uW⟩
  rw [if_neg c5] at H;have c5b0 := beq_eq_false_iff_ne.mpr c5;have c5b1 := bne_iff_ne.mpr c5;replace H := Option.bind_eq_some_iff.mp H;obtain ⟨t632, A60, H⟩ := H;have A6 := Aside0.mk A60;clear A60
  by_cases c7 : t632 = true
  · subst c7
    have H1 : (some true) = some r := by rw [if_pos rfl] at H; exact H
    clear H;have H := H1;clear H1;obtain rfl := Option.some.inj H
    go_enter Try.func83, Try.ntmps83
    go_wp2_with (first | (go_at_call 22; (with_reducible refine (ductusref02_Opens.calls a0 true _ A6.out).mono ?_); rintro e w' ⟨rfl, ⟨nd, rfl⟩⟩))
    go_ret;exact ⟨uF, uW⟩
  replace c7 := Bool.eq_false_iff.mpr c7;subst c7
  have H1 : (some (a0 == 22)) = some r := by rw [if_neg (show ¬ (false = true) by decide)] at H; exact H
  clear H;have H := H1;clear H1;obtain rfl := Option.some.inj H
  go_enter Try.func83, Try.ntmps83
  go_wp2_with (first | (go_at_call 22; (with_reducible refine (ductusref02_Opens.calls a0 false _ A6.out).mono ?_); rintro e w' ⟨rfl, ⟨nd, rfl⟩⟩))
  go_ret;exact ⟨uF, uW⟩
def ductusref11_Groups.l0 : Nat → List Int → List (S87) → Int → Option ((List (S87)))
  | 0, _, _, _ => none
  | k + 1, x0, x3, x4 => if x4 < (x0.length : Int) then (if 0 ≤ x4 then ((ductusref02_Neutral.f (rd x0 x4)).bind fun t634 => (if t634 = true then (if (x3.length : Int) > 0 then (if 0 ≤ (wrap64 ((x3.length : Int) - 1)) then (if (wrap64 ((x3.length : Int) - 1)) < (x3.length : Int) then (if ((rd_T87 x3 (wrap64 ((x3.length : Int) - 1))).f1) = x4 then (ductusref11_Groups.l0 k x0 (x3.set ((wrap64 ((x3.length : Int) - 1)) : Int).toNat (⟨(rd_T87 x3 (wrap64 ((x3.length : Int) - 1))).f0, wrap64 (x4 + 1)⟩ : S87)) (wrap64 (x4 + 1))) else (if x3.length < 8796093022208 then (ductusref11_Groups.l0 k x0 (x3 ++ [(⟨x4, wrap64 (x4 + 1)⟩ : S87)]) (wrap64 (x4 + 1))) else (none))) else (none)) else (none)) else (if x3.length < 8796093022208 then (ductusref11_Groups.l0 k x0 (x3 ++ [(⟨x4, wrap64 (x4 + 1)⟩ : S87)]) (wrap64 (x4 + 1))) else (none))) else (ductusref11_Groups.l0 k x0 x3 (wrap64 (x4 + 1))))) else (none)) else (some x3)
def ductusref11_Groups.f (k : Nat) (l0 : List Int) : Option ((List (S87))) := ductusref11_Groups.l0 k l0 ([] : List (S87)) 0
theorem ductusref11_Groups.calls (k : Nat) (A0 : Option Addr) (c0 : Nat) (l0 : List Int) (r : List (S87)) (w : World) (hr0 : Kd.C (Kd.int .i64) w A0 l0.length l0) (hc0 : l0.length ≤ c0) (h : ductusref11_Groups.f k l0 = some r) :
    Calls Try.prog 62 #[.slice A0 l0.length c0] w fun e w' => ∃ v0_ : Value, e = .returned (v0_) ∧ Kd.R k87 87 w' w.heap.size (fun _ => True) v0_ r ∧ Below w.heap.size w w' := by
  have hu87 := Try.underlying87;have HR0 := Aside0.mk hr0;have HC0 := Aside0.mk hc0;clear hr0 hc0;have HB := Aside0.mk (Below.refl w.heap.size w);unfold ductusref11_Groups.f at h;have H := h;clear h;have H' := Aside0.mk H;clear H
  go_enter Try.func62, Try.ntmps62
  go_wp2
  go_loopg [3, 4] k (fun kq v3 v4 w' => ∃ (x3_1 : List (S87)) (x4_1 : Int), v4 = .int .i64 x4_1 ∧ Aside0 (ductusref11_Groups.l0 kq l0 x3_1 x4_1 = some r) ∧ Aside0 (kq ≤ k) ∧ Aside0 (Kd.R k87 87 w' w.heap.size (fun _ => True) v3 x3_1) ∧ Aside0 (Below w.heap.size w w'))
  case atStart => exact ⟨(([] : List (S87))), (0), uF, H', ⟨Nat.le_refl _⟩, ⟨by first | exact Kd.R_nil _ _ _ _ _ | exact Kd.N_nil _ _ _ _ _ | exact Kd.V_nil _ _ _ _ _ | exact Kd.Q_nil _ _ _ _ _ | exact Kd.S_nil _ _ _ _ _⟩, ⟨uB HB.out⟩⟩
  case round =>
    clear H';obtain ⟨x3_1, x4_1, rfl, HA, HK1, HO_3, HB⟩ := hrel
    cases gk with
    | zero => exact absurd HA.out (by simp [ductusref11_Groups.l0])
    | succ k1 =>
      have H := HA.out;clear HA;simp only [ductusref11_Groups.l0] at H
      by_cases c2 : x4_1 < (l0.length : Int)
      rotate_left
      · rw [if_neg c2] at H
        have c2b0 := decide_eq_false c2;clear c2;obtain rfl := Option.some.inj H;go_wp2;go_ret;exact ⟨_, uE, uR HO_3.out, uB HB.out⟩
      rw [if_pos c2] at H;have c2b0 := decide_eq_true c2;clear c2;replace H := uI H;obtain ⟨c3b0, H⟩ := H;replace H := Option.bind_eq_some_iff.mp H;obtain ⟨t634, A40, H⟩ := H;have A4 := Aside0.mk A40;clear A40
      by_cases c5 : t634 = true
      rotate_left
      · replace c5 := Bool.eq_false_iff.mpr c5
        subst c5
        have H1 : (ductusref11_Groups.l0 k1 l0 x3_1 (wrap64 (x4_1 + 1))) = some r := by rw [if_neg (show ¬ (false = true) by decide)] at H; exact H
        clear H;have H := H1;clear H1;have H' := Aside0.mk H;clear H;have p633 : 0 ≤ (x4_1 : Int) := uD;have q633 : x4_1 < (l0.length : Int) := uD;obtain ⟨ad633, e633, hx633_0⟩ := Kd.at_int HR0.out x4_1 p633 q633;cases e633;replace hx633_0 := (HB.out.cell (World.block_lt_of_cell? w _ hx633_0)).trans hx633_0;replace p633 := eq_true p633;replace q633 := eq_true q633
        go_wp2_with (first | ((with_reducible refine gate_callee (f := 83) rfl ?_); refine gL 15 Try.func83 #[.int .i64 (rd l0 x4_1)] ?_; (with_reducible refine (ductusref02_Neutral.calls (rd l0 x4_1) false _ A4.out).mono ?_); rintro e w' ⟨rfl, ⟨nd, rfl⟩⟩; refine ⟨_, rfl, ?_⟩))
        go_roundg k1
        case measure => have := HK1.out; omega
        case rel => exact ⟨(x3_1), (wrap64 (x4_1 + 1)), uF, H', ⟨by have := HK1.out; omega⟩, ⟨uR HO_3.out⟩, ⟨uB HB.out⟩⟩
      subst c5
      have H1 : (if (x3_1.length : Int) > 0 then (if 0 ≤ (wrap64 ((x3_1.length : Int) - 1)) then (if (wrap64 ((x3_1.length : Int) - 1)) < (x3_1.length : Int) then (if ((rd_T87 x3_1 (wrap64 ((x3_1.length : Int) - 1))).f1) = x4_1 then (ductusref11_Groups.l0 k1 l0 (x3_1.set ((wrap64 ((x3_1.length : Int) - 1)) : Int).toNat (⟨(rd_T87 x3_1 (wrap64 ((x3_1.length : Int) - 1))).f0, wrap64 (x4_1 + 1)⟩ : S87)) (wrap64 (x4_1 + 1))) else (if x3_1.length < 8796093022208 then (ductusref11_Groups.l0 k1 l0 (x3_1 ++ [(⟨x4_1, wrap64 (x4_1 + 1)⟩ : S87)]) (wrap64 (x4_1 + 1))) else (none))) else (none)) else (none)) else (if x3_1.length < 8796093022208 then (ductusref11_Groups.l0 k1 l0 (x3_1 ++ [(⟨x4_1, wrap64 (x4_1 + 1)⟩ : S87)]) (wrap64 (x4_1 + 1))) else (none))) = some r := by rw [if_pos rfl] at H; exact H
      clear H;have H := H1;clear H1
      by_cases c6 : (x3_1.length : Int) > 0
      rotate_left
      · rw [if_neg c6] at H
        have c6b0 : decide (0 < (x3_1.length : Int)) = false := decide_eq_false c6;have c6b1 : decide (0 < x3_1.length) = false := decide_eq_false (by omega);clear c6;replace H := uP H;obtain ⟨c18, H⟩ := H;have LMc18 := Aside0.mk c18;clear c18;obtain ⟨y640, hy640⟩ : ∃ y_ : List (S87), y_ = (x3_1 ++ [(⟨x4_1, wrap64 (x4_1 + 1)⟩ : S87)]) := ⟨_, rfl⟩;replace H : (ductusref11_Groups.l0 k1 l0 y640 (wrap64 (x4_1 + 1))) = some r := uH hy640 H;have Ny640 := Aside0.mk hy640;clear hy640;have H' := Aside0.mk H;clear H;have p633 : 0 ≤ (x4_1 : Int) := uD;have q633 : x4_1 < (l0.length : Int) := uD;obtain ⟨ad633, e633, hx633_0⟩ := Kd.at_int HR0.out x4_1 p633 q633;cases e633;replace hx633_0 := (HB.out.cell (World.block_lt_of_cell? w _ hx633_0)).trans hx633_0;replace p633 := eq_true p633;replace q633 := eq_true q633
        go_wp2_with (first | ((with_reducible refine gate_callee (f := 83) rfl ?_); refine gL 15 Try.func83 #[.int .i64 (rd l0 x4_1)] ?_; (with_reducible refine (ductusref02_Neutral.calls (rd l0 x4_1) true _ A4.out).mono ?_); rintro e w' ⟨rfl, ⟨nd, rfl⟩⟩; refine ⟨_, rfl, ?_⟩; obtain ⟨Ao19, co19, eo19⟩ := Kd.R_slice HO_3.out; subst eo19) | ((with_reducible refine gate_builtin (b := .append) (xs := #[.tmp 39, .tmp 44]) rfl ?_); (try (refine gate_guard (by rfl) ?_; dsimp only)); at_builtin; refine Kd.R_append k87 (w0 := w) w.heap.size rfl (.tmp 39) (.tmp 44) 85 87 (.agg #[(.int .i64 0), (.int .i64 0)]) 16 rfl Try.underlying85 info87 rfl (by decide) (by omega) (.slice Ao19 x3_1.length co19) x3_1 (⟨x4_1, wrap64 (x4_1 + 1)⟩ : S87) [.int .i64 x4_1, .int .i64 (wrap64 (x4_1 + 1))] (fun _ => True) (fun _ => False) rfl rfl ?aP (fun _ hk => hk.elim) ?aF ?aO ?aB ?aS ?aL ?_; (case aP => exact k87_mkM _ _ _ (⟨x4_1, wrap64 (x4_1 + 1)⟩ : S87)); (case aB => exact (uB HB.out)); (case aF => exact (fun _ _ => trivial)); (case aO => exact (uR HO_3.out)); (case aS => exact (below_size (uB HB.out))); (case aL => have := LMc18.out; omega); intro v641 w20 ho hb hg hat; rw [← Ny640.out] at ho; have n_ := z2_ (hb) (ho); clear HB HO_3; obtain ⟨HB, HO642⟩ := n_; clear ho hb hg hat))
        go_roundg k1
        case measure => have := HK1.out; omega
        case rel => exact ⟨(y640), (wrap64 (x4_1 + 1)), uF, H', ⟨by have := HK1.out; omega⟩, ⟨uR HO642.out⟩, ⟨uB HB.out⟩⟩
      rw [if_pos c6] at H;have c6b0 : decide (0 < (x3_1.length : Int)) = true := decide_eq_true c6;have c6b1 : decide (0 < x3_1.length) = true := decide_eq_true (by omega);clear c6;obtain ⟨ji7, hji7⟩ : ∃ j_ : Int, (wrap64 ((x3_1.length : Int) - 1)) = j_ := ⟨_, rfl⟩
      replace H : (if 0 ≤ (ji7) then (if (ji7) < (x3_1.length : Int) then (if ((rd_T87 x3_1 (ji7)).f1) = x4_1 then (ductusref11_Groups.l0 k1 l0 (x3_1.set ((ji7) : Int).toNat (⟨(rd_T87 x3_1 (ji7)).f0, wrap64 (x4_1 + 1)⟩ : S87)) (wrap64 (x4_1 + 1))) else (if x3_1.length < 8796093022208 then (ductusref11_Groups.l0 k1 l0 (x3_1 ++ [(⟨x4_1, wrap64 (x4_1 + 1)⟩ : S87)]) (wrap64 (x4_1 + 1))) else (none))) else (none)) else (none)) = some r := by first | (rw [hji7] at H; exact H) | (simp only [hji7] at H ⊢; exact H)
      (try rw [hji7] at A4);have hji7w : (IntKind.i64.wrap ((x3_1.length : Int) - 1)) = ji7 := (i64_w _).trans hji7;replace H := uI H;obtain ⟨c8b0, H⟩ := H;replace H := uI H;obtain ⟨c9b0, H⟩ := H
      by_cases c10 : ((rd_T87 x3_1 (ji7)).f1) = x4_1
      rotate_left
      · rw [if_neg c10] at H
        have c10b0 := beq_eq_false_iff_ne.mpr c10;have c10b1 := bne_iff_ne.mpr c10;replace H := uP H;obtain ⟨c15, H⟩ := H;have LMc15 := Aside0.mk c15;clear c15;obtain ⟨y637, hy637⟩ : ∃ y_ : List (S87), y_ = (x3_1 ++ [(⟨x4_1, wrap64 (x4_1 + 1)⟩ : S87)]) := ⟨_, rfl⟩;replace H : (ductusref11_Groups.l0 k1 l0 y637 (wrap64 (x4_1 + 1))) = some r := uH hy637 H;have Ny637 := Aside0.mk hy637;clear hy637;have H' := Aside0.mk H;clear H;have p633 : 0 ≤ (x4_1 : Int) := uD;have q633 : x4_1 < (l0.length : Int) := uD;obtain ⟨ad633, e633, hx633_0⟩ := Kd.at_int HR0.out x4_1 p633 q633;cases e633;replace hx633_0 := (HB.out.cell (World.block_lt_of_cell? w _ hx633_0)).trans hx633_0;replace p633 := eq_true p633;replace q633 := eq_true q633
        go_wp2_with (first | ((with_reducible refine gate_callee (f := 83) rfl ?_); refine gL 15 Try.func83 #[.int .i64 (rd l0 x4_1)] ?_; (with_reducible refine (ductusref02_Neutral.calls (rd l0 x4_1) true _ A4.out).mono ?_); rintro e w' ⟨rfl, ⟨nd, rfl⟩⟩; refine ⟨_, rfl, ?_⟩; obtain ⟨Ao16, co16, eo16⟩ := Kd.R_slice HO_3.out; subst eo16; have p635 : 0 ≤ ((ji7) : Int) := uD; have q635 : (ji7) < (x3_1.length : Int) := uD; obtain ⟨ad635, e635, hx635_0, hx635_1⟩ := at_T87 (Kd.R_reads' HO_3.out).2.2 (ji7) p635 q635; cases e635; replace p635 := eq_true p635; replace q635 := eq_true q635) | ((with_reducible refine gate_builtin (b := .append) (xs := #[.tmp 39, .tmp 44]) rfl ?_); (try (refine gate_guard (by rfl) ?_; dsimp only)); at_builtin; refine Kd.R_append k87 (w0 := w) w.heap.size rfl (.tmp 39) (.tmp 44) 85 87 (.agg #[(.int .i64 0), (.int .i64 0)]) 16 rfl Try.underlying85 info87 rfl (by decide) (by omega) (.slice (some ad635) x3_1.length co16) x3_1 (⟨x4_1, wrap64 (x4_1 + 1)⟩ : S87) [.int .i64 x4_1, .int .i64 (wrap64 (x4_1 + 1))] (fun _ => True) (fun _ => False) rfl rfl ?aP (fun _ hk => hk.elim) ?aF ?aO ?aB ?aS ?aL ?_; (case aP => exact k87_mkM _ _ _ (⟨x4_1, wrap64 (x4_1 + 1)⟩ : S87)); (case aB => exact (uB HB.out)); (case aF => exact (fun _ _ => trivial)); (case aO => exact (uR HO_3.out)); (case aS => exact (below_size (uB HB.out))); (case aL => have := LMc15.out; omega); intro v638 w17 ho hb hg hat; rw [← Ny637.out] at ho; have n_ := z2_ (hb) (ho); clear HB HO_3; obtain ⟨HB, HO639⟩ := n_; clear ho hb hg hat))
        go_roundg k1
        case measure => have := HK1.out; omega
        case rel => exact ⟨(y637), (wrap64 (x4_1 + 1)), uF, H', ⟨by have := HK1.out; omega⟩, ⟨uR HO639.out⟩, ⟨uB HB.out⟩⟩
      rw [if_pos c10] at H;have c10b0 := beq_iff_eq.mpr c10;have c10b1 := bne_eq_false_iff_eq.mpr c10;clear c10;obtain ⟨y636, hy636⟩ : ∃ y_ : List (S87), y_ = (x3_1.set ((ji7) : Int).toNat (⟨(rd_T87 x3_1 (ji7)).f0, wrap64 (x4_1 + 1)⟩ : S87)) := ⟨_, rfl⟩;replace H : (ductusref11_Groups.l0 k1 l0 y636 (wrap64 (x4_1 + 1))) = some r := uH hy636 H;have Ny636 := Aside0.mk hy636;clear hy636;have H' := Aside0.mk H;clear H;have p633 : 0 ≤ (x4_1 : Int) := uD;have q633 : x4_1 < (l0.length : Int) := uD;obtain ⟨ad633, e633, hx633_0⟩ := Kd.at_int HR0.out x4_1 p633 q633;cases e633;replace hx633_0 := (HB.out.cell (World.block_lt_of_cell? w _ hx633_0)).trans hx633_0;replace p633 := eq_true p633;replace q633 := eq_true q633
      go_wp2_with (first | ((with_reducible refine gate_callee (f := 83) rfl ?_); refine gL 15 Try.func83 #[.int .i64 (rd l0 x4_1)] ?_; (with_reducible refine (ductusref02_Neutral.calls (rd l0 x4_1) true _ A4.out).mono ?_); rintro e w' ⟨rfl, ⟨nd, rfl⟩⟩; refine ⟨_, rfl, ?_⟩; (try (rw [drewN_self wr]; generalize hq_ : World.drewN wr _ = wr; have n0_ : Aside0 (Kd.R k87 87 wr w.heap.size (fun _ => True) u3 x3_1) := ⟨by rw [← hq_]; exact (uR HO_3.out)⟩; have n1_ : Aside0 (Below w.heap.size w wr) := ⟨by rw [← hq_]; exact (uB HB.out)⟩; clear HO_3 HB hq_; have HO_3 := n0_; have HB := n1_; clear n0_ n1_)); obtain ⟨Ao12, co12, eo12⟩ := Kd.R_slice HO_3.out; subst eo12; have p635 : 0 ≤ ((ji7) : Int) := uD; have q635 : (ji7) < (x3_1.length : Int) := uD; obtain ⟨ad635, e635, hx635_0, hx635_1⟩ := at_T87 (Kd.R_reads' HO_3.out).2.2 (ji7) p635 q635; cases e635; replace p635 := eq_true p635; replace q635 := eq_true q635; have p11 : 0 ≤ ((ji7) : Int) := uD; have q11 : ((ji7) : Int) < ((x3_1.length : Int) : Int) := uD; obtain ⟨go11, co11, eo11, gb11, gl11, cl11, HG11⟩ := Kd.R_form HO_3.out (by omega); (first | cases eo11 | (injection eo11 with ea_ en_ ec_; (first | subst ea_ | (injection ea_ with ea_; subst ea_)); subst ec_; clear en_)); have GB11 := Aside0.mk gb11; have GG11 := Aside0.mk HG11; clear gb11 gl11 HG11; (first | simp only [add_plain] at hx635_0 | skip); (first | simp only [add_plain] at hx635_1 | skip); obtain ⟨ce11, hcl11, hM11, hcc11, hfr11⟩ := Kd.R_elem HO_3.out z87 ((ji7) : Int) p11 q11; obtain rfl := k87_openM hM11; have hx11_0 : wr.cell? ⟨go11, ((ji7) : Int).toNat * 2, none⟩ = some (.int .i64 ((rd_T87 x3_1 (ji7)).f0)) := hcc11 0 _ rfl; have hx11_1 : wr.cell? ⟨go11, ((ji7) : Int).toNat * 2 + 1, none⟩ = some (.int .i64 ((rd_T87 x3_1 (ji7)).f1)) := hcc11 1 _ rfl; have hf11_0 : wr.frozen? ⟨go11, ((ji7) : Int).toNat * 2, none⟩ = false := hfr11 0; have hf11_1 : wr.frozen? ⟨go11, ((ji7) : Int).toNat * 2 + 1, none⟩ = false := hfr11 1; clear hcl11 hcc11 hfr11 hM11; replace p11 := eq_true p11; replace q11 := eq_true q11; have HX13 := Aside0.mk (show Kd.R k87 87 wr w.heap.size (fun _ => True) (.slice (some ⟨go11, 0, none⟩) x3_1.length co12) x3_1 from (uR HO_3.out)); obtain ⟨ce13, hcl13, hM13, hcc13, hfr13⟩ := Kd.R_elem HX13.out z87 ((ji7) : Int) (uD) (by have h_ : ((ji7) : Int) < ((x3_1.length : Int) : Int) := uD; first | exact h_ | (have e_ := (Kd.R_reads' HO_3.out).1; omega) | simpa using h_); obtain rfl := k87_openM hM13; have HP13 := Kd.R_seg HX13.out ((ji7) : Int) (uD) (by have h_ : ((ji7) : Int) < ((x3_1.length : Int) : Int) := uD; first | exact h_ | (have e_ := (Kd.R_reads' HO_3.out).1; omega) | simpa using h_) (seg := [.int .i64 (wrap64 (x4_1 + 1))]) (j := 1) hcl13 hcc13 (show 2 ≤ 2 from by decide) (x' := (⟨(rd_T87 x3_1 (ji7)).f0, wrap64 (x4_1 + 1)⟩ : S87)) (k87_mkM _ _ _ (⟨(rd_T87 x3_1 (ji7)).f0, wrap64 (x4_1 + 1)⟩ : S87) ) (fun _ hk => hk); have hx13_1 := hcc13 1 _ rfl; (try simp only [show (k87).sz = 2 from rfl, Nat.mul_one, Nat.add_zero] at hx13_1); have hf13_1 := hfr13 1; (try simp only [show (k87).sz = 2 from rfl, Nat.mul_one, Nat.add_zero] at hf13_1); clear hcl13 hcc13 hfr13 hM13) | ((with_reducible refine gate_store (t := 3) (p := 38) rfl ?_); refine store_event (t := 3) (p := 38) (v := ?vo_w14) (w1 := (wr.setCell ⟨go11, ((ji7) : Int).toNat * 2 + 1, none⟩ (.int .i64 (wrap64 (x4_1 + 1))))) ?hg ?ho ?hn ?hr ?_; (case ho => rfl); (case hg => rfl); (case hn => rfl); (case hr => exact uN); intro w14 hw; have hg : wr.grownBy w14 (some go11) := (by rw [hw]; exact HP13.2); have hp_ : Kd.R k87 87 w14 w.heap.size (fun _ => True) (.slice (some ⟨go11, 0, none⟩) x3_1.length co12) y636 := (by rw [hw, Ny636.out]; exact HP13.1); clear HP13; have n_ := z2_ (hp_) ((by rw [hw]; exact below_set (HB.out) GB11.out : Below w.heap.size w w14)); clear HO_3 HB; obtain ⟨HO_3, HB⟩ := n_; clear hg hw hp_))
      go_roundg k1
      case measure => have := HK1.out; omega
      case rel => exact ⟨(y636), (wrap64 (x4_1 + 1)), uF, H', ⟨by have := HK1.out; omega⟩, ⟨uR HO_3.out⟩, ⟨uB HB.out⟩⟩
def ductusref11_end.f (a0 : Int) : Option (Int) := if a0 = 1 then (some 1) else (some 0)
theorem ductusref11_end.calls (a0 : Int) (r : Int) (w : World) (h : ductusref11_end.f a0 = some r) :
    Calls Try.prog 63 #[.int .i64 a0] w fun e w' => e = .returned (.int .i64 r) ∧ Drawn0 w w' := by
  unfold ductusref11_end.f at h;have H := h;clear h
  by_cases c2 : a0 = 1
  rotate_left
  · rw [if_neg c2] at H
    have c2b0 := beq_eq_false_iff_ne.mpr c2;have c2b1 := bne_iff_ne.mpr c2;obtain rfl := Option.some.inj H
    go_enter Try.func63, Try.ntmps63
    go_wp2;go_ret;exact ⟨uF, uW⟩
  rw [if_pos c2] at H;have c2b0 := beq_iff_eq.mpr c2;have c2b1 := bne_eq_false_iff_eq.mpr c2;clear c2;obtain rfl := Option.some.inj H
  go_enter Try.func63, Try.ntmps63
  go_wp2;go_ret;exact ⟨uF, uW⟩
def ductusref11_side.f (a0 : Int) (a1 : Int) : Option (Int) := (ductusref10_Side.f a0).bind fun t643 => (if t643 < 0 then ((ductusref08_Dir.f a1).bind fun t644 => (some t644)) else (some t643))
theorem ductusref11_side.calls (a0 : Int) (a1 : Int) (r : Int) (w : World) (h : ductusref11_side.f a0 a1 = some r) :
    Calls Try.prog 64 #[.int .i64 a0, .int .i64 a1] w fun e w' => e = .returned (.int .i64 r) ∧ Drawn0 w w' := by
  unfold ductusref11_side.f at h;have H := h;clear h;replace H := Option.bind_eq_some_iff.mp H;obtain ⟨t643, A30, H⟩ := H;have A3 := Aside0.mk A30;clear A30
  by_cases c4 : t643 < 0
  rotate_left
  · rw [if_neg c4] at H
    have c4b0 := decide_eq_false c4;clear c4;obtain rfl := Option.some.inj H
    go_enter Try.func64, Try.ntmps64
    go_wp2_with (first | ((with_reducible refine gate_callee (f := 60) rfl ?_); refine gL 7 Try.func60 #[.int .i64 a0] ?_; (with_reducible refine (ductusref10_Side.calls a0 t643 _ A3.out).mono ?_); rintro e w' ⟨rfl, ⟨nd, rfl⟩⟩; refine ⟨_, rfl, ?_⟩))
    go_ret;exact ⟨uF, uW⟩
  rw [if_pos c4] at H;have c4b0 := decide_eq_true c4;clear c4;replace H := Option.bind_eq_some_iff.mp H;obtain ⟨t644, A50, H⟩ := H;have A5 := Aside0.mk A50;clear A50;obtain rfl := Option.some.inj H
  go_enter Try.func64, Try.ntmps64
  go_wp2_with (first | ((with_reducible refine gate_callee (f := 60) rfl ?_); refine gL 7 Try.func60 #[.int .i64 a0] ?_; (with_reducible refine (ductusref10_Side.calls a0 t643 _ A3.out).mono ?_); rintro e w' ⟨rfl, ⟨nd, rfl⟩⟩; refine ⟨_, rfl, ?_⟩) | ((with_reducible refine gate_callee (f := 58) rfl ?_); refine gL 11 Try.func58 #[.int .i64 a1] ?_; (with_reducible refine (ductusref08_Dir.calls a1 t644 _ A5.out).mono ?_); rintro e w' ⟨rfl, ⟨nd, rfl⟩⟩; refine ⟨_, rfl, ?_⟩))
  go_ret;exact ⟨uF, uW⟩
mutual
def ductusref11_Of.l0 : Nat → List Int → Int → Int → Int → List Int → List (S87) → Int → Option (List Int)
  | 0, _, _, _, _, _, _, _ => none
  | k + 1, x0, x1, x2, x3, x9, x10, x11 => if x11 < (x10.length : Int) then ((ductusref11_end.f x2).bind fun t654 => ((ductusref11_end.f x3).bind fun t655 => (if 0 ≤ x11 then (if ((rd_T87 x10 x11).f0) > 0 then (if 0 ≤ (wrap64 (((rd_T87 x10 x11).f0) - 1)) then (if (wrap64 (((rd_T87 x10 x11).f0) - 1)) < (x0.length : Int) then ((ductusref11_side.f (rd x0 (wrap64 (((rd_T87 x10 x11).f0) - 1))) x1).bind fun t659 => (ductusref11_Of.j1 k x0 x1 x2 x3 x9 x10 x11 t659 t655)) else (none)) else (none)) else (ductusref11_Of.j1 k x0 x1 x2 x3 x9 x10 x11 t654 t655)) else (none)))) else (some x9)
def ductusref11_Of.j1 : Nat → List Int → Int → Int → Int → List Int → List (S87) → Int → Int → Int → Option (List Int)
  | 0, _, _, _, _, _, _, _, _, _ => none
  | k + 1, x0, x1, x2, x3, x9, x10, x11, x12, x13 => if 0 ≤ x11 then (if x11 < (x10.length : Int) then (if ((rd_T87 x10 x11).f1) < (x0.length : Int) then (if 0 ≤ ((rd_T87 x10 x11).f1) then ((ductusref11_side.f (rd x0 ((rd_T87 x10 x11).f1)) x1).bind fun t663 => (ductusref11_Of.j2 k x0 x1 x2 x3 x9 x10 x11 x12 t663)) else (none)) else (ductusref11_Of.j2 k x0 x1 x2 x3 x9 x10 x11 x12 x13)) else (none)) else (none)
def ductusref11_Of.j2 : Nat → List Int → Int → Int → Int → List Int → List (S87) → Int → Int → Int → Option (List Int)
  | 0, _, _, _, _, _, _, _, _, _ => none
  | k + 1, x0, x1, x2, x3, x9, x10, x11, x12, x13 => (ductusref08_Dir.f x1).bind fun t664 => (if x12 = x13 then (ductusref11_Of.j3 k x0 x1 x2 x3 x9 x10 x11 x12) else (ductusref11_Of.j3 k x0 x1 x2 x3 x9 x10 x11 t664))
def ductusref11_Of.j3 : Nat → List Int → Int → Int → Int → List Int → List (S87) → Int → Int → Option (List Int)
  | 0, _, _, _, _, _, _, _, _ => none
  | k + 1, x0, x1, x2, x3, x9, x10, x11, x14 => if 0 ≤ x11 then (if x11 < (x10.length : Int) then (ductusref11_Of.l1 k x0 x1 x2 x3 x9 x10 x11 x14 ((rd_T87 x10 x11).f0)) else (none)) else (none)
def ductusref11_Of.l1 : Nat → List Int → Int → Int → Int → List Int → List (S87) → Int → Int → Int → Option (List Int)
  | 0, _, _, _, _, _, _, _, _, _ => none
  | k + 1, x0, x1, x2, x3, x9, x10, x11, x14, x15 => if 0 ≤ x11 then (if x11 < (x10.length : Int) then (if x15 < ((rd_T87 x10 x11).f1) then (if 0 ≤ x15 then (if x15 < (x9.length : Int) then (ductusref11_Of.l1 k x0 x1 x2 x3 (x9.set (x15 : Int).toNat x14) x10 x11 x14 (wrap64 (x15 + 1))) else (none)) else (none)) else (ductusref11_Of.l0 k x0 x1 x2 x3 x9 x10 (wrap64 (x11 + 1)))) else (none)) else (none)
end
def ductusref11_Of.f (k : Nat) (l0 : List Int) (a1 : Int) (a2 : Int) (a3 : Int) : Option (List Int) := (some (([] : List Int) : List Int)).bind fun y645 => (if y645.length + l0.length < 17592186044416 then ((ductusref11_Groups.f k l0).bind fun t651 => (ductusref11_Of.l0 k l0 a1 a2 a3 (y645 ++ l0) t651 0)) else (none))
theorem ductusref11_Of.calls (k : Nat) (A0 : Option Addr) (c0 : Nat) (l0 : List Int) (a1 : Int) (a2 : Int) (a3 : Int) (r : List Int) (w : World) (hr0 : Kd.C (Kd.int .i64) w A0 l0.length l0) (hc0 : l0.length ≤ c0) (h : ductusref11_Of.f k l0 a1 a2 a3 = some r) :
    Calls Try.prog 43 #[.slice A0 l0.length c0, .int .i64 a1, .int .i64 a2, .int .i64 a3] w fun e w' => ∃ v0_ : Value, e = .returned (v0_) ∧ Kd.R (Kd.int .i64) 3 w' w.heap.size (fun _ => True) v0_ r ∧ Below w.heap.size w w' := by
  have HR0 := Aside0.mk hr0;have HC0 := Aside0.mk hc0;clear hr0 hc0;have HB := Aside0.mk (Below.refl w.heap.size w);unfold ductusref11_Of.f at h;have H := h;clear h;obtain ⟨y645, hy645⟩ : ∃ y_ : List Int, y_ = (([] : List Int)) := ⟨_, rfl⟩;replace H : (if y645.length + l0.length < 17592186044416 then ((ductusref11_Groups.f k l0).bind fun t651 => (ductusref11_Of.l0 k l0 a1 a2 a3 (y645 ++ l0) t651 0)) else (none)) = some r := uH hy645 H;have Ny645 := Aside0.mk hy645;clear hy645;replace H := uP H;obtain ⟨c5, H⟩ := H;have LMc5 := Aside0.mk c5;clear c5;obtain ⟨y648, hy648⟩ : ∃ y_ : List Int, y_ = (y645 ++ l0) := ⟨_, rfl⟩;replace H : ((ductusref11_Groups.f k l0).bind fun t651 => (ductusref11_Of.l0 k l0 a1 a2 a3 y648 t651 0)) = some r := uH hy648 H;have Ny648 := Aside0.mk hy648;clear hy648;replace H := Option.bind_eq_some_iff.mp H;obtain ⟨t651, A60, H⟩ := H;have A6 := Aside0.mk A60;clear A60;have H' := Aside0.mk H;clear H
  go_enter Try.func43, Try.ntmps43
  go_wp2_with (first | ((with_reducible refine gate_dst (N := 16) rfl ?_); refine Kd.R_lit (Kd.int .i64) _ 3 ?hg (N := 16) ?hd (xs := ([] : List Int)) (inner := []) (ok := fun _ => True) (okp := fun _ => True) ?hr ?hp (fun _ hk => hk) trivial (Below.refl _ _) (Nat.le_refl _) (by simp) ?_; (case hd => rfl); (case hg => rfl); (case hr => exact uN); (case hp => exact (Reps.none _ _)); intro v646 w7 ho8 hb hg_ hnew_; clear hg_ hnew_; (first | rw [← Ny645.out] at ho8 | (simp only [Int.reduceToNat] at ho8; rw [← Ny645.out] at ho8)); have n_ := z2_ (Kd.R_lower ho8 (below_size (uB HB.out))) (below_step (uB HB.out) hb); clear HB; obtain ⟨HO647, HB⟩ := n_; clear hb ho8) | ((with_reducible refine gate_builtin (b := .append) (xs := #[.tmp 16, .tmp 17]) rfl ?_); at_builtin; refine Kd.R_append_rows (Kd.int .i64) (w0 := w) w.heap.size rfl (.tmp 16) (.tmp 17) 22 3 (.int .i64 0) 8 rfl Try.underlying22 info3 rfl (by decide) (by omega) v646 y645 l0 _ _ _ (fun _ => True) (fun _ => False) rfl rfl ?aO ?aR (fun _ _ h => h) (fun _ h => h.elim) ?aF ?aB ?aS ?aL ?_; (case aR => exact uC (Kd.C_below HR0.out HB.out)); (case aB => exact (uB HB.out)); (case aF => exact (fun _ _ => trivial)); (case aO => exact (uR HO647.out)); (case aS => exact (below_size (uB HB.out))); (case aL => have := LMc5.out; omega); intro v649 w9 ho hb hg hat; rw [← Ny648.out] at ho; have n_ := z2_ (hb) (ho); clear HB HO647; obtain ⟨HB, HO650⟩ := n_; clear ho hb hg hat) | ((with_reducible refine gate_callee (f := 62) rfl ?_); refine gL 20 Try.func62 #[.slice A0 l0.length c0] ?_; (with_reducible refine (ductusref11_Groups.calls k _ _ l0 t651 _ ?side1 ?side2 A6.out).mono ?_); (case side1 => exact uC (Kd.C_below HR0.out HB.out)); (case side2 => exact HC0.out); rintro e w10 ⟨v652, rfl, ho0, hb⟩; refine ⟨_, rfl, ?_⟩; have n_ := z3_ (Kd.R_below (uR HO650.out) hb) (Kd.R_lower ho0 (below_size (uB HB.out))) (below_step (uB HB.out) hb); clear HO650 HB; obtain ⟨HO650, HO653, HB⟩ := n_; (try clear hb); (try clear ho0)))
  go_loopg [11] k (fun kq v11 w' => ∃ (x9_1 : List Int) (x11_1 : Int), v11 = .int .i64 x11_1 ∧ Aside0 (ductusref11_Of.l0 kq l0 a1 a2 a3 x9_1 t651 x11_1 = some r) ∧ Aside0 (kq ≤ k) ∧ Aside0 (Kd.R (Kd.int .i64) 3 w' w.heap.size (fun _ => True) v649 x9_1) ∧ Aside0 (Kd.R k87 87 w' w.heap.size (fun _ => True) v652 t651) ∧ Aside0 (Below w.heap.size w w'))
  case atStart => exact ⟨(y648), (0), uF, H', ⟨Nat.le_refl _⟩, ⟨uR HO650.out⟩, ⟨uR HO653.out⟩, ⟨uB HB.out⟩⟩
  case round =>
    clear H';(try clear p2);(try clear c4);(try clear c6);obtain ⟨x9_1, x11_1, rfl, HA, HK1, HO_9, HO_10, HB⟩ := hrel
    cases gk with
    | zero => exact absurd HA.out (by simp [ductusref11_Of.l0])
    | succ k1 =>
      have H := HA.out;clear HA;simp only [ductusref11_Of.l0] at H
      by_cases c11 : x11_1 < (t651.length : Int)
      rotate_left
      · rw [if_neg c11] at H
        have c11b0 := decide_eq_false c11;clear c11;obtain rfl := Option.some.inj H;obtain ⟨Ao41, co41, eo41⟩ := Kd.R_slice HO_10.out;subst eo41;go_wp2;go_ret;exact ⟨_, uE, uR HO_9.out, uB HB.out⟩
      rw [if_pos c11] at H;have c11b0 := decide_eq_true c11;clear c11;replace H := Option.bind_eq_some_iff.mp H;obtain ⟨t654, A120, H⟩ := H;have A12 := Aside0.mk A120;clear A120;replace H := Option.bind_eq_some_iff.mp H;obtain ⟨t655, A130, H⟩ := H;have A13 := Aside0.mk A130;clear A130;replace H := uI H;obtain ⟨c14b0, H⟩ := H;have HC15 := Aside0.mk H;clear H;obtain ⟨Ao16, co16, eo16⟩ := Kd.R_slice HO_10.out;subst eo16
      go_upto_if 36 with (first | ((with_reducible refine gate_callee (f := 63) rfl ?_); refine gL 28 Try.func63 #[.int .i64 a2] ?_; (with_reducible refine (ductusref11_end.calls a2 t654 _ A12.out).mono ?_); rintro e w' ⟨rfl, ⟨nd, rfl⟩⟩; refine ⟨_, rfl, ?_⟩) | ((with_reducible refine gate_callee (f := 63) rfl ?_); refine gL 30 Try.func63 #[.int .i64 a3] ?_; (with_reducible refine (ductusref11_end.calls a3 t655 _ A13.out).mono ?_); rintro e w' ⟨rfl, ⟨nd, rfl⟩⟩; refine ⟨_, rfl, ?_⟩; have p656 : 0 ≤ (x11_1 : Int) := uD; have q656 : x11_1 < (t651.length : Int) := uD; obtain ⟨ad656, e656, hx656_0, hx656_1⟩ := at_T87 (Kd.R_reads' HO_10.out).2.2 x11_1 p656 q656; cases e656; replace p656 := eq_true p656; replace q656 := eq_true q656))
      (try simp only [Act.put, List.setIfInBounds_toArray, List.set_cons_zero, List.set_cons_succ])
      go_cut [12] (fun v12 wc => ∃ (kq : Nat) (x12_14 : Int), v12 = .int .i64 x12_14 ∧ Aside0 (ductusref11_Of.j1 kq l0 a1 a2 a3 x9_1 t651 x11_1 x12_14 t655 = some r) ∧ Aside0 (kq ≤ k1) ∧ Aside0 (Kd.R (Kd.int .i64) 3 wc w.heap.size (fun _ => True) v649 x9_1) ∧ Aside0 (Kd.R k87 87 wc w.heap.size (fun _ => True) (.slice (some ad656) t651.length co16) t651) ∧ Aside0 (Below w.heap.size w wc))
      case first =>
        have H := HC15.out;clear HC15
        by_cases c17 : ((rd_T87 t651 x11_1).f0) > 0
        rotate_left
        · rw [if_neg c17] at H
          have c17b0 : decide (0 < ((rd_T87 t651 x11_1).f0)) = false := decide_eq_false c17;clear c17
          (first | rw [c17b0] | (simp only [i64_w, i32_w]; rw [c17b0]) | skip)
          have H' := Aside0.mk H;clear H;go_wp2;go_meet
          case rel => exact ⟨_, (t654), uF, H', ⟨by have := HK1.out; first | omega | exact Nat.le_refl _⟩, ⟨uR HO_9.out⟩, ⟨uR HO_10.out⟩, ⟨uB HB.out⟩⟩
        rw [if_pos c17] at H;have c17b0 : decide (0 < ((rd_T87 t651 x11_1).f0)) = true := decide_eq_true c17;clear c17
        (first | rw [c17b0] | (simp only [i64_w, i32_w]; rw [c17b0]) | skip)
        obtain ⟨ji18, hji18⟩ : ∃ j_ : Int, (wrap64 (((rd_T87 t651 x11_1).f0) - 1)) = j_ := ⟨_, rfl⟩
        replace H : (if 0 ≤ (ji18) then (if (ji18) < (l0.length : Int) then ((ductusref11_side.f (rd l0 (ji18)) a1).bind fun t659 => (ductusref11_Of.j1 k1 l0 a1 a2 a3 x9_1 t651 x11_1 t659 t655)) else (none)) else (none)) = some r := by first | (rw [hji18] at H; exact H) | (simp only [hji18] at H ⊢; exact H)
        have hji18w : (IntKind.i64.wrap (((rd_T87 t651 x11_1).f0) - 1)) = ji18 := (i64_w _).trans hji18;replace H := uI H;obtain ⟨c19b0, H⟩ := H;replace H := uI H;obtain ⟨c20b0, H⟩ := H;replace H := Option.bind_eq_some_iff.mp H;obtain ⟨t659, A210, H⟩ := H;have A21 := Aside0.mk A210;clear A210;have H' := Aside0.mk H;clear H;have p657 : 0 ≤ (x11_1 : Int) := uD;have q657 : x11_1 < (t651.length : Int) := uD;obtain ⟨ad657, e657, hx657_0, hx657_1⟩ := at_T87 (Kd.R_reads' HO_10.out).2.2 x11_1 p657 q657;obtain rfl : ad656 = ad657 := (by injection e657);replace p657 := eq_true p657;replace q657 := eq_true q657;have p658 : 0 ≤ ((ji18) : Int) := uD;have q658 : (ji18) < (l0.length : Int) := uD;obtain ⟨ad658, e658, hx658_0⟩ := Kd.at_int HR0.out (ji18) p658 q658;cases e658;replace hx658_0 := (HB.out.cell (World.block_lt_of_cell? w _ hx658_0)).trans hx658_0;replace p658 := eq_true p658;replace q658 := eq_true q658
        go_wp2_with (first | ((with_reducible refine gate_callee (f := 64) rfl ?_); refine goesL_ (some 47) rfl rfl Try.func64 (by kernel_rfl) rfl #[.int .i64 (rd l0 (ji18)), .int .i64 a1] rfl (by (try simp only [List.map_toArray, List.map_cons, List.map_nil]); first | done | (simp only [hji18]; rfl) | rfl | (simp only [List.length_drop, List.length_take]; rfl)) ?_; (with_reducible refine (ductusref11_side.calls (rd l0 (ji18)) a1 t659 _ A21.out).mono ?_); rintro e w' ⟨rfl, ⟨nd, rfl⟩⟩; refine ⟨_, rfl, ?_⟩))
        go_meet
        case rel => exact ⟨_, (t659), uF, H', ⟨by have := HK1.out; first | omega | exact Nat.le_refl _⟩, ⟨uR HO_9.out⟩, ⟨uR HO_10.out⟩, ⟨uB HB.out⟩⟩
      case rest =>
        clear HC15;(try clear c1);(try clear c2);(try clear p2);(try clear c4);(try clear c6);(try clear p6);(try clear q6);(try clear hx6);(try clear c11b0);(try clear c14b0);(try clear c17b0);(try clear c19b0);(try clear c20b0);(try clear hx656_0);(try clear hx656_1);(try clear hx657_0);(try clear hx657_1);(try clear hx658_0);(try clear p2);(try clear p656);(try clear p657);(try clear p658);(try clear q656);(try clear q657);(try clear q658);obtain ⟨kq, x12_14, rfl, HA, HJ14, HO_9, HO_10, HB⟩ := hcut
        cases kq with
        | zero => exact absurd HA.out (by simp [ductusref11_Of.j1])
        | succ kj14 =>
          have H := HA.out;clear HA;simp only [ductusref11_Of.j1] at H;replace H := uI H;obtain ⟨c22b0, H⟩ := H;replace H := uI H;obtain ⟨c23b0, H⟩ := H;have HC24 := Aside0.mk H;clear H;have p660 : 0 ≤ (x11_1 : Int) := uD;have q660 : x11_1 < (t651.length : Int) := uD;obtain ⟨ad660, e660, hx660_0, hx660_1⟩ := at_T87 (Kd.R_reads' HO_10.out).2.2 x11_1 p660 q660;obtain rfl : ad656 = ad660 := (by injection e660);replace p660 := eq_true p660;replace q660 := eq_true q660
          go_upto_if 55 with (fail)
          go_cut [13] (fun v13 wc => ∃ (kq : Nat) (x13_23 : Int), v13 = .int .i64 x13_23 ∧ Aside0 (ductusref11_Of.j2 kq l0 a1 a2 a3 x9_1 t651 x11_1 x12_14 x13_23 = some r) ∧ Aside0 (kq ≤ kj14) ∧ Aside0 (Kd.R (Kd.int .i64) 3 wc w.heap.size (fun _ => True) v649 x9_1) ∧ Aside0 (Kd.R k87 87 wc w.heap.size (fun _ => True) (.slice (some ad656) t651.length co16) t651) ∧ Aside0 (Below w.heap.size w wc))
          case first =>
            have H := HC24.out;clear HC24
            by_cases c25 : ((rd_T87 t651 x11_1).f1) < (l0.length : Int)
            rotate_left
            · rw [if_neg c25] at H
              have c25b0 := decide_eq_false c25;clear c25
              (first | rw [c25b0] | (simp only [i64_w, i32_w]; rw [c25b0]) | skip)
              have H' := Aside0.mk H;clear H;go_wp2;go_meet
              case rel => exact ⟨_, (t655), uF, H', ⟨by have := HK1.out; have := HJ14.out; first | omega | exact Nat.le_refl _⟩, ⟨uR HO_9.out⟩, ⟨uR HO_10.out⟩, ⟨uB HB.out⟩⟩
            rw [if_pos c25] at H;have c25b0 := decide_eq_true c25;clear c25
            (first | rw [c25b0] | (simp only [i64_w, i32_w]; rw [c25b0]) | skip)
            replace H := uI H;obtain ⟨c26b0, H⟩ := H;replace H := Option.bind_eq_some_iff.mp H;obtain ⟨t663, A270, H⟩ := H;have A27 := Aside0.mk A270;clear A270;have H' := Aside0.mk H;clear H;have p661 : 0 ≤ (x11_1 : Int) := uD;have q661 : x11_1 < (t651.length : Int) := uD;obtain ⟨ad661, e661, hx661_0, hx661_1⟩ := at_T87 (Kd.R_reads' HO_10.out).2.2 x11_1 p661 q661;obtain rfl : ad656 = ad661 := (by injection e661);replace p661 := eq_true p661;replace q661 := eq_true q661;have p662 : 0 ≤ (((rd_T87 t651 x11_1).f1) : Int) := uD;have q662 : ((rd_T87 t651 x11_1).f1) < (l0.length : Int) := uD;obtain ⟨ad662, e662, hx662_0⟩ := Kd.at_int HR0.out ((rd_T87 t651 x11_1).f1) p662 q662;cases e662;replace hx662_0 := (HB.out.cell (World.block_lt_of_cell? w _ hx662_0)).trans hx662_0;replace p662 := eq_true p662;replace q662 := eq_true q662
            go_wp2_with (first | ((with_reducible refine gate_callee (f := 64) rfl ?_); refine gL 65 Try.func64 #[.int .i64 (rd l0 ((rd_T87 t651 x11_1).f1)), .int .i64 a1] ?_; (with_reducible refine (ductusref11_side.calls (rd l0 ((rd_T87 t651 x11_1).f1)) a1 t663 _ A27.out).mono ?_); rintro e w' ⟨rfl, ⟨nd, rfl⟩⟩; refine ⟨_, rfl, ?_⟩))
            go_meet
            case rel => exact ⟨_, (t663), uF, H', ⟨by have := HK1.out; have := HJ14.out; first | omega | exact Nat.le_refl _⟩, ⟨uR HO_9.out⟩, ⟨uR HO_10.out⟩, ⟨uB HB.out⟩⟩
          case rest =>
            clear HC24;(try clear c1);(try clear c2);(try clear p2);(try clear c4);(try clear c6);(try clear p6);(try clear q6);(try clear hx6);(try clear c11b0);(try clear c14b0);(try clear c17b0);(try clear c19b0);(try clear c20b0);(try clear c22b0);(try clear c23b0);(try clear c25b0);(try clear c26b0);(try clear hx656_0);(try clear hx656_1);(try clear hx657_0);(try clear hx657_1);(try clear hx658_0);(try clear hx660_0);(try clear hx660_1);(try clear hx661_0);(try clear hx661_1);(try clear hx662_0);(try clear p2);(try clear p6);(try clear p656);(try clear p657);(try clear p658);(try clear p660);(try clear p661);(try clear p662);(try clear q6);(try clear q656);(try clear q657);(try clear q658);(try clear q660);(try clear q661);(try clear q662);obtain ⟨kq, x13_23, rfl, HA, HJ23, HO_9, HO_10, HB⟩ := hcut
            cases kq with
            | zero => exact absurd HA.out (by simp [ductusref11_Of.j2])
            | succ kj23 =>
              have H := HA.out;clear HA;simp only [ductusref11_Of.j2] at H;replace H := Option.bind_eq_some_iff.mp H;obtain ⟨t664, A280, H⟩ := H;have A28 := Aside0.mk A280;clear A280;have HC29 := Aside0.mk H;clear H
              go_upto_if 70 with (first | ((with_reducible refine gate_callee (f := 58) rfl ?_); refine gL 67 Try.func58 #[.int .i64 a1] ?_; (with_reducible refine (ductusref08_Dir.calls a1 t664 _ A28.out).mono ?_); rintro e w' ⟨rfl, ⟨nd, rfl⟩⟩; refine ⟨_, rfl, ?_⟩))
              (try simp only [Act.put, List.setIfInBounds_toArray, List.set_cons_zero, List.set_cons_succ])
              go_cut [14] (fun v14 wc => ∃ (kq : Nat) (x14_28 : Int), v14 = .int .i64 x14_28 ∧ Aside0 (ductusref11_Of.j3 kq l0 a1 a2 a3 x9_1 t651 x11_1 x14_28 = some r) ∧ Aside0 (kq ≤ kj23) ∧ Aside0 (Kd.R (Kd.int .i64) 3 wc w.heap.size (fun _ => True) v649 x9_1) ∧ Aside0 (Kd.R k87 87 wc w.heap.size (fun _ => True) (.slice (some ad656) t651.length co16) t651) ∧ Aside0 (Below w.heap.size w wc))
              case first =>
                have H := HC29.out;clear HC29
                by_cases c30 : x12_14 = x13_23
                rotate_left
                · rw [if_neg c30] at H
                  have c30b0 := beq_eq_false_iff_ne.mpr c30;have c30b1 := bne_iff_ne.mpr c30
                  (first | rw [c30b0] | (simp only [i64_w, i32_w]; rw [c30b0]) | skip)
                  have H' := Aside0.mk H;clear H;go_wp2;go_meet
                  case rel => exact ⟨_, (t664), uF, H', ⟨by have := HK1.out; have := HJ14.out; have := HJ23.out; first | omega | exact Nat.le_refl _⟩, ⟨uR HO_9.out⟩, ⟨uR HO_10.out⟩, ⟨uB HB.out⟩⟩
                rw [if_pos c30] at H;have c30b0 := beq_iff_eq.mpr c30;have c30b1 := bne_eq_false_iff_eq.mpr c30;clear c30
                (first | rw [c30b0] | (simp only [i64_w, i32_w]; rw [c30b0]) | skip)
                have H' := Aside0.mk H;clear H;go_wp2;go_meet
                case rel => exact ⟨_, (x12_14), uF, H', ⟨by have := HK1.out; have := HJ14.out; have := HJ23.out; first | omega | exact Nat.le_refl _⟩, ⟨uR HO_9.out⟩, ⟨uR HO_10.out⟩, ⟨uB HB.out⟩⟩
              case rest =>
                clear HC29;(try clear c1);(try clear c2);(try clear p2);(try clear c3);(try clear c4);(try clear c6);(try clear p6);(try clear q6);(try clear hx6);(try clear c11b0);(try clear c14b0);(try clear c17b0);(try clear c19b0);(try clear c20b0);(try clear c22b0);(try clear c23b0);(try clear c25b0);(try clear c26b0);(try clear c30b0);(try clear c30b1);(try clear hx656_0);(try clear hx656_1);(try clear hx657_0);(try clear hx657_1);(try clear hx658_0);(try clear hx660_0);(try clear hx660_1);(try clear hx661_0);(try clear hx661_1);(try clear hx662_0);(try clear p2);(try clear p6);(try clear p656);(try clear p657);(try clear p658);(try clear p660);(try clear p661);(try clear p662);(try clear q6);(try clear q656);(try clear q657);(try clear q658);(try clear q660);(try clear q661);(try clear q662);obtain ⟨kq, x14_28, rfl, HA, HJ28, HO_9, HO_10, HB⟩ := hcut
                cases kq with
                | zero => exact absurd HA.out (by simp [ductusref11_Of.j3])
                | succ kj28 =>
                  have H := HA.out;clear HA;simp only [ductusref11_Of.j3] at H;replace H := uI H;obtain ⟨c31b0, H⟩ := H;replace H := uI H;obtain ⟨c32b0, H⟩ := H;have H' := Aside0.mk H;clear H;have p665 : 0 ≤ (x11_1 : Int) := uD;have q665 : x11_1 < (t651.length : Int) := uD;obtain ⟨ad665, e665, hx665_0, hx665_1⟩ := at_T87 (Kd.R_reads' HO_10.out).2.2 x11_1 p665 q665;obtain rfl : ad656 = ad665 := (by injection e665);replace p665 := eq_true p665;replace q665 := eq_true q665;go_wp2
                  go_loopg [15] kj28 (fun kq v15 w' => ∃ (x9_5 : List Int) (x15_5 : Int), v15 = .int .i64 x15_5 ∧ Aside0 (ductusref11_Of.l1 kq l0 a1 a2 a3 x9_5 t651 x11_1 x14_28 x15_5 = some r) ∧ Aside0 (kq ≤ kj28) ∧ Aside0 (Kd.R (Kd.int .i64) 3 w' w.heap.size (fun _ => True) v649 x9_5) ∧ Aside0 (Kd.R k87 87 w' w.heap.size (fun _ => True) (.slice (some ad656) t651.length co16) t651) ∧ Aside0 (Below w.heap.size w w'))
                  case atStart => exact ⟨(x9_1), ((rd_T87 t651 x11_1).f0), uF, H', ⟨Nat.le_refl _⟩, ⟨uR HO_9.out⟩, ⟨uR HO_10.out⟩, ⟨uB HB.out⟩⟩
                  case round =>
                    clear H';(try clear c1);(try clear c2);(try clear p2);(try clear c3);(try clear c4);(try clear c6);(try clear p6);(try clear q6);(try clear hx6);(try clear c11b0);(try clear c14b0);(try clear c17b0);(try clear c19b0);(try clear c20b0);(try clear c22b0);(try clear c23b0);(try clear c25b0);(try clear c26b0);(try clear c30b0);(try clear c30b1);(try clear c31b0);(try clear c32b0);(try clear hx656_0);(try clear hx656_1);(try clear hx657_0);(try clear hx657_1);(try clear hx658_0);(try clear hx660_0);(try clear hx660_1);(try clear hx661_0);(try clear hx661_1);(try clear hx662_0);(try clear hx665_0);(try clear hx665_1);(try clear p2);(try clear p6);(try clear p656);(try clear p657);(try clear p658);(try clear p660);(try clear p661);(try clear p662);(try clear p665);(try clear q6);(try clear q656);(try clear q657);(try clear q658);(try clear q660);(try clear q661);(try clear q662);(try clear q665);obtain ⟨x9_5, x15_5, rfl, HA, HK5, HO_9, HO_10, HB⟩ := hrel
                    cases gk with
                    | zero => exact absurd HA.out (by simp [ductusref11_Of.l1])
                    | succ k5 =>
                      have H := HA.out;clear HA;simp only [ductusref11_Of.l1] at H;replace H := uI H;obtain ⟨c33b0, H⟩ := H;replace H := uI H;obtain ⟨c34b0, H⟩ := H
                      by_cases c35 : x15_5 < ((rd_T87 t651 x11_1).f1)
                      rotate_left
                      · rw [if_neg c35] at H
                        have c35b0 := decide_eq_false c35;clear c35;have H' := Aside0.mk H;clear H;have p666 : 0 ≤ (x11_1 : Int) := uD;have q666 : x11_1 < (t651.length : Int) := uD;obtain ⟨ad666, e666, hx666_0, hx666_1⟩ := at_T87 (Kd.R_reads' HO_10.out).2.2 x11_1 p666 q666;obtain rfl : ad656 = ad666 := (by injection e666);replace p666 := eq_true p666;replace q666 := eq_true q666;go_wp2;go_roundg k5
                        case measure => have := HK1.out; have := HJ14.out; have := HJ23.out; have := HJ28.out; have := HK5.out; omega
                        case rel => exact ⟨(x9_5), (wrap64 (x11_1 + 1)), uF, H', ⟨by have := HK1.out; have := HJ14.out; have := HJ23.out; have := HJ28.out; have := HK5.out; omega⟩, ⟨uR HO_9.out⟩, ⟨uR HO_10.out⟩, ⟨uB HB.out⟩⟩
                      rw [if_pos c35] at H;have c35b0 := decide_eq_true c35;clear c35;replace H := uI H;obtain ⟨c36b0, H⟩ := H;replace H := uI H;obtain ⟨c37b0, H⟩ := H;obtain ⟨y667, hy667⟩ : ∃ y_ : List Int, y_ = (x9_5.set (x15_5 : Int).toNat x14_28) := ⟨_, rfl⟩;replace H : (ductusref11_Of.l1 k5 l0 a1 a2 a3 y667 t651 x11_1 x14_28 (wrap64 (x15_5 + 1))) = some r := uH hy667 H;have Ny667 := Aside0.mk hy667;clear hy667;have H' := Aside0.mk H;clear H;have p666 : 0 ≤ (x11_1 : Int) := uD;have q666 : x11_1 < (t651.length : Int) := uD;obtain ⟨ad666, e666, hx666_0, hx666_1⟩ := at_T87 (Kd.R_reads' HO_10.out).2.2 x11_1 p666 q666;obtain rfl : ad656 = ad666 := (by injection e666);replace p666 := eq_true p666;replace q666 := eq_true q666;have p38 : 0 ≤ (x15_5 : Int) := uD;have q38 : (x15_5 : Int) < ((x9_5.length : Int) : Int) := uD;obtain ⟨go38, co38, eo38, gb38, gl38, cl38, HG38⟩ := Kd.R_form HO_9.out (by omega)
                      (first | cases eo38 | (injection eo38 with ea_ en_ ec_; (first | subst ea_ | (injection ea_ with ea_; subst ea_)); subst ec_; clear en_))
                      have GB38 := Aside0.mk gb38;have GG38 := Aside0.mk HG38;clear gb38 gl38 HG38;obtain ⟨hx38_0, hf38_0⟩ := Kd.R_celln 0 HO_9.out (x15_5 : Int) p38 q38;replace p38 := eq_true p38;replace q38 := eq_true q38;have HP39 := Kd.R_putg HO_9.out (x15_5 : Int) x14_28
                      go_wp2_with (first | ((with_reducible refine gate_store (t := 3) (p := 89) rfl ?_); refine store_event (t := 3) (p := 89) (v := ?vo_w40) (w1 := (wr.setCell ⟨go38, (x15_5 : Int).toNat, none⟩ (.int .i64 x14_28))) ?hg ?ho ?hn ?hr ?_; (case ho => rfl); (case hg => rfl); (case hn => rfl); (case hr => exact uN); intro w40 hw; have hg : wr.grownBy w40 (some go38) := (by rw [hw]; exact HP39.2); have hp_ : Kd.R (Kd.int .i64) 3 w40 w.heap.size (fun _ => True) (.slice (some ⟨go38, 0, none⟩) x9_5.length co38) y667 := (by rw [hw, Ny667.out]; exact HP39.1); clear HP39; have n_ := z3_ (hp_) (Kd.R_over' (v := (.slice (some ⟨go38, 0, none⟩) x9_5.length co38)) (uR HO_10.out) (Kd.R_typed HO_9.out) (by decide) hg) ((by rw [hw]; exact below_set (HB.out) GB38.out : Below w.heap.size w w40)); clear HO_9 HO_10 HB; obtain ⟨HO_9, HO_10, HB⟩ := n_; clear hg hw hp_))
                      go_roundg k5
                      case measure => have := HK1.out; have := HJ14.out; have := HJ23.out; have := HJ28.out; have := HK5.out; omega
                      case rel => exact ⟨(y667), (wrap64 (x15_5 + 1)), uF, H', ⟨by have := HK1.out; have := HJ14.out; have := HJ23.out; have := HJ28.out; have := HK5.out; omega⟩, ⟨uR HO_9.out⟩, ⟨uR HO_10.out⟩, ⟨uB HB.out⟩⟩
mutual
def ductusref11_Level.j0 : Nat → Int → Int → Bool → Option (Int)
  | 0, _, _, _ => none
  | k + 1, x0, x1, x5 => if (Int.tmod x1 2) = 0 then (ductusref11_Level.j1 k x0 x1 x5 (x0 == 1)) else (ductusref11_Level.j1 k x0 x1 x5 false)
def ductusref11_Level.j1 : Nat → Int → Int → Bool → Bool → Option (Int)
  | 0, _, _, _, _ => none
  | k + 1, x0, x1, x5, x12 => if x12 = true then (some (wrap64 (x1 + 1))) else (if (Int.tmod x1 2) = 0 then (ductusref11_Level.j2 k x0 x1 x5 x5) else (ductusref11_Level.j2 k x0 x1 x5 false))
def ductusref11_Level.j2 : Nat → Int → Int → Bool → Bool → Option (Int)
  | 0, _, _, _, _ => none
  | k + 1, x0, x1, x5, x22 => if x22 = true then (some (wrap64 (x1 + 2))) else (if (Int.tmod x1 2) = 0 then (some x1) else (if x0 = 0 then (some (wrap64 (x1 + 1))) else (if x5 = true then (some (wrap64 (x1 + 1))) else (some x1))))
end
def ductusref11_Level.f (k : Nat) (a0 : Int) (a1 : Int) : Option (Int) := if a0 = 6 then (ductusref11_Level.j0 k a0 a1 true) else (ductusref11_Level.j0 k a0 a1 (a0 == 3))
theorem ductusref11_Level.calls (k : Nat) (a0 : Int) (a1 : Int) (r : Int) (w : World) (h : ductusref11_Level.f k a0 a1 = some r) :
    Calls Try.prog 44 #[.int .i64 a0, .int .i64 a1] w fun e w' => e = .returned (.int .i64 r) ∧ Drawn0 w w' := by
  unfold ductusref11_Level.f at h;have H := h;clear h;have HC3 := Aside0.mk H;clear H
  go_enter Try.func44, Try.ntmps44
  go_upto_region 1 with (fail)
  go_cut [5] (fun v5 wc => ∃ (kq : Nat) (x5_2 : Bool), v5 = .bool x5_2 ∧ Aside0 (ductusref11_Level.j0 kq a0 a1 x5_2 = some r) ∧ Aside0 (kq ≤ k) ∧ Drawn0 w wc)
  case first =>
    have H := HC3.out;clear HC3
    by_cases c4 : a0 = 6
    rotate_left
    · rw [if_neg c4] at H
      have c4b0 := beq_eq_false_iff_ne.mpr c4;have c4b1 := bne_iff_ne.mpr c4
      (first | rw [c4b0] | (simp only [i64_w, i32_w]; rw [c4b0]) | skip)
      have H' := Aside0.mk H;clear H;go_wp2;go_meet
      case rel => exact ⟨_, ((a0 == 3)), uF, H', ⟨by first | omega | exact Nat.le_refl _⟩, uW⟩
    rw [if_pos c4] at H;have c4b0 := beq_iff_eq.mpr c4;have c4b1 := bne_eq_false_iff_eq.mpr c4;clear c4
    (first | rw [c4b0] | (simp only [i64_w, i32_w]; rw [c4b0]) | skip)
    have H' := Aside0.mk H;clear H;go_wp2;go_meet
    case rel => exact ⟨_, (true), uF, H', ⟨by first | omega | exact Nat.le_refl _⟩, uW⟩
  case rest =>
    clear HC3;(try clear p2);(try clear c4b0);(try clear c4b1);obtain ⟨kq, x5_2, rfl, HA, HJ2, ⟨mc2, rfl⟩⟩ := hcut
    cases kq with
    | zero => exact absurd HA.out (by simp [ductusref11_Level.j0])
    | succ kj2 =>
      have H := HA.out;clear HA;simp only [ductusref11_Level.j0] at H;have HC5 := Aside0.mk H;clear H
      go_upto_region 2 with (fail)
      go_cut [12] (fun v12 wc => ∃ (kq : Nat) (x12_4 : Bool), v12 = .bool x12_4 ∧ Aside0 (ductusref11_Level.j1 kq a0 a1 x5_2 x12_4 = some r) ∧ Aside0 (kq ≤ kj2) ∧ Drawn0 w wc)
      case first =>
        have H := HC5.out;clear HC5
        by_cases c6 : (Int.tmod a1 2) = 0
        rotate_left
        · rw [if_neg c6] at H
          have c6b0 := beq_eq_false_iff_ne.mpr c6;have c6b1 := bne_iff_ne.mpr c6
          (first | rw [c6b0] | (simp only [i64_w, i32_w]; rw [c6b0]) | skip)
          have H' := Aside0.mk H;clear H;go_wp2;go_meet
          case rel => exact ⟨_, (false), uF, H', ⟨by have := HJ2.out; first | omega | exact Nat.le_refl _⟩, uW⟩
        rw [if_pos c6] at H;have c6b0 := beq_iff_eq.mpr c6;have c6b1 := bne_eq_false_iff_eq.mpr c6;clear c6
        (first | rw [c6b0] | (simp only [i64_w, i32_w]; rw [c6b0]) | skip)
        have H' := Aside0.mk H;clear H;go_wp2;go_meet
        case rel => exact ⟨_, ((a0 == 1)), uF, H', ⟨by have := HJ2.out; first | omega | exact Nat.le_refl _⟩, uW⟩
      case rest =>
        clear HC5;(try clear c2);(try clear p2);(try clear c4b0);(try clear c4b1);(try clear c6b0);(try clear c6b1);(try clear p2);obtain ⟨kq, x12_4, rfl, HA, HJ4, ⟨mc4, rfl⟩⟩ := hcut
        cases kq with
        | zero => exact absurd HA.out (by simp [ductusref11_Level.j1])
        | succ kj4 =>
          have H := HA.out;clear HA;simp only [ductusref11_Level.j1] at H
          by_cases c7 : x12_4 = true
          · subst c7
            have H1 : (some (wrap64 (a1 + 1))) = some r := by rw [if_pos rfl] at H; exact H
            clear H;have H := H1;clear H1;obtain rfl := Option.some.inj H;go_wp2;go_ret;exact ⟨uF, uW⟩
          replace c7 := Bool.eq_false_iff.mpr c7;subst c7
          have H1 : (if (Int.tmod a1 2) = 0 then (ductusref11_Level.j2 kj4 a0 a1 x5_2 x5_2) else (ductusref11_Level.j2 kj4 a0 a1 x5_2 false)) = some r := by rw [if_neg (show ¬ (false = true) by decide)] at H; exact H
          clear H;have H := H1;clear H1;have HC8 := Aside0.mk H;clear H
          go_upto_region 4 with (fail)
          go_cut [22] (fun v22 wc => ∃ (kq : Nat) (x22_7 : Bool), v22 = .bool x22_7 ∧ Aside0 (ductusref11_Level.j2 kq a0 a1 x5_2 x22_7 = some r) ∧ Aside0 (kq ≤ kj4) ∧ Drawn0 w wc)
          case first =>
            have H := HC8.out;clear HC8
            by_cases c9 : (Int.tmod a1 2) = 0
            rotate_left
            · rw [if_neg c9] at H
              have c9b0 := beq_eq_false_iff_ne.mpr c9;have c9b1 := bne_iff_ne.mpr c9
              (first | rw [c9b0] | (simp only [i64_w, i32_w]; rw [c9b0]) | skip)
              have H' := Aside0.mk H;clear H;go_wp2;go_meet
              case rel => exact ⟨_, (false), uF, H', ⟨by have := HJ2.out; have := HJ4.out; first | omega | exact Nat.le_refl _⟩, uW⟩
            rw [if_pos c9] at H;have c9b0 := beq_iff_eq.mpr c9;have c9b1 := bne_eq_false_iff_eq.mpr c9;clear c9
            (first | rw [c9b0] | (simp only [i64_w, i32_w]; rw [c9b0]) | skip)
            have H' := Aside0.mk H;clear H;go_wp2;go_meet
            case rel => exact ⟨_, (x5_2), uF, H', ⟨by have := HJ2.out; have := HJ4.out; first | omega | exact Nat.le_refl _⟩, uW⟩
          case rest =>
            clear HC8;(try clear c2);(try clear p2);(try clear c4b0);(try clear c4b1);(try clear c6b0);(try clear c6b1);(try clear p6);(try clear c7);(try clear c9b0);(try clear c9b1);(try clear p2);obtain ⟨kq, x22_7, rfl, HA, HJ7, ⟨mc7, rfl⟩⟩ := hcut
            cases kq with
            | zero => exact absurd HA.out (by simp [ductusref11_Level.j2])
            | succ kj7 =>
              have H := HA.out;clear HA;simp only [ductusref11_Level.j2] at H
              by_cases c10 : x22_7 = true
              · subst c10
                have H1 : (some (wrap64 (a1 + 2))) = some r := by rw [if_pos rfl] at H; exact H
                clear H;have H := H1;clear H1;obtain rfl := Option.some.inj H;go_wp2;go_ret;exact ⟨uF, uW⟩
              replace c10 := Bool.eq_false_iff.mpr c10;subst c10
              have H1 : (if (Int.tmod a1 2) = 0 then (some a1) else (if a0 = 0 then (some (wrap64 (a1 + 1))) else (if x5_2 = true then (some (wrap64 (a1 + 1))) else (some a1)))) = some r := by rw [if_neg (show ¬ (false = true) by decide)] at H; exact H
              clear H;have H := H1;clear H1
              by_cases c11 : (Int.tmod a1 2) = 0
              · rw [if_pos c11] at H
                have c11b0 := beq_iff_eq.mpr c11;have c11b1 := bne_eq_false_iff_eq.mpr c11;clear c11;obtain rfl := Option.some.inj H;go_wp2;go_ret;exact ⟨uF, uW⟩
              rw [if_neg c11] at H;have c11b0 := beq_eq_false_iff_ne.mpr c11;have c11b1 := bne_iff_ne.mpr c11
              by_cases c12 : a0 = 0
              · rw [if_pos c12] at H
                have c12b0 := beq_iff_eq.mpr c12;have c12b1 := bne_eq_false_iff_eq.mpr c12;clear c12;obtain rfl := Option.some.inj H;go_wp2;go_ret;exact ⟨uF, uW⟩
              rw [if_neg c12] at H;have c12b0 := beq_eq_false_iff_ne.mpr c12;have c12b1 := bne_iff_ne.mpr c12
              by_cases c13 : x5_2 = true
              · subst c13
                have H1 : (some (wrap64 (a1 + 1))) = some r := by rw [if_pos rfl] at H; exact H
                clear H;have H := H1;clear H1;obtain rfl := Option.some.inj H;go_wp2;go_ret;exact ⟨uF, uW⟩
              replace c13 := Bool.eq_false_iff.mpr c13;subst c13
              have H1 : (some a1) = some r := by rw [if_neg (show ¬ (false = true) by decide)] at H; exact H
              clear H;have H := H1;clear H1;obtain rfl := Option.some.inj H;go_wp2;go_ret;exact ⟨uF, uW⟩
end Go.Proofs.Ytmjipbmpapcboaa.P
namespace Go.Proofs.Ytmjipbmpapcboaa.P
open Go.RowKit Go.Proofs.YtmjipbmpapcboaaW.PrintWords Go.Proofs.YtmjipbmpapcboaaW.PrintLast Go.Proofs.YtmjipbmpapcboaaW.PrintMore
set_option linter.unusedVariables false
set_option linter.unusedSimpArgs false
abbrev Ent := S96
structure WSt where
  base : Int
  stack : List Ent
  isol : Int
  emb : Int
  val : Int
  most : Int
  lv : List Int
  cl : List Int
structure WS (w0 W : World) (g : Nat) (A : Option Addr) (n c : Nat) (s : WSt) (vs vl vc : Value) : Prop where
  below : Below w0.heap.size w0 W
  lo : w0.heap.size ≤ g
  blk : W.heap[g]? = some (.cells #[.int .i64 s.base, vs, .int .i64 s.isol, .int .i64 s.emb, .int .i64 s.val, .int .i64 s.most, vl, vc, .slice A n c] 78 (0, 0))
  st : Kd.R k96 96 W w0.heap.size (fun _ => True) vs s.stack
  lv : Kd.R (Kd.int .i64) 3 W w0.heap.size (fun k => some k ≠ vc.ownBlock) vl s.lv
  cl : Kd.R (Kd.int .i64) 3 W w0.heap.size (fun k => some k ≠ vl.ownBlock) vc s.cl
theorem WS.more {w0 W W2 : World} {g : Nat} {A : Option Addr} {n c : Nat} {s : WSt} {vs vl vc : Value} (h : WS w0 W g A n c s vs vl vc) (hb : Below W.heap.size W W2) : WS w0 W2 g A n c s vs vl vc :=
  ⟨below_step h.below hb, h.lo, blk_below h.blk hb, Kd.R_below h.st hb, Kd.R_below h.lv hb, Kd.R_below h.cl hb⟩
theorem WS.cell {w0 W : World} {g : Nat} {A : Option Addr} {n c : Nat} {s : WSt} {vs vl vc : Value} (h : WS w0 W g A n c s vs vl vc) (m : Nat) (hm : m < s.stack.length) :
    ∃ b cap, vs = .slice (some ⟨b, 0, none⟩) s.stack.length cap ∧ W.cell? ⟨b, m * 3, none⟩ = some (.int .i64 (s.stack.getD m z96).f0) ∧ W.cell? ⟨b, m * 3 + 1, none⟩ = some (.int .i64 (s.stack.getD m z96).f1) ∧ W.cell? ⟨b, m * 3 + 2, none⟩ = some (.bool (s.stack.getD m z96).f2) := by
  obtain ⟨b, cap, e, _⟩ := Kd.R_form h.st (by omega);have hr := h.st;rw [e] at hr;obtain ⟨_, _, hC⟩ := Kd.R_reads' hr;obtain ⟨ad, ea, hc⟩ := hC.2.2 (by omega);cases ea;obtain ⟨cs, hl, hk, hcell⟩ := hc m (s.stack.getD m z96) (by rw [List.getD_eq_getElem?_getD, List.getElem?_eq_getElem hm]; rfl);have := k96_open hk;subst this;refine ⟨b, cap, e, ?_, ?_, ?_⟩
  · have := hcell 0 _ rfl
    rw [add_plain, show (k96).sz = 3 from rfl] at this;simpa using this
  · have := hcell 1 _ rfl
    rw [add_plain, show (k96).sz = 3 from rfl] at this;simpa using this
  · have := hcell 2 _ rfl
    rw [add_plain, show (k96).sz = 3 from rfl] at this;simpa using this
theorem WS.put {w0 W : World} {g : Nat} {A : Option Addr} {n c : Nat} {s s' : WSt} {vs vl vc vs' vl' vc' : Value} (h : WS w0 W g A n c s vs vl vc) (j : Nat) (u : Value)
    (hc : (#[.int .i64 s.base, vs, .int .i64 s.isol, .int .i64 s.emb, .int .i64 s.val, .int .i64 s.most, vl, vc, .slice A n c] : Array Value).setIfInBounds j u = #[.int .i64 s'.base, vs', .int .i64 s'.isol, .int .i64 s'.emb, .int .i64 s'.val, .int .i64 s'.most, vl', vc', .slice A n c])
    (hs : Kd.R k96 96 W w0.heap.size (fun _ => True) vs' s'.stack) (hl : Kd.R (Kd.int .i64) 3 W w0.heap.size (fun k => some k ≠ vc'.ownBlock) vl' s'.lv) (hcl : Kd.R (Kd.int .i64) 3 W w0.heap.size (fun k => some k ≠ vl'.ownBlock) vc' s'.cl) :
    WS w0 (W.setCell ⟨g, j, none⟩ u) g A n c s' vs' vl' vc' :=
  ⟨below_set h.below h.lo, h.lo, blk_put h.blk j u hc, Kd.R_set hs h.blk (by decide) j u, Kd.R_set hl h.blk (by decide) j u, Kd.R_set hcl h.blk (by decide) j u⟩
theorem WS.frozen {w0 W : World} {g : Nat} {A : Option Addr} {n c : Nat} {s : WSt} {vs vl vc : Value} (h : WS w0 W g A n c s vs vl vc) (j : Nat) : W.frozen? ⟨g, j, none⟩ = false := blk_frozen h.blk j
theorem top_calls (w0 w : World) (g : Nat) (A : Option Addr) (n c : Nat) (s : WSt) (vs vl vc : Value) (h : WS w0 w g A n c s vs vl vc) (m : Nat) (hm : s.stack.length = m + 1) (hm2 : m < 100000) :
    Calls Try.prog 72 #[.pointer (some ⟨g, 0, none⟩)] w fun e w' => e = .returned (.agg #[.int .i64 (s.stack.getD m z96).f0, .int .i64 (s.stack.getD m z96).f1, .bool (s.stack.getD m z96).f2]) ∧ Below w.heap.size w w' := by
  have hu := Try.underlying96;have hu2 := Try.underlying78;have hu3 := Try.underlying76;have HS := Aside0.mk h;clear h;have HB := Aside0.mk (Below.refl w.heap.size w);have HM := Aside0.mk (And.intro hm hm2)
  have hw : wrap64 ((m : Int) + 1 - 1) = (m : Int) := by unfold wrap64; omega
  have hwm : wrap64 (m : Int) = (m : Int) := by unfold wrap64; omega
  have hw' : (s.stack.length : Int) = (m : Int) + 1 := by omega
  have g1 : ((0 : Int) ≤ (m : Int)) = True := eq_true (by omega);have g2 : ((m : Int) < (m : Int) + 1) = True := eq_true (by omega);have g3 : ((m : Int) < (s.stack.length : Int)) = True := eq_true (by omega);obtain ⟨b, cap, e, _⟩ := HS.out.cell m (by omega);subst e;clear hm hm2
  go_enter Try.func72, Try.ntmps72
  go_upto_region 1 with ((with_reducible refine gate_dst (N := 2) rfl ?_); (try (refine gate_guard (by rfl) ?_; dsimp only)); refine box_event ?hg (N := 2) ?hd (cs := #[.int .i64 0, .int .i64 0, .bool false]) (t := 96) ?hr ?_; (case hd => rfl); (case hg => rfl); (case hr => exact uN); intro gr hg w1 hbox hb; have HGR := Aside0.mk (by rw [hg]; exact Nat.le_refl _ : w.heap.size ≤ gr); have HS1 := Aside0.mk (HS.out.more hb); have HB1 := Aside0.mk hb; have HR := Aside0.mk hbox; clear hb hbox hg)
  have HBD := Aside0.mk (show WS w0 w1.drew g A n c s (.slice (some ⟨b, 0, none⟩) s.stack.length cap) vl vc ∧ w1.drew.heap[gr]? = some (.cells #[.int .i64 0, .int .i64 0, .bool false] 96 (0, 0)) ∧ Below w.heap.size w w1.drew from ⟨HS1.out.more (below_drew1 (Below.refl _ _)), blk_below HR.out (below_drew1 (Below.refl _ _)), below_step HB1.out (below_drew1 (Below.refl _ _))⟩);refine start_ (n := 13) (S := fun w' => WS w0 w' g A n c s (.slice (some ⟨b, 0, none⟩) s.stack.length cap) vl vc ∧ w'.heap[gr]? = some (.cells #[.int .i64 0, .int .i64 0, .bool false] 96 (0, 0)) ∧ Below w.heap.size w w') (ds := [12]) #[false, false, false, false, false, false, false, false, false, false, false, false, false] (by kernel_rfl) rfl rfl HBD.out (fun hHeld => ?_);generalize w1.drew = k0 at hHeld ⊢;clear HBD HS1 HB1 HR;refine pure_ (i := 0) (N := some 3) (v := ?_) (a' := ?_) #[true, false, false, false, false, false, false, false, false, false, false, false, false] rfl rfl (by kernel_rfl) (fun _ _ _ h => h) (Or.inl ⟨by rfl, ?_⟩) ?_ ?_;rotate_left
  · intro w'
    go_simp
    with_reducible rfl
  rotate_left
  · simp only [Act.put, List.setIfInBounds_toArray, List.set_cons_zero, List.set_cons_succ, i64_w, i32_w, hw, hwm, hw']
    rfl
  refine pure_ (i := 1) (N := some 4) (v := ?_) (a' := ?_) #[true, true, false, false, false, false, false, false, false, false, false, false, false] rfl rfl (by kernel_rfl) (fun _ _ _ h => h) (Or.inl ⟨by rfl, ?_⟩) ?_ ?_;rotate_left
  · intro w'
    go_simp
    with_reducible rfl
  rotate_left
  · simp only [Act.put, List.setIfInBounds_toArray, List.set_cons_zero, List.set_cons_succ, i64_w, i32_w, hw, hwm, hw']
    rfl
  refine pure_ (i := 2) (N := some 5) (v := ?_) (a' := ?_) #[true, true, true, false, false, false, false, false, false, false, false, false, false] rfl rfl (by kernel_rfl) (fun _ _ _ h => h) (Or.inl ⟨by rfl, ?_⟩) ?_ ?_;rotate_left
  · intro w'
    go_simp
    with_reducible rfl
  rotate_left
  · simp only [Act.put, List.setIfInBounds_toArray, List.set_cons_zero, List.set_cons_succ, i64_w, i32_w, hw, hwm, hw']
    rfl
  refine take_ (i := 3) (N := some 6) (v := ?_) (a' := ?_) #[true, true, true, true, false, false, false, false, false, false, false, false, false] rfl rfl (by kernel_rfl) (fun _ _ _ h => h) (Or.inl ⟨by rfl, ?_⟩) hHeld ?_ ?_;rotate_left
  · rintro w' ⟨hS, hR, hB⟩
    have a1 := blk_cell hS.blk 1;go_simp
    with_reducible rfl
  rotate_left
  · simp only [Act.put, List.setIfInBounds_toArray, List.set_cons_zero, List.set_cons_succ, i64_w, i32_w, hw, hwm, hw']
    rfl
  refine pure_ (i := 4) (N := some 7) (v := ?_) (a' := ?_) #[true, true, true, true, true, false, false, false, false, false, false, false, false] rfl rfl (by kernel_rfl) (fun _ _ _ h => h) (Or.inl ⟨by rfl, ?_⟩) ?_ ?_;rotate_left
  · intro w'
    go_simp
    with_reducible rfl
  rotate_left
  · simp only [Act.put, List.setIfInBounds_toArray, List.set_cons_zero, List.set_cons_succ, i64_w, i32_w, hw, hwm, hw']
    rfl
  refine pure_ (i := 5) (N := some 8) (v := ?_) (a' := ?_) #[true, true, true, true, true, true, false, false, false, false, false, false, false] rfl rfl (by kernel_rfl) (fun _ _ _ h => h) (Or.inl ⟨by rfl, ?_⟩) ?_ ?_;rotate_left
  · intro w'
    go_simp
    with_reducible rfl
  rotate_left
  · simp only [Act.put, List.setIfInBounds_toArray, List.set_cons_zero, List.set_cons_succ, i64_w, i32_w, hw, hwm, hw']
    rfl
  refine pure_ (i := 6) (N := some 9) (v := ?_) (a' := ?_) #[true, true, true, true, true, true, true, false, false, false, false, false, false] rfl rfl (by kernel_rfl) (fun _ _ _ h => h) (Or.inl ⟨by rfl, ?_⟩) ?_ ?_;rotate_left
  · intro w'
    go_simp
    with_reducible rfl
  rotate_left
  · simp only [Act.put, List.setIfInBounds_toArray, List.set_cons_zero, List.set_cons_succ, i64_w, i32_w, hw, hwm, hw']
    rfl
  refine take_ (i := 7) (N := some 10) (v := ?_) (a' := ?_) #[true, true, true, true, true, true, true, true, false, false, false, false, false] rfl rfl (by kernel_rfl) (fun _ _ _ h => h) (Or.inl ⟨by rfl, ?_⟩) hHeld ?_ ?_;rotate_left
  · rintro w' ⟨hS, hR, hB⟩
    have a1 := blk_cell hS.blk 1;go_simp
    with_reducible rfl
  rotate_left
  · simp only [Act.put, List.setIfInBounds_toArray, List.set_cons_zero, List.set_cons_succ, i64_w, i32_w, hw, hwm, hw']
    rfl
  refine pure_ (i := 8) (N := some 11) (v := ?_) (a' := ?_) #[true, true, true, true, true, true, true, true, true, false, false, false, false] rfl rfl (by kernel_rfl) (fun _ _ _ h => h) (Or.inl ⟨by rfl, ?_⟩) ?_ ?_;rotate_left
  · intro w'
    go_simp
    with_reducible rfl
  rotate_left
  · simp only [Act.put, List.setIfInBounds_toArray, List.set_cons_zero, List.set_cons_succ, i64_w, i32_w, hw, hwm, hw']
    rfl
  refine pure_ (i := 9) (N := some 12) (v := ?_) (a' := ?_) #[true, true, true, true, true, true, true, true, true, true, false, false, false] rfl rfl (by kernel_rfl) (fun _ _ _ h => h) (Or.inl ⟨by rfl, ?_⟩) ?_ ?_;rotate_left
  · intro w'
    go_simp
    with_reducible rfl
  rotate_left
  · simp only [Act.put, List.setIfInBounds_toArray, List.set_cons_zero, List.set_cons_succ, i64_w, i32_w, hw, hwm, hw']
    rfl
  refine pure_ (i := 10) (N := some 13) (v := ?_) (a' := ?_) #[true, true, true, true, true, true, true, true, true, true, true, false, false] rfl rfl (by kernel_rfl) (fun _ _ _ h => h) (Or.inl ⟨by rfl, ?_⟩) ?_ ?_;rotate_left
  · intro w'
    go_simp
    with_reducible rfl
  rotate_left
  · simp only [Act.put, List.setIfInBounds_toArray, List.set_cons_zero, List.set_cons_succ, i64_w, i32_w, hw, hwm, hw']
    rfl
  refine take_ (i := 11) (N := some 14) (v := ?_) (a' := ?_) #[true, true, true, true, true, true, true, true, true, true, true, true, false] rfl rfl (by kernel_rfl) (fun _ _ _ h => h) (Or.inl ⟨by rfl, ?_⟩) hHeld ?_ ?_;rotate_left
  · rintro w' ⟨hS, hR, hB⟩
    obtain ⟨b', cap', e', q0, q1, q2⟩ := hS.cell m (by have := HM.out; omega);cases e';go_simp
    with_reducible rfl
  rotate_left
  · simp only [Act.put, List.setIfInBounds_toArray, List.set_cons_zero, List.set_cons_succ, i64_w, i32_w, hw, hwm, hw']
    rfl
  have f0 := blk_cell hHeld.2.1 0;have f1 := blk_cell hHeld.2.1 1;have f2 := blk_cell hHeld.2.1 2;have e0 := blk_frozen hHeld.2.1 0;have e1 := blk_frozen hHeld.2.1 1;have e2 := blk_frozen hHeld.2.1 2;refine last_ (i := 12) (N := none) #[true, true, true, true, true, true, true, true, true, true, true, true, true] rfl rfl (by kernel_rfl) (by decide) (fun K hK => ?_);refine skip_ (w1 := ?_) (by rfl) rfl ?_ ?_;rotate_left
  · go_simp
    rfl
  refine hK.out _ _ ?_;clear hK K;refine done_ (by kernel_rfl) ?_;go_wp2;refine bodyPost_ret (results_cell_row rfl _ _ gr 96 #[.int .i64 (s.stack.getD m z96).f0, .int .i64 (s.stack.getD m z96).f1, .bool (s.stack.getD m z96).f2] (0, 0) _ rfl (blk_put (blk_put (blk_put hHeld.2.1 0 _ rfl) 1 _ rfl) 2 _ rfl) Try.underlying96 rfl (by kernel_rfl)) rfl ?_;exact ⟨rfl, below_set (below_set (below_set hHeld.2.2 HGR.out) HGR.out) HGR.out⟩
theorem pop_calls (w0 w : World) (g : Nat) (A : Option Addr) (n c : Nat) (s : WSt) (vs vl vc : Value) (h : WS w0 w g A n c s vs vl vc) (m : Nat) (hm : s.stack.length = m + 1) (hm2 : m < 100000) :
    Calls Try.prog 88 #[.pointer (some ⟨g, 0, none⟩)] w fun e w' => ∃ vs', e = .returned (.tuple #[]) ∧ WS w0 w' g A n c {s with stack := s.stack.take m} vs' vl vc := by
  have hu := Try.underlying96;have hu2 := Try.underlying78;have hu3 := Try.underlying76;have HS := Aside0.mk h;clear h;have HM := Aside0.mk (And.intro hm hm2)
  have hw : wrap64 ((m : Int) + 1 - 1) = (m : Int) := by unfold wrap64; omega
  have hwm : wrap64 (m : Int) = (m : Int) := by unfold wrap64; omega
  have hw' : (s.stack.length : Int) = (m : Int) + 1 := by omega
  obtain ⟨b, cap, e, _⟩ := HS.out.cell m (by omega);subst e;have hcap := (Kd.R_reads' HS.out.st).2.1;have g1 : ((0 : Int) ≤ (m : Int)) = True := eq_true (by omega);have g2 : ((m : Int) ≤ (cap : Int)) = True := eq_true (by omega);have g3 : (m ≤ cap) = True := eq_true (by omega);clear hm hm2 hcap
  go_enter Try.func88, Try.ntmps88
  have HBD := Aside0.mk (HS.out.more (below_drew1 (Below.refl _ _)));refine start_ (n := 15) (S := fun w' => WS w0 w' g A n c s (.slice (some ⟨b, 0, none⟩) s.stack.length cap) vl vc) (ds := [14]) #[false, false, false, false, false, false, false, false, false, false, false, false, false, false, false] (by kernel_rfl) rfl rfl HBD.out (fun hHeld => ?_);generalize w.drew = k0 at hHeld ⊢;clear HBD HS;refine pure_ (i := 0) (N := some 2) (v := ?_) (a' := ?_) #[true, false, false, false, false, false, false, false, false, false, false, false, false, false, false] rfl rfl (by kernel_rfl) (fun _ _ _ h => h) (Or.inl ⟨by rfl, ?_⟩) ?_ ?_;rotate_left
  · intro w'
    go_simp
    with_reducible rfl
  rotate_left
  · simp only [Act.put, List.setIfInBounds_toArray, List.set_cons_zero, List.set_cons_succ, i64_w, i32_w, hw, hwm, hw']
    rfl
  refine pure_ (i := 1) (N := some 3) (v := ?_) (a' := ?_) #[true, true, false, false, false, false, false, false, false, false, false, false, false, false, false] rfl rfl (by kernel_rfl) (fun _ _ _ h => h) (Or.inl ⟨by rfl, ?_⟩) ?_ ?_;rotate_left
  · intro w'
    go_simp
    with_reducible rfl
  rotate_left
  · simp only [Act.put, List.setIfInBounds_toArray, List.set_cons_zero, List.set_cons_succ, i64_w, i32_w, hw, hwm, hw']
    rfl
  refine pure_ (i := 2) (N := some 4) (v := ?_) (a' := ?_) #[true, true, true, false, false, false, false, false, false, false, false, false, false, false, false] rfl rfl (by kernel_rfl) (fun _ _ _ h => h) (Or.inl ⟨by rfl, ?_⟩) ?_ ?_;rotate_left
  · intro w'
    go_simp
    with_reducible rfl
  rotate_left
  · simp only [Act.put, List.setIfInBounds_toArray, List.set_cons_zero, List.set_cons_succ, i64_w, i32_w, hw, hwm, hw']
    rfl
  refine pure_ (i := 3) (N := some 5) (v := ?_) (a' := ?_) #[true, true, true, true, false, false, false, false, false, false, false, false, false, false, false] rfl rfl (by kernel_rfl) (fun _ _ _ h => h) (Or.inl ⟨by rfl, ?_⟩) ?_ ?_;rotate_left
  · intro w'
    go_simp
    with_reducible rfl
  rotate_left
  · simp only [Act.put, List.setIfInBounds_toArray, List.set_cons_zero, List.set_cons_succ, i64_w, i32_w, hw, hwm, hw']
    rfl
  refine take_ (i := 4) (N := some 6) (v := ?_) (a' := ?_) #[true, true, true, true, true, false, false, false, false, false, false, false, false, false, false] rfl rfl (by kernel_rfl) (fun _ _ _ h => h) (Or.inl ⟨by rfl, ?_⟩) hHeld ?_ ?_;rotate_left
  · rintro w' hS
    have a1 := blk_cell hS.blk 1;go_simp
    with_reducible rfl
  rotate_left
  · simp only [Act.put, List.setIfInBounds_toArray, List.set_cons_zero, List.set_cons_succ, i64_w, i32_w, hw, hwm, hw']
    rfl
  refine pure_ (i := 5) (N := some 7) (v := ?_) (a' := ?_) #[true, true, true, true, true, true, false, false, false, false, false, false, false, false, false] rfl rfl (by kernel_rfl) (fun _ _ _ h => h) (Or.inl ⟨by rfl, ?_⟩) ?_ ?_;rotate_left
  · intro w'
    go_simp
    with_reducible rfl
  rotate_left
  · simp only [Act.put, List.setIfInBounds_toArray, List.set_cons_zero, List.set_cons_succ, i64_w, i32_w, hw, hwm, hw']
    rfl
  refine pure_ (i := 6) (N := some 8) (v := ?_) (a' := ?_) #[true, true, true, true, true, true, true, false, false, false, false, false, false, false, false] rfl rfl (by kernel_rfl) (fun _ _ _ h => h) (Or.inl ⟨by rfl, ?_⟩) ?_ ?_;rotate_left
  · intro w'
    go_simp
    with_reducible rfl
  rotate_left
  · simp only [Act.put, List.setIfInBounds_toArray, List.set_cons_zero, List.set_cons_succ, i64_w, i32_w, hw, hwm, hw']
    rfl
  refine pure_ (i := 7) (N := some 9) (v := ?_) (a' := ?_) #[true, true, true, true, true, true, true, true, false, false, false, false, false, false, false] rfl rfl (by kernel_rfl) (fun _ _ _ h => h) (Or.inl ⟨by rfl, ?_⟩) ?_ ?_;rotate_left
  · intro w'
    go_simp
    with_reducible rfl
  rotate_left
  · simp only [Act.put, List.setIfInBounds_toArray, List.set_cons_zero, List.set_cons_succ, i64_w, i32_w, hw, hwm, hw']
    rfl
  refine take_ (i := 8) (N := some 10) (v := ?_) (a' := ?_) #[true, true, true, true, true, true, true, true, true, false, false, false, false, false, false] rfl rfl (by kernel_rfl) (fun _ _ _ h => h) (Or.inl ⟨by rfl, ?_⟩) hHeld ?_ ?_;rotate_left
  · rintro w' hS
    have a1 := blk_cell hS.blk 1;go_simp
    with_reducible rfl
  rotate_left
  · simp only [Act.put, List.setIfInBounds_toArray, List.set_cons_zero, List.set_cons_succ, i64_w, i32_w, hw, hwm, hw']
    rfl
  refine pure_ (i := 9) (N := some 11) (v := ?_) (a' := ?_) #[true, true, true, true, true, true, true, true, true, true, false, false, false, false, false] rfl rfl (by kernel_rfl) (fun _ _ _ h => h) (Or.inl ⟨by rfl, ?_⟩) ?_ ?_;rotate_left
  · intro w'
    go_simp
    with_reducible rfl
  rotate_left
  · simp only [Act.put, List.setIfInBounds_toArray, List.set_cons_zero, List.set_cons_succ, i64_w, i32_w, hw, hwm, hw']
    rfl
  refine pure_ (i := 10) (N := some 12) (v := ?_) (a' := ?_) #[true, true, true, true, true, true, true, true, true, true, true, false, false, false, false] rfl rfl (by kernel_rfl) (fun _ _ _ h => h) (Or.inl ⟨by rfl, ?_⟩) ?_ ?_;rotate_left
  · intro w'
    go_simp
    with_reducible rfl
  rotate_left
  · simp only [Act.put, List.setIfInBounds_toArray, List.set_cons_zero, List.set_cons_succ, i64_w, i32_w, hw, hwm, hw']
    rfl
  refine pure_ (i := 11) (N := some 13) (v := ?_) (a' := ?_) #[true, true, true, true, true, true, true, true, true, true, true, true, false, false, false] rfl rfl (by kernel_rfl) (fun _ _ _ h => h) (Or.inl ⟨by rfl, ?_⟩) ?_ ?_;rotate_left
  · intro w'
    go_simp
    with_reducible rfl
  rotate_left
  · simp only [Act.put, List.setIfInBounds_toArray, List.set_cons_zero, List.set_cons_succ, i64_w, i32_w, hw, hwm, hw']
    rfl
  refine pure_ (i := 12) (N := some 14) (v := ?_) (a' := ?_) #[true, true, true, true, true, true, true, true, true, true, true, true, true, false, false] rfl rfl (by kernel_rfl) (fun _ _ _ h => h) (Or.inl ⟨by rfl, ?_⟩) ?_ ?_;rotate_left
  · intro w'
    go_simp
    with_reducible rfl
  rotate_left
  · simp only [Act.put, List.setIfInBounds_toArray, List.set_cons_zero, List.set_cons_succ, i64_w, i32_w, hw, hwm, hw']
    rfl
  refine pure_ (i := 13) (N := some 15) (v := ?_) (a' := ?_) #[true, true, true, true, true, true, true, true, true, true, true, true, true, true, false] rfl rfl (by kernel_rfl) (fun _ _ _ h => h) (Or.inl ⟨by rfl, ?_⟩) ?_ ?_;rotate_left
  · intro w'
    go_simp
    with_reducible rfl
  rotate_left
  · simp only [Act.put, List.setIfInBounds_toArray, List.set_cons_zero, List.set_cons_succ, i64_w, i32_w, hw, hwm, hw']
    rfl
  have f0 := blk_cell hHeld.blk 1;have e0 := hHeld.frozen 1;refine last_ (i := 14) (N := none) #[true, true, true, true, true, true, true, true, true, true, true, true, true, true, true] rfl rfl (by kernel_rfl) (by decide) (fun K hK => ?_);refine skip_ (w1 := ?_) (by rfl) rfl ?_ ?_;rotate_left
  · go_simp
    rfl
  refine hK.out _ _ ?_;clear hK K;refine done_ (by kernel_rfl) ?_;go_wp2
  go_end0
  exact ⟨_, rfl, hHeld.put 1 _ rfl (Kd.R_take hHeld.st (by have := HM.out; omega)) hHeld.lv hHeld.cl⟩
end Go.Proofs.Ytmjipbmpapcboaa.P
