/- Proved: the theorems below, each under its own conditions. -/
import Derived.Test.YtmjipbmpapcboaaC13
import Derived.Test.YtmjipbmpapcboaaC22
import Derived.Test.YtmjipbmpapcboaaC23
namespace Go.Proofs.Ytmjipbmpapcboaa.P
open Go.RowKit Go.Proofs.YtmjipbmpapcboaaW.PrintWords Go.Proofs.YtmjipbmpapcboaaW.PrintLast Go.Proofs.YtmjipbmpapcboaaW.PrintMore
attribute [local go_sem] max2_int min2_int max_two min_two
set_option linter.unusedVariables false
set_option maxHeartbeats 8000000
set_option maxRecDepth 100000
set_option linter.unusedSimpArgs false
mutual
def ductusref10_Pairs.l0 : Nat → List Int → List Int → List (S87) → List Int → Int → Option ((List (S87)))
  | 0, _, _, _, _, _ => none
  | k + 1, x0, x1, x5, x6, x7 => if x7 < (x0.length : Int) then (if 0 ≤ x7 then ((ductusref03_Other.f k (rd x0 x7)).bind fun bt582 => (if bt582.2.2 = true then (if x7 < (x1.length : Int) then (ductusref10_Pairs.j1 k x0 x1 x5 x6 x7 bt582.1 bt582.2.1 ((rd x1 x7) != 13)) else (none)) else (ductusref10_Pairs.j1 k x0 x1 x5 x6 x7 bt582.1 bt582.2.1 true))) else (none)) else (some x5)
def ductusref10_Pairs.j1 : Nat → List Int → List Int → List (S87) → List Int → Int → Int → Bool → Bool → Option ((List (S87)))
  | 0, _, _, _, _, _, _, _, _ => none
  | k + 1, x0, x1, x5, x6, x7, x8, x9, x40 => if x40 = true then (ductusref10_Pairs.l0 k x0 x1 x5 x6 (wrap64 (x7 + 1))) else (if x9 = true then (if (x6.length : Int) = 63 then (some x5) else (if x6.length < 17592186044416 then (ductusref10_Pairs.l0 k x0 x1 x5 (x6 ++ [x7]) (wrap64 (x7 + 1))) else (none))) else (ductusref10_Pairs.l1 k x0 x1 x5 x6 x7 x8 (wrap64 ((x6.length : Int) - 1))))
def ductusref10_Pairs.l1 : Nat → List Int → List Int → List (S87) → List Int → Int → Int → Int → Option ((List (S87)))
  | 0, _, _, _, _, _, _, _ => none
  | k + 1, x0, x1, x5, x6, x7, x8, x11 => if x11 ≥ 0 then (if 0 ≤ x11 then (if x11 < (x6.length : Int) then (if 0 ≤ (rd x6 x11) then (if (rd x6 x11) < (x0.length : Int) then ((ductusref03_Same.f k (rd x0 (rd x6 x11)) x8).bind fun t591 => (if t591 = true then ((ductusref10_put.f k x5 (rd x6 x11) x7).bind fun t593 => (if x11 ≤ (x6.length : Int) then (ductusref10_Pairs.l0 k x0 x1 t593 (x6.take (x11 : Int).toNat) (wrap64 (x7 + 1))) else (none))) else (ductusref10_Pairs.l1 k x0 x1 x5 x6 x7 x8 (wrap64 (x11 - 1))))) else (none)) else (none)) else (none)) else (none)) else (ductusref10_Pairs.l0 k x0 x1 x5 x6 (wrap64 (x7 + 1)))
end
def ductusref10_Pairs.f (k : Nat) (l0 : List Int) (l1 : List Int) : Option ((List (S87))) := if (l0.length : Int) = (l1.length : Int) then (ductusref10_Pairs.l0 k l0 l1 ([] : List (S87)) ([] : List Int) 0) else (some ([] : List (S87)))
theorem ductusref10_Pairs.calls (k : Nat) (A0 : Option Addr) (c0 : Nat) (l0 : List Int) (A1 : Option Addr) (c1 : Nat) (l1 : List Int) (r : List (S87)) (w : World) (hr0 : Kd.C (Kd.int .i64) w A0 l0.length l0) (hc0 : l0.length ≤ c0) (hr1 : Kd.C (Kd.int .i64) w A1 l1.length l1) (hc1 : l1.length ≤ c1) (h : ductusref10_Pairs.f k l0 l1 = some r) :
    Calls Try.prog 57 #[.slice A0 l0.length c0, .slice A1 l1.length c1] w fun e w' => ∃ v0_ : Value, e = .returned (v0_) ∧ Kd.R k87 87 w' w.heap.size (fun _ => True) v0_ r ∧ Below w.heap.size w w' := by
  have hu87 := Try.underlying87;have HR0 := Aside0.mk hr0;have HC0 := Aside0.mk hc0;clear hr0 hc0;have HR1 := Aside0.mk hr1;have HC1 := Aside0.mk hc1;clear hr1 hc1;have HB := Aside0.mk (Below.refl w.heap.size w);unfold ductusref10_Pairs.f at h;have H := h;clear h
  by_cases c3 : (l0.length : Int) = (l1.length : Int)
  rotate_left
  · rw [if_neg c3] at H
    have c3b0 := beq_eq_false_iff_ne.mpr c3;have c3b1 := bne_iff_ne.mpr c3
    have c3b2 : (l0.length == l1.length) = false := by first | simpa using c3 | (simp at c3 ⊢; omega)
    obtain rfl := Option.some.inj H
    go_enter Try.func57, Try.ntmps57
    go_wp2;go_ret;exact ⟨_, uE, by first | exact Kd.R_nil _ _ _ _ _ | exact Kd.N_nil _ _ _ _ _ | exact Kd.V_nil _ _ _ _ _ | exact Kd.Q_nil _ _ _ _ _ | exact Kd.S_nil _ _ _ _ _, uB HB.out⟩
  rw [if_pos c3] at H;have c3b0 := beq_iff_eq.mpr c3;have c3b1 := bne_eq_false_iff_eq.mpr c3
  have c3b2 : (l0.length == l1.length) = true := by first | simpa using c3 | (simp at c3 ⊢; omega)
  clear c3;have H' := Aside0.mk H;clear H
  go_enter Try.func57, Try.ntmps57
  go_wp2
  go_loopg [5, 6, 7] k (fun kq v5 v6 v7 w' => ∃ (x5_1 : List (S87)) (x6_1 : List Int) (x7_1 : Int), v7 = .int .i64 x7_1 ∧ Aside0 (ductusref10_Pairs.l0 kq l0 l1 x5_1 x6_1 x7_1 = some r) ∧ Aside0 (kq ≤ k) ∧ Aside0 (Kd.R k87 87 w' w.heap.size (fun _ => True) v5 x5_1) ∧ Aside0 (Kd.R (Kd.int .i64) 3 w' w.heap.size (fun _ => True) v6 x6_1) ∧ Aside0 (Below w.heap.size w w'))
  case atStart => exact ⟨(([] : List (S87))), (([] : List Int)), (0), uF, H', ⟨Nat.le_refl _⟩, ⟨by first | exact Kd.R_nil _ _ _ _ _ | exact Kd.N_nil _ _ _ _ _ | exact Kd.V_nil _ _ _ _ _ | exact Kd.Q_nil _ _ _ _ _ | exact Kd.S_nil _ _ _ _ _⟩, ⟨by first | exact Kd.R_nil _ _ _ _ _ | exact Kd.N_nil _ _ _ _ _ | exact Kd.V_nil _ _ _ _ _ | exact Kd.Q_nil _ _ _ _ _ | exact Kd.S_nil _ _ _ _ _⟩, ⟨uB HB.out⟩⟩
  case round =>
    clear H';(try clear c1);(try clear p2);(try clear c3b0);(try clear c3b1);(try clear c3b2);obtain ⟨x5_1, x6_1, x7_1, rfl, HA, HK1, HO_5, HO_6, HB⟩ := hrel
    cases gk with
    | zero => exact absurd HA.out (by simp [ductusref10_Pairs.l0])
    | succ k1 =>
      have H := HA.out;clear HA;simp only [ductusref10_Pairs.l0] at H
      by_cases c4 : x7_1 < (l0.length : Int)
      rotate_left
      · rw [if_neg c4] at H
        have c4b0 := decide_eq_false c4;clear c4;obtain rfl := Option.some.inj H;go_wp2;go_ret;exact ⟨_, uE, uR HO_5.out, uB HB.out⟩
      rw [if_pos c4] at H;have c4b0 := decide_eq_true c4;clear c4;replace H := uI H;obtain ⟨c5b0, H⟩ := H;replace H := Option.bind_eq_some_iff.mp H;obtain ⟨⟨t582, t583, t584⟩, A60, H⟩ := H;have A6 := Aside0.mk A60;clear A60;have HC7 := Aside0.mk H;clear H;have p581 : 0 ≤ (x7_1 : Int) := uD;have q581 : x7_1 < (l0.length : Int) := uD;obtain ⟨ad581, e581, hx581_0⟩ := Kd.at_int HR0.out x7_1 p581 q581;cases e581;replace hx581_0 := (HB.out.cell (World.block_lt_of_cell? w _ hx581_0)).trans hx581_0;replace p581 := eq_true p581;replace q581 := eq_true q581
      go_upto_region 9 with (first | ((with_reducible refine gate_callee (f := 80) rfl ?_); refine gL 28 Try.func80 #[.int .i64 (rd l0 x7_1)] ?_; (with_reducible refine (ductusref03_Other.calls k1 (rd l0 x7_1) t582 t583 t584 _ A6.out).mono ?_); rintro e w8 ⟨rfl, hb⟩; refine ⟨_, rfl, ?_⟩; have n_ := z3_ (Kd.R_below (uR HO_5.out) hb) (Kd.R_below (uR HO_6.out) hb) (below_step (uB HB.out) hb); clear HO_5 HO_6 HB; obtain ⟨HO_5, HO_6, HB⟩ := n_; (try clear hb); (try clear hb2); (try clear hk); (try clear hi)))
      (try simp only [Act.put, List.setIfInBounds_toArray, List.set_cons_zero, List.set_cons_succ])
      go_cut [40] (fun v40 wc => ∃ (kq : Nat) (x40_6 : Bool), v40 = .bool x40_6 ∧ Aside0 (ductusref10_Pairs.j1 kq l0 l1 x5_1 x6_1 x7_1 t582 t583 x40_6 = some r) ∧ Aside0 (kq ≤ k1) ∧ Aside0 (Kd.R k87 87 wc w.heap.size (fun _ => True) u5 x5_1) ∧ Aside0 (Kd.R (Kd.int .i64) 3 wc w.heap.size (fun _ => True) u6 x6_1) ∧ Aside0 (Below w.heap.size w wc))
      case first =>
        have H := HC7.out;clear HC7
        by_cases c9 : t584 = true
        rotate_left
        · replace c9 := Bool.eq_false_iff.mpr c9
          subst c9
          have H1 : (ductusref10_Pairs.j1 k1 l0 l1 x5_1 x6_1 x7_1 t582 t583 true) = some r := by rw [if_neg (show ¬ (false = true) by decide)] at H; exact H
          clear H;have H := H1;clear H1;have H' := Aside0.mk H;clear H;go_wp2;go_meet
          case rel => exact ⟨_, (true), uF, H', ⟨by have := HK1.out; first | omega | exact Nat.le_refl _⟩, ⟨uR HO_5.out⟩, ⟨uR HO_6.out⟩, ⟨uB HB.out⟩⟩
        subst c9
        have H1 : (if x7_1 < (l1.length : Int) then (ductusref10_Pairs.j1 k1 l0 l1 x5_1 x6_1 x7_1 t582 t583 ((rd l1 x7_1) != 13)) else (none)) = some r := by rw [if_pos rfl] at H; exact H
        clear H;have H := H1;clear H1;replace H := uI H;obtain ⟨c10b0, H⟩ := H
        (first | rw [c10b0] | (simp only [i64_w, i32_w]; rw [c10b0]) | skip)
        have H' := Aside0.mk H;clear H;have p585 : 0 ≤ (x7_1 : Int) := uD;have q585 : x7_1 < (l1.length : Int) := uD;obtain ⟨ad585, e585, hx585_0⟩ := Kd.at_int HR1.out x7_1 p585 q585;cases e585;replace hx585_0 := (HB.out.cell (World.block_lt_of_cell? w _ hx585_0)).trans hx585_0;replace p585 := eq_true p585;replace q585 := eq_true q585;go_wp2;go_meet
        case rel => exact ⟨_, (((rd l1 x7_1) != 13)), uF, H', ⟨by have := HK1.out; first | omega | exact Nat.le_refl _⟩, ⟨uR HO_5.out⟩, ⟨uR HO_6.out⟩, ⟨uB HB.out⟩⟩
      case rest =>
        clear HC7;(try clear c1);(try clear p2);(try clear c3b0);(try clear c3b1);(try clear c3b2);(try clear c4b0);(try clear c5b0);(try clear p5);(try clear q5);(try clear hx5);(try clear c8);(try clear c9);(try clear c10b0);(try clear hx581_0);(try clear hx585_0);(try clear p2);(try clear p581);(try clear p585);(try clear q581);(try clear q585);obtain ⟨kq, x40_6, rfl, HA, HJ6, HO_5, HO_6, HB⟩ := hcut
        cases kq with
        | zero => exact absurd HA.out (by simp [ductusref10_Pairs.j1])
        | succ kj6 =>
          have H := HA.out;clear HA;simp only [ductusref10_Pairs.j1] at H
          by_cases c11 : x40_6 = true
          · subst c11
            have H1 : (ductusref10_Pairs.l0 kj6 l0 l1 x5_1 x6_1 (wrap64 (x7_1 + 1))) = some r := by rw [if_pos rfl] at H; exact H
            clear H;have H := H1;clear H1;have H' := Aside0.mk H;clear H;go_wp2;go_roundg kj6
            case measure => have := HK1.out; have := HJ6.out; omega
            case rel => exact ⟨(x5_1), (x6_1), (wrap64 (x7_1 + 1)), uF, H', ⟨by have := HK1.out; have := HJ6.out; omega⟩, ⟨uR HO_5.out⟩, ⟨uR HO_6.out⟩, ⟨uB HB.out⟩⟩
          replace c11 := Bool.eq_false_iff.mpr c11;subst c11
          have H1 : (if t583 = true then (if (x6_1.length : Int) = 63 then (some x5_1) else (if x6_1.length < 17592186044416 then (ductusref10_Pairs.l0 kj6 l0 l1 x5_1 (x6_1 ++ [x7_1]) (wrap64 (x7_1 + 1))) else (none))) else (ductusref10_Pairs.l1 kj6 l0 l1 x5_1 x6_1 x7_1 t582 (wrap64 ((x6_1.length : Int) - 1)))) = some r := by rw [if_neg (show ¬ (false = true) by decide)] at H; exact H
          clear H;have H := H1;clear H1
          by_cases c12 : t583 = true
          · subst c12
            have H1 : (if (x6_1.length : Int) = 63 then (some x5_1) else (if x6_1.length < 17592186044416 then (ductusref10_Pairs.l0 kj6 l0 l1 x5_1 (x6_1 ++ [x7_1]) (wrap64 (x7_1 + 1))) else (none))) = some r := by rw [if_pos rfl] at H; exact H
            clear H;have H := H1;clear H1
            by_cases c13 : (x6_1.length : Int) = 63
            · rw [if_pos c13] at H
              have c13b0 := beq_iff_eq.mpr c13;have c13b1 := bne_eq_false_iff_eq.mpr c13;clear c13;obtain rfl := Option.some.inj H;obtain ⟨Ao14, co14, eo14⟩ := Kd.R_slice HO_6.out;subst eo14;go_wp2;go_ret;exact ⟨_, uE, uR HO_5.out, uB HB.out⟩
            rw [if_neg c13] at H;have c13b0 := beq_eq_false_iff_ne.mpr c13;have c13b1 := bne_iff_ne.mpr c13;replace H := uP H;obtain ⟨c15, H⟩ := H;have LMc15 := Aside0.mk c15;clear c15;obtain ⟨y586, hy586⟩ : ∃ y_ : List Int, y_ = (x6_1 ++ [x7_1]) := ⟨_, rfl⟩;replace H : (ductusref10_Pairs.l0 kj6 l0 l1 x5_1 y586 (wrap64 (x7_1 + 1))) = some r := uH hy586 H;have Ny586 := Aside0.mk hy586;clear hy586;have H' := Aside0.mk H;clear H;obtain ⟨Ao16, co16, eo16⟩ := Kd.R_slice HO_6.out;subst eo16
            go_wp2_with (first | ((with_reducible refine gate_builtin (b := .append) (xs := #[.tmp 46, .tmp 48]) rfl ?_); at_builtin; refine Kd.R_append (Kd.int .i64) (w0 := w) w.heap.size rfl (.tmp 46) (.tmp 48) 22 3 (.int .i64 0) 8 rfl Try.underlying22 info3 rfl (by decide) (by omega) (.slice Ao16 x6_1.length co16) x6_1 x7_1 [.int .i64 x7_1] (fun _ => True) (fun _ => False) rfl rfl ?aP (fun _ hk => hk.elim) ?aF ?aO ?aB ?aS ?aL ?_; (case aP => exact rfl); (case aB => exact (uB HB.out)); (case aF => exact (fun _ _ => trivial)); (case aO => exact (uR HO_6.out)); (case aS => exact (below_size (uB HB.out))); (case aL => have := LMc15.out; omega); intro v587 w17 ho hb hg hat; rw [← Ny586.out] at ho; have n_ := z3_ (Kd.R_over' (uR HO_5.out) (Kd.R_typed (uR HO_6.out)) (by decide) hg) (hb) (ho); clear HO_5 HB HO_6; obtain ⟨HO_5, HB, HO588⟩ := n_; clear ho hb hg hat))
            go_roundg kj6
            case measure => have := HK1.out; have := HJ6.out; omega
            case rel => exact ⟨(x5_1), (y586), (wrap64 (x7_1 + 1)), uF, H', ⟨by have := HK1.out; have := HJ6.out; omega⟩, ⟨uR HO_5.out⟩, ⟨uR HO588.out⟩, ⟨uB HB.out⟩⟩
          replace c12 := Bool.eq_false_iff.mpr c12;subst c12
          have H1 : (ductusref10_Pairs.l1 kj6 l0 l1 x5_1 x6_1 x7_1 t582 (wrap64 ((x6_1.length : Int) - 1))) = some r := by rw [if_neg (show ¬ (false = true) by decide)] at H; exact H
          clear H;have H := H1;clear H1;have H' := Aside0.mk H;clear H;obtain ⟨Ao18, co18, eo18⟩ := Kd.R_slice HO_6.out;subst eo18;go_wp2
          go_loopg [5, 6, 11] kj6 (fun kq v5 v6 v11 w' => ∃ (x5_3 : List (S87)) (x6_3 : List Int) (x11_3 : Int), v11 = .int .i64 x11_3 ∧ Aside0 (ductusref10_Pairs.l1 kq l0 l1 x5_3 x6_3 x7_1 t582 x11_3 = some r) ∧ Aside0 (kq ≤ kj6) ∧ Aside0 (Kd.R k87 87 w' w.heap.size (fun _ => True) v5 x5_3) ∧ Aside0 (Kd.R (Kd.int .i64) 3 w' w.heap.size (fun _ => True) v6 x6_3) ∧ Aside0 (Below w.heap.size w w'))
          case atStart => exact ⟨(x5_1), (x6_1), (wrap64 ((x6_1.length : Int) - 1)), uF, H', ⟨Nat.le_refl _⟩, ⟨uR HO_5.out⟩, ⟨uR HO_6.out⟩, ⟨uB HB.out⟩⟩
          case round =>
            clear H';(try clear c1);(try clear p2);(try clear c3b0);(try clear c3b1);(try clear c3b2);(try clear c4b0);(try clear c5b0);(try clear p5);(try clear q5);(try clear hx5);(try clear p6);(try clear c8);(try clear c9);(try clear c10b0);(try clear c11);(try clear c12);(try clear c13b0);(try clear c13b1);(try clear hx581_0);(try clear hx585_0);(try clear p2);(try clear p5);(try clear p581);(try clear p585);(try clear q5);(try clear q581);(try clear q585);obtain ⟨x5_3, x6_3, x11_3, rfl, HA, HK3, HO_5, HO_6, HB⟩ := hrel
            cases gk with
            | zero => exact absurd HA.out (by simp [ductusref10_Pairs.l1])
            | succ k3 =>
              have H := HA.out;clear HA;simp only [ductusref10_Pairs.l1] at H
              by_cases c19 : x11_3 ≥ 0
              rotate_left
              · rw [if_neg c19] at H
                have c19b0 : decide (0 ≤ x11_3) = false := decide_eq_false c19;clear c19;have H' := Aside0.mk H;clear H;go_wp2;go_roundg k3
                case measure => have := HK1.out; have := HJ6.out; have := HK3.out; omega
                case rel => exact ⟨(x5_3), (x6_3), (wrap64 (x7_1 + 1)), uF, H', ⟨by have := HK1.out; have := HJ6.out; have := HK3.out; omega⟩, ⟨uR HO_5.out⟩, ⟨uR HO_6.out⟩, ⟨uB HB.out⟩⟩
              rw [if_pos c19] at H;have c19b0 : decide (0 ≤ x11_3) = true := decide_eq_true c19;clear c19;replace H := uI H;obtain ⟨c20b0, H⟩ := H;replace H := uI H;obtain ⟨c21b0, H⟩ := H;replace H := uI H;obtain ⟨c22b0, H⟩ := H;replace H := uI H;obtain ⟨c23b0, H⟩ := H;replace H := Option.bind_eq_some_iff.mp H;obtain ⟨t591, A240, H⟩ := H;have A24 := Aside0.mk A240;clear A240
              by_cases c25 : t591 = true
              rotate_left
              · replace c25 := Bool.eq_false_iff.mpr c25
                subst c25
                have H1 : (ductusref10_Pairs.l1 k3 l0 l1 x5_3 x6_3 x7_1 t582 (wrap64 (x11_3 - 1))) = some r := by rw [if_neg (show ¬ (false = true) by decide)] at H; exact H
                clear H;have H := H1;clear H1;have H' := Aside0.mk H;clear H;obtain ⟨Ao33, co33, eo33⟩ := Kd.R_slice HO_6.out;subst eo33;have p589 : 0 ≤ (x11_3 : Int) := uD;have q589 : x11_3 < (x6_3.length : Int) := uD;obtain ⟨ad589, e589, hx589_0⟩ := Kd.at_int (Kd.R_reads' HO_6.out).2.2 x11_3 p589 q589;cases e589;replace p589 := eq_true p589;replace q589 := eq_true q589;have p590 : 0 ≤ ((rd x6_3 x11_3) : Int) := uD;have q590 : (rd x6_3 x11_3) < (l0.length : Int) := uD;obtain ⟨ad590, e590, hx590_0⟩ := Kd.at_int HR0.out (rd x6_3 x11_3) p590 q590;obtain rfl : ad581 = ad590 := (by injection e590);replace hx590_0 := (HB.out.cell (World.block_lt_of_cell? w _ hx590_0)).trans hx590_0;replace p590 := eq_true p590;replace q590 := eq_true q590
                go_wp2_with (first | ((with_reducible refine gate_callee (f := 81) rfl ?_); refine gL 65 Try.func81 #[.int .i64 (rd l0 (rd x6_3 x11_3)), .int .i64 t582] ?_; (with_reducible refine (ductusref03_Same.calls k3 (rd l0 (rd x6_3 x11_3)) t582 false _ A24.out).mono ?_); rintro e w34 ⟨rfl, hb⟩; refine ⟨_, rfl, ?_⟩; have n_ := z3_ (Kd.R_below (uR HO_5.out) hb) (Kd.R_below (uR HO_6.out) hb) (below_step (uB HB.out) hb); clear HO_5 HO_6 HB; obtain ⟨HO_5, HO_6, HB⟩ := n_; (try clear hb); (try clear hb2); (try clear hk); (try clear hi)))
                go_roundg k3
                case measure => have := HK1.out; have := HJ6.out; have := HK3.out; omega
                case rel => exact ⟨(x5_3), (x6_3), (wrap64 (x11_3 - 1)), uF, H', ⟨by have := HK1.out; have := HJ6.out; have := HK3.out; omega⟩, ⟨uR HO_5.out⟩, ⟨uR HO_6.out⟩, ⟨uB HB.out⟩⟩
              subst c25
              have H1 : ((ductusref10_put.f k3 x5_3 (rd x6_3 x11_3) x7_1).bind fun t593 => (if x11_3 ≤ (x6_3.length : Int) then (ductusref10_Pairs.l0 k3 l0 l1 t593 (x6_3.take (x11_3 : Int).toNat) (wrap64 (x7_1 + 1))) else (none))) = some r := by rw [if_pos rfl] at H; exact H
              clear H;have H := H1;clear H1;replace H := Option.bind_eq_some_iff.mp H;obtain ⟨t593, A260, H⟩ := H;have A26 := Aside0.mk A260;clear A260;replace H := uP H;obtain ⟨c27, H⟩ := H;have c27b0 := eq_true c27;have c27b1 := decide_eq_true c27;clear c27;obtain ⟨y596, hy596⟩ : ∃ y_ : List Int, y_ = (x6_3.take (x11_3 : Int).toNat) := ⟨_, rfl⟩;replace H : (ductusref10_Pairs.l0 k3 l0 l1 t593 y596 (wrap64 (x7_1 + 1))) = some r := uH hy596 H;have Ny596 := Aside0.mk hy596;clear hy596;have H' := Aside0.mk H;clear H;obtain ⟨Ao28, co28, eo28⟩ := Kd.R_slice HO_6.out;subst eo28;have p589 : 0 ≤ (x11_3 : Int) := uD;have q589 : x11_3 < (x6_3.length : Int) := uD;obtain ⟨ad589, e589, hx589_0⟩ := Kd.at_int (Kd.R_reads' HO_6.out).2.2 x11_3 p589 q589;cases e589;replace p589 := eq_true p589;replace q589 := eq_true q589;have p590 : 0 ≤ ((rd x6_3 x11_3) : Int) := uD;have q590 : (rd x6_3 x11_3) < (l0.length : Int) := uD;obtain ⟨ad590, e590, hx590_0⟩ := Kd.at_int HR0.out (rd x6_3 x11_3) p590 q590;obtain rfl : ad581 = ad590 := (by injection e590);replace hx590_0 := (HB.out.cell (World.block_lt_of_cell? w _ hx590_0)).trans hx590_0;replace p590 := eq_true p590;replace q590 := eq_true q590
              go_wp2_with (first | ((with_reducible refine gate_callee (f := 81) rfl ?_); refine gL 65 Try.func81 #[.int .i64 (rd l0 (rd x6_3 x11_3)), .int .i64 t582] ?_; (with_reducible refine (ductusref03_Same.calls k3 (rd l0 (rd x6_3 x11_3)) t582 true _ A24.out).mono ?_); rintro e w29 ⟨rfl, hb⟩; refine ⟨_, rfl, ?_⟩; have n_ := z3_ (Kd.R_below (uR HO_5.out) hb) (Kd.R_below (uR HO_6.out) hb) (below_step (uB HB.out) hb); clear HO_5 HO_6 HB; obtain ⟨HO_5, HO_6, HB⟩ := n_; (try clear hb); (try clear hb2); (try clear hk); (try clear hi); have p592 : 0 ≤ (x11_3 : Int) := uD; have q592 : x11_3 < (x6_3.length : Int) := uD; obtain ⟨ad592, e592, hx592_0⟩ := Kd.at_int (Kd.R_reads' HO_6.out).2.2 x11_3 p592 q592; obtain rfl : ad589 = ad592 := (by injection e592); replace p592 := eq_true p592; replace q592 := eq_true q592; obtain ⟨Ao30, co30, eo30⟩ := Kd.R_slice HO_5.out; subst eo30) | ((with_reducible refine gate_callee (f := 82) rfl ?_); refine gL 73 Try.func82 #[.slice Ao30 x5_3.length co30, .agg #[.int .i64 (rd x6_3 x11_3), .int .i64 x7_1]] ?_; (with_reducible refine (ductusref10_put.calls k3 _ _ x5_3 (rd x6_3 x11_3) x7_1 t593 _ ?side1 ?side2 A26.out).mono ?_); (case side1 => exact uC (Kd.R_reads' HO_5.out).2.2); (case side2 => exact (Kd.R_reads' HO_5.out).2.1); rintro e w31 ⟨v594, rfl, ho0, hb⟩; refine ⟨_, rfl, ?_⟩; have n_ := z4_ (Kd.R_elder' (uR HO_5.out) (Kd.R_base ho0) hb) (Kd.R_below (uR HO_6.out) hb) (Kd.R_lower (Kd.R_new' ho0 (Kd.R_lt (uR HO_5.out))) (below_size (uB HB.out))) (below_step (uB HB.out) hb); clear HO_5 HO_6 HB; obtain ⟨HO_5, HO_6, HO595, HB⟩ := n_; (try clear hb); (try clear ho0); have q32 : (x11_3 : Int) ≤ ((x6_3.length : Int) : Int) := uD; obtain ⟨i032, hi032, _, hsz32, _⟩ := info_parts info3; have hcut32 := cut_to (P := Try.prog) 22 3 .i64 Try.underlying22 hi032 (some ad589) x6_3.length co28 x11_3 (uD) q32 (Kd.R_reads' HO_6.out).2.1; have hr32 := Kd.R_take (m := (x11_3 : Int).toNat) HO_6.out (by omega); have hy32 : y596.length = (x11_3 : Int).toNat := (by rw [Ny596.out, List.length_take]; omega); rw [← Ny596.out] at hr32; rw [← hy32] at hr32 hcut32; clear hy32 hi032 hsz32 HO_6; have HO598 := Aside0.mk hr32; clear hr32; replace q32 := eq_true q32))
              go_roundg k3
              case measure => have := HK1.out; have := HJ6.out; have := HK3.out; omega
              case rel => exact ⟨(t593), (y596), (wrap64 (x7_1 + 1)), uF, H', ⟨by have := HK1.out; have := HJ6.out; have := HK3.out; omega⟩, ⟨uT HO595.out (fun _ hk => trivial)⟩, ⟨uR HO598.out⟩, ⟨uB HB.out⟩⟩
def ductusref10_Side.f (a0 : Int) : Option (Int) := if a0 = 0 then (some 0) else (if a0 = 1 then (some 1) else (if a0 = 3 then (some 1) else (if a0 = 6 then (some 1) else (some (-1)))))
theorem ductusref10_Side.calls (a0 : Int) (r : Int) (w : World) (h : ductusref10_Side.f a0 = some r) :
    Calls Try.prog 60 #[.int .i64 a0] w fun e w' => e = .returned (.int .i64 r) ∧ Drawn0 w w' := by
  unfold ductusref10_Side.f at h;have H := h;clear h
  by_cases c2 : a0 = 0
  · rw [if_pos c2] at H
    have c2b0 := beq_iff_eq.mpr c2;have c2b1 := bne_eq_false_iff_eq.mpr c2;clear c2;obtain rfl := Option.some.inj H
    go_enter Try.func60, Try.ntmps60
    go_wp2;go_ret;exact ⟨uF, uW⟩
  rw [if_neg c2] at H;have c2b0 := beq_eq_false_iff_ne.mpr c2;have c2b1 := bne_iff_ne.mpr c2
  by_cases c3 : a0 = 1
  · rw [if_pos c3] at H
    have c3b0 := beq_iff_eq.mpr c3;have c3b1 := bne_eq_false_iff_eq.mpr c3;clear c3;obtain rfl := Option.some.inj H
    go_enter Try.func60, Try.ntmps60
    go_wp2;go_ret;exact ⟨uF, uW⟩
  rw [if_neg c3] at H;have c3b0 := beq_eq_false_iff_ne.mpr c3;have c3b1 := bne_iff_ne.mpr c3
  by_cases c4 : a0 = 3
  · rw [if_pos c4] at H
    have c4b0 := beq_iff_eq.mpr c4;have c4b1 := bne_eq_false_iff_eq.mpr c4;clear c4;obtain rfl := Option.some.inj H
    go_enter Try.func60, Try.ntmps60
    go_wp2;go_ret;exact ⟨uF, uW⟩
  rw [if_neg c4] at H;have c4b0 := beq_eq_false_iff_ne.mpr c4;have c4b1 := bne_iff_ne.mpr c4
  by_cases c5 : a0 = 6
  rotate_left
  · rw [if_neg c5] at H
    have c5b0 := beq_eq_false_iff_ne.mpr c5;have c5b1 := bne_iff_ne.mpr c5;obtain rfl := Option.some.inj H
    go_enter Try.func60, Try.ntmps60
    go_wp2;go_ret;exact ⟨uF, uW⟩
  rw [if_pos c5] at H;have c5b0 := beq_iff_eq.mpr c5;have c5b1 := bne_eq_false_iff_eq.mpr c5;clear c5;obtain rfl := Option.some.inj H
  go_enter Try.func60, Try.ntmps60
  go_wp2;go_ret;exact ⟨uF, uW⟩
def ductusref10_Sides.l0 : Nat → List Int → Int → Bool → Bool → Int → Option (Bool × Bool)
  | 0, _, _, _, _, _ => none
  | k + 1, x0, x2, x8, x9, x10 => if x10 < (mn x2 (x0.length : Int)) then (if x8 = true then (if x9 = true then (ductusref10_Sides.l0 k x0 x2 true true (wrap64 (x10 + 1))) else (if 0 ≤ x10 then (if x10 < (x0.length : Int) then ((ductusref10_Side.f (rd x0 x10)).bind fun t600 => (ductusref10_Sides.l0 k x0 x2 true (t600 == 1) (wrap64 (x10 + 1)))) else (none)) else (none))) else (if 0 ≤ x10 then (if x10 < (x0.length : Int) then ((ductusref10_Side.f (rd x0 x10)).bind fun t602 => (if x9 = true then (ductusref10_Sides.l0 k x0 x2 (t602 == 0) true (wrap64 (x10 + 1))) else ((ductusref10_Side.f (rd x0 x10)).bind fun t604 => (ductusref10_Sides.l0 k x0 x2 (t602 == 0) (t604 == 1) (wrap64 (x10 + 1)))))) else (none)) else (none))) else (some (x8, x9))
def ductusref10_Sides.f (k : Nat) (l0 : List Int) (a1 : Int) (a2 : Int) : Option (Bool × Bool) := ductusref10_Sides.l0 k l0 a2 false false (mx 0 a1)
theorem ductusref10_Sides.calls (k : Nat) (A0 : Option Addr) (c0 : Nat) (l0 : List Int) (a1 : Int) (a2 : Int) (r1 : Bool) (r2 : Bool) (w : World) (hr0 : Kd.C (Kd.int .i64) w A0 l0.length l0) (hc0 : l0.length ≤ c0) (h : ductusref10_Sides.f k l0 a1 a2 = some (r1, r2)) :
    Calls Try.prog 59 #[.slice A0 l0.length c0, .int .i64 a1, .int .i64 a2] w fun e w' => e = .returned (.tuple #[.bool r1, .bool r2]) ∧ Below w.heap.size w w' := by
  have HR0 := Aside0.mk hr0;have HC0 := Aside0.mk hc0;clear hr0 hc0;have HB := Aside0.mk (Below.refl w.heap.size w);unfold ductusref10_Sides.f at h;have H := h;clear h;obtain ⟨ji4, hji4⟩ : ∃ j_ : Int, (mx 0 a1) = j_ := ⟨_, rfl⟩
  replace H : (ductusref10_Sides.l0 k l0 a2 false false ji4) = some (r1, r2) := by first | (rw [hji4] at H; exact H) | (simp only [hji4] at H ⊢; exact H)
  (try (have hji4l : 0 ≤ ji4 := by (rw [← hji4]; unfold mx; (repeat' split) <;> omega)));(try (have hji4m : 0 ≤ ji4 := by omega));have hji4_ : (if 0 < a1 then a1 else 0) = ji4 := hji4;have H' := Aside0.mk H;clear H
  go_enter Try.func59, Try.ntmps59
  go_wp2
  go_loopg [8, 9, 10] k (fun kq v8 v9 v10 w' => ∃ (x8_1 : Bool) (x9_1 : Bool) (x10_1 : Int), v8 = .bool x8_1 ∧ v9 = .bool x9_1 ∧ v10 = .int .i64 x10_1 ∧ Aside0 (ductusref10_Sides.l0 kq l0 a2 x8_1 x9_1 x10_1 = some (r1, r2)) ∧ Aside0 (kq ≤ k) ∧ Aside0 (Below w.heap.size w w'))
  case atStart => exact ⟨(false), (false), (ji4), uF, uF, (by first | rfl | (simp; done) | (simp only [← hji4] <;> (first | rfl | simp)) | (simp [*]; done)), H', ⟨Nat.le_refl _⟩, ⟨uB HB.out⟩⟩
  case round =>
    clear H';(try clear p2);obtain ⟨x8_1, x9_1, x10_1, rfl, rfl, rfl, HA, HK1, HB⟩ := hrel
    cases gk with
    | zero => exact absurd HA.out (by simp [ductusref10_Sides.l0])
    | succ k1 =>
      have H := HA.out;clear HA;simp only [ductusref10_Sides.l0] at H;obtain ⟨ji5, hji5⟩ : ∃ j_ : Int, (mn a2 (l0.length : Int)) = j_ := ⟨_, rfl⟩
      replace H : (if x10_1 < (ji5) then (if x8_1 = true then (if x9_1 = true then (ductusref10_Sides.l0 k1 l0 a2 true true (wrap64 (x10_1 + 1))) else (if 0 ≤ x10_1 then (if x10_1 < (l0.length : Int) then ((ductusref10_Side.f (rd l0 x10_1)).bind fun t600 => (ductusref10_Sides.l0 k1 l0 a2 true (t600 == 1) (wrap64 (x10_1 + 1)))) else (none)) else (none))) else (if 0 ≤ x10_1 then (if x10_1 < (l0.length : Int) then ((ductusref10_Side.f (rd l0 x10_1)).bind fun t602 => (if x9_1 = true then (ductusref10_Sides.l0 k1 l0 a2 (t602 == 0) true (wrap64 (x10_1 + 1))) else ((ductusref10_Side.f (rd l0 x10_1)).bind fun t604 => (ductusref10_Sides.l0 k1 l0 a2 (t602 == 0) (t604 == 1) (wrap64 (x10_1 + 1)))))) else (none)) else (none))) else (some (x8_1, x9_1))) = some (r1, r2) := by first | (rw [hji5] at H; exact H) | (simp only [hji5] at H ⊢; exact H)
      have hji5_ : (if (l0.length : Int) < a2 then (l0.length : Int) else a2) = ji5 := hji5
      by_cases c6 : x10_1 < (ji5)
      rotate_left
      · rw [if_neg c6] at H
        have c6b0 := decide_eq_false c6;clear c6;simp only [Option.some.injEq, Prod.mk.injEq] at H;obtain ⟨rfl, rfl⟩ := H;go_wp2;go_ret2;exact ⟨by first | rfl | (simp [errW_none, errW_some] <;> rfl) | (simp only [← hji4, ← hji5]; first | rfl | (simp [errW_none, errW_some] <;> rfl)) | (simp [*, errW_none, errW_some] <;> rfl), uB HB.out⟩
      rw [if_pos c6] at H;have c6b0 := decide_eq_true c6;clear c6
      by_cases c7 : x8_1 = true
      · subst c7
        have H1 : (if x9_1 = true then (ductusref10_Sides.l0 k1 l0 a2 true true (wrap64 (x10_1 + 1))) else (if 0 ≤ x10_1 then (if x10_1 < (l0.length : Int) then ((ductusref10_Side.f (rd l0 x10_1)).bind fun t600 => (ductusref10_Sides.l0 k1 l0 a2 true (t600 == 1) (wrap64 (x10_1 + 1)))) else (none)) else (none))) = some (r1, r2) := by rw [if_pos rfl] at H; exact H
        clear H;have H := H1;clear H1
        by_cases c8 : x9_1 = true
        · subst c8
          have H1 : (ductusref10_Sides.l0 k1 l0 a2 true true (wrap64 (x10_1 + 1))) = some (r1, r2) := by rw [if_pos rfl] at H; exact H
          clear H;have H := H1;clear H1;have H' := Aside0.mk H;clear H;go_wp2;go_roundg k1
          case measure => have := HK1.out; omega
          case rel => exact ⟨(true), (true), (wrap64 (x10_1 + 1)), uF, uF, uF, H', ⟨by have := HK1.out; omega⟩, ⟨uB HB.out⟩⟩
        replace c8 := Bool.eq_false_iff.mpr c8;subst c8
        have H1 : (if 0 ≤ x10_1 then (if x10_1 < (l0.length : Int) then ((ductusref10_Side.f (rd l0 x10_1)).bind fun t600 => (ductusref10_Sides.l0 k1 l0 a2 true (t600 == 1) (wrap64 (x10_1 + 1)))) else (none)) else (none)) = some (r1, r2) := by rw [if_neg (show ¬ (false = true) by decide)] at H; exact H
        clear H;have H := H1;clear H1;replace H := uI H;obtain ⟨c9b0, H⟩ := H;replace H := uI H;obtain ⟨c10b0, H⟩ := H;replace H := Option.bind_eq_some_iff.mp H;obtain ⟨t600, A110, H⟩ := H;have A11 := Aside0.mk A110;clear A110;have H' := Aside0.mk H;clear H;have p599 : 0 ≤ (x10_1 : Int) := uD;have q599 : x10_1 < (l0.length : Int) := uD;obtain ⟨ad599, e599, hx599_0⟩ := Kd.at_int HR0.out x10_1 p599 q599;cases e599;replace hx599_0 := (HB.out.cell (World.block_lt_of_cell? w _ hx599_0)).trans hx599_0;replace p599 := eq_true p599;replace q599 := eq_true q599
        go_wp2_with (first | (go_at_call 60; (with_reducible refine (ductusref10_Side.calls (rd l0 x10_1) t600 _ A11.out).mono ?_); rintro e w' ⟨rfl, ⟨nd, rfl⟩⟩))
        go_roundg k1
        case measure => have := HK1.out; omega
        case rel => exact ⟨(true), ((t600 == 1)), (wrap64 (x10_1 + 1)), uF, uF, uF, H', ⟨by have := HK1.out; omega⟩, ⟨uB HB.out⟩⟩
      replace c7 := Bool.eq_false_iff.mpr c7;subst c7
      have H1 : (if 0 ≤ x10_1 then (if x10_1 < (l0.length : Int) then ((ductusref10_Side.f (rd l0 x10_1)).bind fun t602 => (if x9_1 = true then (ductusref10_Sides.l0 k1 l0 a2 (t602 == 0) true (wrap64 (x10_1 + 1))) else ((ductusref10_Side.f (rd l0 x10_1)).bind fun t604 => (ductusref10_Sides.l0 k1 l0 a2 (t602 == 0) (t604 == 1) (wrap64 (x10_1 + 1)))))) else (none)) else (none)) = some (r1, r2) := by rw [if_neg (show ¬ (false = true) by decide)] at H; exact H
      clear H;have H := H1;clear H1;replace H := uI H;obtain ⟨c12b0, H⟩ := H;replace H := uI H;obtain ⟨c13b0, H⟩ := H;replace H := Option.bind_eq_some_iff.mp H;obtain ⟨t602, A140, H⟩ := H;have A14 := Aside0.mk A140;clear A140
      by_cases c15 : x9_1 = true
      · subst c15
        have H1 : (ductusref10_Sides.l0 k1 l0 a2 (t602 == 0) true (wrap64 (x10_1 + 1))) = some (r1, r2) := by rw [if_pos rfl] at H; exact H
        clear H;have H := H1;clear H1;have H' := Aside0.mk H;clear H;have p601 : 0 ≤ (x10_1 : Int) := uD;have q601 : x10_1 < (l0.length : Int) := uD;obtain ⟨ad601, e601, hx601_0⟩ := Kd.at_int HR0.out x10_1 p601 q601;cases e601;replace hx601_0 := (HB.out.cell (World.block_lt_of_cell? w _ hx601_0)).trans hx601_0;replace p601 := eq_true p601;replace q601 := eq_true q601
        go_wp2_with (first | (go_at_call 60; (with_reducible refine (ductusref10_Side.calls (rd l0 x10_1) t602 _ A14.out).mono ?_); rintro e w' ⟨rfl, ⟨nd, rfl⟩⟩))
        go_roundg k1
        case measure => have := HK1.out; omega
        case rel => exact ⟨((t602 == 0)), (true), (wrap64 (x10_1 + 1)), uF, uF, uF, H', ⟨by have := HK1.out; omega⟩, ⟨uB HB.out⟩⟩
      replace c15 := Bool.eq_false_iff.mpr c15;subst c15
      have H1 : ((ductusref10_Side.f (rd l0 x10_1)).bind fun t604 => (ductusref10_Sides.l0 k1 l0 a2 (t602 == 0) (t604 == 1) (wrap64 (x10_1 + 1)))) = some (r1, r2) := by rw [if_neg (show ¬ (false = true) by decide)] at H; exact H
      clear H;have H := H1;clear H1;replace H := Option.bind_eq_some_iff.mp H;obtain ⟨t604, A160, H⟩ := H;have A16 := Aside0.mk A160;clear A160;have H' := Aside0.mk H;clear H;have p601 : 0 ≤ (x10_1 : Int) := uD;have q601 : x10_1 < (l0.length : Int) := uD;obtain ⟨ad601, e601, hx601_0⟩ := Kd.at_int HR0.out x10_1 p601 q601;cases e601;replace hx601_0 := (HB.out.cell (World.block_lt_of_cell? w _ hx601_0)).trans hx601_0;replace p601 := eq_true p601;replace q601 := eq_true q601
      go_wp2_with (first | (go_at_call 60; (fail_if_success (have _ := tk_202_0)); (with_reducible refine (ductusref10_Side.calls (rd l0 x10_1) t602 _ A14.out).mono ?_); rintro e w' ⟨rfl, ⟨nd, rfl⟩⟩; have tk_202_0 : True := trivial; have p603 : 0 ≤ (x10_1 : Int) := uD; have q603 : x10_1 < (l0.length : Int) := uD; obtain ⟨ad603, e603, hx603_0⟩ := Kd.at_int HR0.out x10_1 p603 q603; obtain rfl : ad601 = ad603 := (by injection e603); replace hx603_0 := (HB.out.cell (World.block_lt_of_cell? w _ hx603_0)).trans hx603_0; replace p603 := eq_true p603; replace q603 := eq_true q603) | (go_at_call 60; (with_reducible refine (ductusref10_Side.calls (rd l0 x10_1) t604 _ A16.out).mono ?_); rintro e w' ⟨rfl, ⟨nd, rfl⟩⟩))
      go_roundg k1
      case measure => have := HK1.out; omega
      case rel => exact ⟨((t602 == 0)), ((t604 == 1)), (wrap64 (x10_1 + 1)), uF, uF, uF, H', ⟨by have := HK1.out; omega⟩, ⟨uB HB.out⟩⟩
def ductusref10_turn.l0 : Nat → List Int → List Int → Int → Int → Option (List Int)
  | 0, _, _, _, _ => none
  | k + 1, x0, x1, x3, x8 => if x8 < (x0.length : Int) then (if 0 ≤ x8 then (if x8 < (x1.length : Int) then (if (rd x1 x8) = 8 then (ductusref10_turn.l0 k (x0.set (x8 : Int).toNat x3) x1 x3 (wrap64 (x8 + 1))) else (some x0)) else (none)) else (none)) else (some x0)
def ductusref10_turn.f (k : Nat) (l0 : List Int) (l1 : List Int) (a2 : Int) (a3 : Int) : Option (List Int) := if 0 ≤ a2 then (if a2 < (l0.length : Int) then (ductusref10_turn.l0 k (l0.set (a2 : Int).toNat a3) l1 a3 (wrap64 (a2 + 1))) else (none)) else (none)
theorem ductusref10_turn.calls (k : Nat) (P0_ : Nat → Prop) (u9000_ : Value) (l0 : List Int) (A1 : Option Addr) (c1 : Nat) (l1 : List Int) (a2 : Int) (a3 : Int) (r : List Int) (w0 w : World) (hB : Below w0.heap.size w0 w) (ho0 : Kd.R (Kd.int .i64) 3 w w0.heap.size P0_ u9000_ l0) (hr1 : ∀ W_, Kept w W_ (fun k_ => P0_ k_) → Kd.C (Kd.int .i64) W_ A1 l1.length l1) (hc1 : l1.length ≤ c1) (h : ductusref10_turn.f k l0 l1 a2 a3 = some r) :
    Calls Try.prog 61 #[u9000_, .slice A1 l1.length c1, .int .i64 a2, .int .i64 a3] w fun e w' => e = .returned (.tuple #[]) ∧ Kd.R (Kd.int .i64) 3 w' w0.heap.size (fun k_ => (P0_ k_ ∨ w.heap.size ≤ k_)) u9000_ r ∧ Below w0.heap.size w0 w' ∧ Kept w w' (fun k_ => P0_ k_) := by
  have HO0 := Aside0.mk (show Kd.R (Kd.int .i64) 3 w w0.heap.size (fun k_ => (P0_ k_ ∨ w.heap.size ≤ k_)) u9000_ l0 from Kd.R_mono ho0 (fun k_ hk => (.inl hk)));have HR1 := Aside0.mk hr1;have HC1 := Aside0.mk hc1;clear hr1 hc1;have HK := Aside0.mk (Kept.refl w (fun k_ => P0_ k_));have HW0 := Aside0.mk hB.size;have HB := Aside0.mk hB;clear hB;unfold ductusref10_turn.f at h;have H := h;clear h;replace H := uI H;obtain ⟨c5b0, H⟩ := H;replace H := uI H;obtain ⟨c6b0, H⟩ := H;obtain ⟨y605, hy605⟩ : ∃ y_ : List Int, y_ = (l0.set (a2 : Int).toNat a3) := ⟨_, rfl⟩;replace H : (ductusref10_turn.l0 k y605 l1 a3 (wrap64 (a2 + 1))) = some r := uH hy605 H;have Ny605 := Aside0.mk hy605;clear hy605;have H' := Aside0.mk H;clear H;have p7 : 0 ≤ (a2 : Int) := uD;have q7 : (a2 : Int) < ((l0.length : Int) : Int) := uD;obtain ⟨go7, co7, eo7, gb7, gl7, cl7, HG7⟩ := Kd.R_form HO0.out (by omega)
  (first | cases eo7 | (injection eo7 with ea_ en_ ec_; (first | subst ea_ | (injection ea_ with ea_; subst ea_)); subst ec_; clear en_))
  have GB7 := Aside0.mk gb7;have GG7 := Aside0.mk HG7;clear gb7 gl7 HG7;have HMgo7 := Aside0.mk (show (P0_ go7 ∨ w.heap.size ≤ go7) from (HO0.out.1 _ rfl));obtain ⟨hx7_0, hf7_0⟩ := Kd.R_celln 0 HO0.out (a2 : Int) p7 q7;replace p7 := eq_true p7;replace q7 := eq_true q7;have HP8 := Kd.R_putg HO0.out (a2 : Int) a3
  go_enter Try.func61, Try.ntmps61
  go_wp2_with (first | ((with_reducible refine gate_store (t := 3) (p := 12) rfl ?_); refine store_event (t := 3) (p := 12) (v := ?vo_w9) (w1 := (w.setCell ⟨go7, (a2 : Int).toNat, none⟩ (.int .i64 a3))) ?hg ?ho ?hn ?hr ?_; (case ho => rfl); (case hg => rfl); (case hn => rfl); (case hr => exact uN); intro w9 hw; have hg : w.grownBy w9 (some go7) := (by rw [hw]; exact HP8.2); have hp_ : Kd.R (Kd.int .i64) 3 w9 w0.heap.size (fun k_ => (P0_ k_ ∨ w.heap.size ≤ k_)) (.slice (some ⟨go7, 0, none⟩) l0.length co7) y605 := (by rw [hw, Ny605.out]; exact HP8.1); clear HP8; have n_ := z3_ (hp_) ((by rw [hw]; exact below_set (HB.out) GB7.out : Below w0.heap.size w0 w9)) (Kept.of_grown (S := (fun k_ => P0_ k_)) hg (uQ HK.out) (fun k_ e_ => (HO0.out.1 k_ e_))); clear HO0 HB HK; obtain ⟨HO0, HB, HK⟩ := n_; clear hg hw hp_))
  go_loopg [8] k (fun kq v8 w' => ∃ (x0_1 : List Int) (x8_1 : Int), v8 = .int .i64 x8_1 ∧ Aside0 (ductusref10_turn.l0 kq x0_1 l1 a3 x8_1 = some r) ∧ Aside0 (kq ≤ k) ∧ Aside0 (Kd.R (Kd.int .i64) 3 w' w0.heap.size (fun k_ => (P0_ k_ ∨ w.heap.size ≤ k_)) (.slice (some ⟨go7, 0, none⟩) l0.length co7) x0_1) ∧ Aside0 (Kept w w' (fun k_ => P0_ k_)) ∧ Aside0 (Below w0.heap.size w0 w'))
  case atStart => exact ⟨(y605), (wrap64 (a2 + 1)), uF, H', ⟨Nat.le_refl _⟩, ⟨uR HO0.out⟩, ⟨uQ HK.out⟩, ⟨uB HB.out⟩⟩
  case round =>
    clear H';(try clear c1);(try clear p2);(try clear c5b0);(try clear c6b0);(try clear p6);(try clear p7);(try clear q7);(try clear hx7);(try clear hf7);(try clear hx7_0);(try clear p7);(try clear q7);obtain ⟨x0_1, x8_1, rfl, HA, HK1, HO_0, HK, HB⟩ := hrel;have hl0_1 := (Kd.R_reads' HO_0.out).1;rw [hl0_1] at HO_0;(try simp only [hl0_1])
    cases gk with
    | zero => exact absurd HA.out (by simp [ductusref10_turn.l0])
    | succ k1 =>
      have H := HA.out;clear HA;simp only [ductusref10_turn.l0] at H
      by_cases c10 : x8_1 < (x0_1.length : Int)
      rotate_left
      · rw [if_neg c10] at H
        have c10b0 := decide_eq_false c10;clear c10;obtain rfl := Option.some.inj H;go_wp2
        first | go_end0 | ((try simp only [Exit.inBlock, Exit.then]); refine bodyPost_ret (results_none rfl _ _ _) rfl ?_)
        exact ⟨uE, (by first | exact (uR HO_0.out) | (simp only [hl0_1]; exact (uR HO_0.out))), uB HB.out, uQ HK.out⟩
      rw [if_pos c10] at H;have c10b0 := decide_eq_true c10;clear c10;replace H := uI H;obtain ⟨c11b0, H⟩ := H;replace H := uI H;obtain ⟨c12b0, H⟩ := H
      by_cases c13 : (rd l1 x8_1) = 8
      rotate_left
      · rw [if_neg c13] at H
        have c13b0 := beq_eq_false_iff_ne.mpr c13;have c13b1 := bne_iff_ne.mpr c13;obtain rfl := Option.some.inj H;have p606 : 0 ≤ (x8_1 : Int) := uD;have q606 : x8_1 < (l1.length : Int) := uD;obtain ⟨ad606, e606, hx606_0⟩ := Kd.at_int (Kd.C_kept_now HR1.out HK.out) x8_1 p606 q606;cases e606;replace p606 := eq_true p606;replace q606 := eq_true q606;go_wp2
        first | go_end0 | ((try simp only [Exit.inBlock, Exit.then]); refine bodyPost_ret (results_none rfl _ _ _) rfl ?_)
        exact ⟨uE, (by first | exact (uR HO_0.out) | (simp only [hl0_1]; exact (uR HO_0.out))), uB HB.out, uQ HK.out⟩
      rw [if_pos c13] at H;have c13b0 := beq_iff_eq.mpr c13;have c13b1 := bne_eq_false_iff_eq.mpr c13;clear c13;obtain ⟨y607, hy607⟩ : ∃ y_ : List Int, y_ = (x0_1.set (x8_1 : Int).toNat a3) := ⟨_, rfl⟩;replace H : (ductusref10_turn.l0 k1 y607 l1 a3 (wrap64 (x8_1 + 1))) = some r := uH hy607 H;have Ny607 := Aside0.mk hy607;clear hy607;have H' := Aside0.mk H;clear H;have p606 : 0 ≤ (x8_1 : Int) := uD;have q606 : x8_1 < (l1.length : Int) := uD;obtain ⟨ad606, e606, hx606_0⟩ := Kd.at_int (Kd.C_kept_now HR1.out HK.out) x8_1 p606 q606;cases e606;replace p606 := eq_true p606;replace q606 := eq_true q606;have p14 : 0 ≤ (x8_1 : Int) := uD;have q14 : (x8_1 : Int) < ((x0_1.length : Int) : Int) := uD;obtain ⟨hx14_0, hf14_0⟩ := Kd.R_celln 0 HO_0.out (x8_1 : Int) p14 q14;replace p14 := eq_true p14;replace q14 := eq_true q14;have HP15 := Kd.R_putg HO_0.out (x8_1 : Int) a3
      go_wp2_with (first | ((with_reducible refine gate_store (t := 3) (p := 31) rfl ?_); refine store_event (t := 3) (p := 31) (v := ?vo_w16) (w1 := (wr.setCell ⟨go7, (x8_1 : Int).toNat, none⟩ (.int .i64 a3))) ?hg ?ho ?hn ?hr ?_; (case ho => rfl); (case hg => rfl); (case hn => rfl); (case hr => exact uN); intro w16 hw; have hg : wr.grownBy w16 (some go7) := (by rw [hw]; exact HP15.2); have hp_ : Kd.R (Kd.int .i64) 3 w16 w0.heap.size (fun k_ => (P0_ k_ ∨ w.heap.size ≤ k_)) (.slice (some ⟨go7, 0, none⟩) x0_1.length co7) y607 := (by rw [hw, Ny607.out]; exact HP15.1); clear HP15; have n_ := z3_ (hp_) ((by rw [hw]; exact below_set (HB.out) GB7.out : Below w0.heap.size w0 w16)) (Kept.of_grown (S := (fun k_ => P0_ k_)) hg (uQ HK.out) (fun k_ e_ => (HO_0.out.1 k_ e_))); clear HO_0 HB HK; obtain ⟨HO_0, HB, HK⟩ := n_; clear hg hw hp_))
      (try simp only [← hl0_1]);go_roundg k1
      case measure => have := HK1.out; omega
      case rel => exact ⟨(y607), (wrap64 (x8_1 + 1)), uF, H', ⟨by have := HK1.out; omega⟩, ⟨by (try simp only [hl0_1]); (with_reducible repeat (first | apply Kd.R_alloc | apply Kd.R_drewN | apply Kd.R_drew)); exact HO_0.out⟩, ⟨uQ HK.out⟩, ⟨uB HB.out⟩⟩
end Go.Proofs.Ytmjipbmpapcboaa.P
