/- Proved: the theorems below, each under its own conditions. -/
import Derived.Test.YtmjipbmpapcboaaC13
import Derived.Test.YtmjipbmpapcboaaC14
import Derived.Test.YtmjipbmpapcboaaC15
namespace Go.Proofs.Ytmjipbmpapcboaa.P
open Go.RowKit Go.Proofs.YtmjipbmpapcboaaW.PrintWords Go.Proofs.YtmjipbmpapcboaaW.PrintLast Go.Proofs.YtmjipbmpapcboaaW.PrintMore
attribute [local go_sem] max2_int min2_int max_two min_two
set_option linter.unusedVariables false
set_option maxHeartbeats 8000000
set_option maxRecDepth 100000
set_option linter.unusedSimpArgs false
mutual
def ductusref05_Match.l0 : Nat → List Int → List Int → Int → Option (List Int)
  | 0, _, _, _ => none
  | k + 1, x0, x3, x4 => if x4 < (x0.length : Int) then (if 0 ≤ x4 then (if x4 < (x3.length : Int) then (ductusref05_Match.l0 k x0 (x3.set (x4 : Int).toNat (-1)) (wrap64 (x4 + 1))) else (none)) else (none)) else (ductusref05_Match.l1 k x0 x3 0)
def ductusref05_Match.l1 : Nat → List Int → List Int → Int → Option (List Int)
  | 0, _, _, _ => none
  | k + 1, x0, x3, x5 => if x5 < (x0.length : Int) then (if 0 ≤ x5 then ((ductusref02_Opens.f (rd x0 x5)).bind fun t375 => (if t375 = true then ((ductusref05_End.f k x0 x5).bind fun t376 => (if x5 < (x3.length : Int) then ((some (x3.set (x5 : Int).toNat t376 : List Int)).bind fun y377 => (if t376 ≥ 0 then (if 0 ≤ t376 then (if t376 < (x3.length : Int) then (ductusref05_Match.l1 k x0 (y377.set (t376 : Int).toNat x5) (wrap64 (x5 + 1))) else (none)) else (none)) else (ductusref05_Match.l1 k x0 y377 (wrap64 (x5 + 1))))) else (none))) else (ductusref05_Match.l1 k x0 x3 (wrap64 (x5 + 1))))) else (none)) else (some x3)
end
def ductusref05_Match.f (k : Nat) (l0 : List Int) : Option (List Int) := if 0 ≤ (l0.length : Int) then (if ((l0.length : Int) : Int).toNat ≤ 35184372088832 then (ductusref05_Match.l0 k l0 (List.replicate ((l0.length : Int) : Int).toNat 0) 0) else (none)) else (none)
theorem ductusref05_Match.calls (k : Nat) (A0 : Option Addr) (c0 : Nat) (l0 : List Int) (r : List Int) (w : World) (hr0 : Kd.C (Kd.int .i64) w A0 l0.length l0) (hc0 : l0.length ≤ c0) (h : ductusref05_Match.f k l0 = some r) :
    Calls Try.prog 52 #[.slice A0 l0.length c0] w fun e w' => ∃ v0_ : Value, e = .returned (v0_) ∧ Kd.R (Kd.int .i64) 3 w' w.heap.size (fun _ => True) v0_ r ∧ Below w.heap.size w w' := by
  have HR0 := Aside0.mk hr0;have HC0 := Aside0.mk hc0;clear hr0 hc0;have HB := Aside0.mk (Below.refl w.heap.size w);unfold ductusref05_Match.f at h;have H := h;clear h;replace H := uP H;obtain ⟨c2, H⟩ := H;have c2b0 := eq_true c2;have c2b1 := decide_eq_true c2;clear c2;replace H := uP H;obtain ⟨c3, H⟩ := H;have c3b0 := eq_true c3;have c3b1 := decide_eq_true c3;clear c3;obtain ⟨y370, hy370⟩ : ∃ y_ : List Int, y_ = (List.replicate ((l0.length : Int) : Int).toNat 0) := ⟨_, rfl⟩;replace H : (ductusref05_Match.l0 k l0 y370 0) = some r := uH hy370 H;have Ny370 := Aside0.mk hy370;clear hy370;have H' := Aside0.mk H;clear H
  go_enter Try.func52, Try.ntmps52
  go_wp2_with (first | ((with_reducible refine gate_dst (N := 9) rfl ?_); refine Kd.R_make (Kd.int .i64) _ 3 rfl (N := 9) rfl 22 _ _ rfl (l0.length : Int) rfl rfl Try.underlying22 (.int .i64 0) 8 info3 rfl (by decide) (by omega) 0 (ok := fun _ => True) (okp := fun _ => True) rfl (fun _ hk => hk) trivial (uD) (Nat.le_trans (Nat.mul_le_mul_right _ (uD : (l0.length : Int).toNat ≤ 35184372088832)) (by omega)) (Below.refl _ _) (Nat.le_refl _) ?_; intro v371 w4 ho5 hb hg_ hnew_; clear hg_ hnew_; (first | rw [← Ny370.out] at ho5 | (simp only [Int.reduceToNat] at ho5; rw [← Ny370.out] at ho5)); have n_ := z2_ (Kd.R_lower ho5 (below_size (uB HB.out))) (below_step (uB HB.out) hb); clear HB; obtain ⟨HO372, HB⟩ := n_; clear hb ho5))
  go_loopg [4] k (fun kq v4 w' => ∃ (x3_1 : List Int) (x4_1 : Int), v4 = .int .i64 x4_1 ∧ Aside0 (ductusref05_Match.l0 kq l0 x3_1 x4_1 = some r) ∧ Aside0 (kq ≤ k) ∧ Aside0 (Kd.R (Kd.int .i64) 3 w' w.heap.size (fun _ => True) v371 x3_1) ∧ Aside0 (Below w.heap.size w w'))
  case atStart => exact ⟨(y370), (0), uF, H', ⟨Nat.le_refl _⟩, ⟨uR HO372.out⟩, ⟨uB HB.out⟩⟩
  case round =>
    clear H';(try clear c2b0);(try clear c2b1);(try clear p2);(try clear c3b0);(try clear c3b1);(try clear c5);obtain ⟨x3_1, x4_1, rfl, HA, HK1, HO_3, HB⟩ := hrel
    cases gk with
    | zero => exact absurd HA.out (by simp [ductusref05_Match.l0])
    | succ k1 =>
      have H := HA.out;clear HA;simp only [ductusref05_Match.l0] at H
      by_cases c6 : x4_1 < (l0.length : Int)
      · rw [if_pos c6] at H
        have c6b0 := decide_eq_true c6;clear c6;replace H := uI H;obtain ⟨c7b0, H⟩ := H;replace H := uI H;obtain ⟨c8b0, H⟩ := H;obtain ⟨y373, hy373⟩ : ∃ y_ : List Int, y_ = (x3_1.set (x4_1 : Int).toNat (-1)) := ⟨_, rfl⟩;replace H : (ductusref05_Match.l0 k1 l0 y373 (wrap64 (x4_1 + 1))) = some r := uH hy373 H;have Ny373 := Aside0.mk hy373;clear hy373;have H' := Aside0.mk H;clear H;have p9 : 0 ≤ (x4_1 : Int) := uD;have q9 : (x4_1 : Int) < ((x3_1.length : Int) : Int) := uD;obtain ⟨go9, co9, eo9, gb9, gl9, cl9, HG9⟩ := Kd.R_form HO_3.out (by omega)
        (first | cases eo9 | (injection eo9 with ea_ en_ ec_; (first | subst ea_ | (injection ea_ with ea_; subst ea_)); subst ec_; clear en_))
        have GB9 := Aside0.mk gb9;have GG9 := Aside0.mk HG9;clear gb9 gl9 HG9;obtain ⟨hx9_0, hf9_0⟩ := Kd.R_celln 0 HO_3.out (x4_1 : Int) p9 q9;replace p9 := eq_true p9;replace q9 := eq_true q9;have HP10 := Kd.R_putg HO_3.out (x4_1 : Int) (-1)
        go_wp2_with (first | ((with_reducible refine gate_store (t := 3) (p := 18) rfl ?_); refine store_event (t := 3) (p := 18) (v := ?vo_w11) (w1 := (wr.setCell ⟨go9, (x4_1 : Int).toNat, none⟩ (.int .i64 (-1)))) ?hg ?ho ?hn ?hr ?_; (case ho => rfl); (case hg => rfl); (case hn => rfl); (case hr => exact uN); intro w11 hw; have hg : wr.grownBy w11 (some go9) := (by rw [hw]; exact HP10.2); have hp_ : Kd.R (Kd.int .i64) 3 w11 w.heap.size (fun _ => True) (.slice (some ⟨go9, 0, none⟩) x3_1.length co9) y373 := (by rw [hw, Ny373.out]; exact HP10.1); clear HP10; have n_ := z2_ (hp_) ((by rw [hw]; exact below_set (HB.out) GB9.out : Below w.heap.size w w11)); clear HO_3 HB; obtain ⟨HO_3, HB⟩ := n_; clear hg hw hp_))
        go_roundg k1
        case measure => have := HK1.out; omega
        case rel => exact ⟨(y373), (wrap64 (x4_1 + 1)), uF, H', ⟨by have := HK1.out; omega⟩, ⟨uR HO_3.out⟩, ⟨uB HB.out⟩⟩
      rw [if_neg c6] at H;have c6b0 := decide_eq_false c6;clear c6;have H' := Aside0.mk H;clear H;go_wp2
      go_loopg [5] k1 (fun kq v5 w' => ∃ (x3_2 : List Int) (x5_2 : Int), v5 = .int .i64 x5_2 ∧ Aside0 (ductusref05_Match.l1 kq l0 x3_2 x5_2 = some r) ∧ Aside0 (kq ≤ k1) ∧ Aside0 (Kd.R (Kd.int .i64) 3 w' w.heap.size (fun _ => True) v371 x3_2) ∧ Aside0 (Below w.heap.size w w'))
      case atStart => exact ⟨(x3_1), (0), uF, H', ⟨Nat.le_refl _⟩, ⟨uR HO_3.out⟩, ⟨uB HB.out⟩⟩
      case round =>
        clear H';(try clear c2b0);(try clear c2b1);(try clear p2);(try clear c3b0);(try clear c3b1);(try clear c5);(try clear c6b0);(try clear p6);(try clear c7b0);(try clear c8b0);(try clear p9);(try clear q9);(try clear hx9);(try clear hf9);(try clear hx9_0);(try clear p2);(try clear p9);(try clear q9);obtain ⟨x3_2, x5_2, rfl, HA, HK2, HO_3, HB⟩ := hrel
        cases gk with
        | zero => exact absurd HA.out (by simp [ductusref05_Match.l1])
        | succ k2 =>
          have H := HA.out;clear HA;simp only [ductusref05_Match.l1] at H
          by_cases c12 : x5_2 < (l0.length : Int)
          rotate_left
          · rw [if_neg c12] at H
            have c12b0 := decide_eq_false c12;clear c12;obtain rfl := Option.some.inj H;go_wp2;go_ret;exact ⟨_, uE, uR HO_3.out, uB HB.out⟩
          rw [if_pos c12] at H;have c12b0 := decide_eq_true c12;clear c12;replace H := uI H;obtain ⟨c13b0, H⟩ := H;replace H := Option.bind_eq_some_iff.mp H;obtain ⟨t375, A140, H⟩ := H;have A14 := Aside0.mk A140;clear A140
          by_cases c15 : t375 = true
          rotate_left
          · replace c15 := Bool.eq_false_iff.mpr c15
            subst c15
            have H1 : (ductusref05_Match.l1 k2 l0 x3_2 (wrap64 (x5_2 + 1))) = some r := by rw [if_neg (show ¬ (false = true) by decide)] at H; exact H
            clear H;have H := H1;clear H1;have H' := Aside0.mk H;clear H;have p374 : 0 ≤ (x5_2 : Int) := uD;have q374 : x5_2 < (l0.length : Int) := uD;obtain ⟨ad374, e374, hx374_0⟩ := Kd.at_int HR0.out x5_2 p374 q374;cases e374;replace hx374_0 := (HB.out.cell (World.block_lt_of_cell? w _ hx374_0)).trans hx374_0;replace p374 := eq_true p374;replace q374 := eq_true q374
            go_wp2_with (first | ((with_reducible refine gate_callee (f := 22) rfl ?_); refine gL 29 Try.func22 #[.int .i64 (rd l0 x5_2)] ?_; (with_reducible refine (ductusref02_Opens.calls (rd l0 x5_2) false _ A14.out).mono ?_); rintro e w' ⟨rfl, ⟨nd, rfl⟩⟩; refine ⟨_, rfl, ?_⟩))
            go_roundg k2
            case measure => have := HK1.out; have := HK2.out; omega
            case rel => exact ⟨(x3_2), (wrap64 (x5_2 + 1)), uF, H', ⟨by have := HK1.out; have := HK2.out; omega⟩, ⟨uR HO_3.out⟩, ⟨uB HB.out⟩⟩
          subst c15
          have H1 : ((ductusref05_End.f k2 l0 x5_2).bind fun t376 => (if x5_2 < (x3_2.length : Int) then ((some (x3_2.set (x5_2 : Int).toNat t376 : List Int)).bind fun y377 => (if t376 ≥ 0 then (if 0 ≤ t376 then (if t376 < (x3_2.length : Int) then (ductusref05_Match.l1 k2 l0 (y377.set (t376 : Int).toNat x5_2) (wrap64 (x5_2 + 1))) else (none)) else (none)) else (ductusref05_Match.l1 k2 l0 y377 (wrap64 (x5_2 + 1))))) else (none))) = some r := by rw [if_pos rfl] at H; exact H
          clear H;have H := H1;clear H1;replace H := Option.bind_eq_some_iff.mp H;obtain ⟨t376, A160, H⟩ := H;have A16 := Aside0.mk A160;clear A160;replace H := uI H;obtain ⟨c17b0, H⟩ := H;obtain ⟨y377, hy377⟩ : ∃ y_ : List Int, y_ = (x3_2.set (x5_2 : Int).toNat t376) := ⟨_, rfl⟩;replace H : (if t376 ≥ 0 then (if 0 ≤ t376 then (if t376 < (x3_2.length : Int) then (ductusref05_Match.l1 k2 l0 (y377.set (t376 : Int).toNat x5_2) (wrap64 (x5_2 + 1))) else (none)) else (none)) else (ductusref05_Match.l1 k2 l0 y377 (wrap64 (x5_2 + 1)))) = some r := uH hy377 H;have Ny377 := Aside0.mk hy377;clear hy377
          by_cases c19 : t376 ≥ 0
          rotate_left
          · rw [if_neg c19] at H
            have c19b0 : decide (0 ≤ t376) = false := decide_eq_false c19;clear c19;have H' := Aside0.mk H;clear H;have p374 : 0 ≤ (x5_2 : Int) := uD;have q374 : x5_2 < (l0.length : Int) := uD;obtain ⟨ad374, e374, hx374_0⟩ := Kd.at_int HR0.out x5_2 p374 q374;cases e374;replace hx374_0 := (HB.out.cell (World.block_lt_of_cell? w _ hx374_0)).trans hx374_0;replace p374 := eq_true p374;replace q374 := eq_true q374
            go_wp2_with (first | ((with_reducible refine gate_callee (f := 22) rfl ?_); refine gL 29 Try.func22 #[.int .i64 (rd l0 x5_2)] ?_; (with_reducible refine (ductusref02_Opens.calls (rd l0 x5_2) true _ A14.out).mono ?_); rintro e w' ⟨rfl, ⟨nd, rfl⟩⟩; refine ⟨_, rfl, ?_⟩; (try (rw [drewN_self wr]; generalize hq_ : World.drewN wr _ = wr; have n0_ : Aside0 (Kd.R (Kd.int .i64) 3 wr w.heap.size (fun _ => True) v371 x3_2) := ⟨by rw [← hq_]; exact (uR HO_3.out)⟩; have n1_ : Aside0 (Below w.heap.size w wr) := ⟨by rw [← hq_]; exact (uB HB.out)⟩; clear HO_3 HB hq_; have HO_3 := n0_; have HB := n1_; clear n0_ n1_))) | ((with_reducible refine gate_callee (f := 65) rfl ?_); refine gL 32 Try.func65 #[.slice (some ad374) l0.length c0, .int .i64 x5_2] ?_; (with_reducible refine (ductusref05_End.calls k2 _ _ l0 x5_2 t376 _ ?side1 ?side2 A16.out).mono ?_); (case side1 => exact uC (Kd.C_below HR0.out HB.out)); (case side2 => exact HC0.out); rintro e w' ⟨rfl, ⟨nd, rfl⟩⟩; refine ⟨_, rfl, ?_⟩; (try (rw [drewN_self wr]; generalize hq_ : World.drewN wr _ = wr; have n0_ : Aside0 (Kd.R (Kd.int .i64) 3 wr w.heap.size (fun _ => True) v371 x3_2) := ⟨by rw [← hq_]; exact (uR HO_3.out)⟩; have n1_ : Aside0 (Below w.heap.size w wr) := ⟨by rw [← hq_]; exact (uB HB.out)⟩; clear HO_3 HB hq_; have HO_3 := n0_; have HB := n1_; clear n0_ n1_)); have p18 : 0 ≤ (x5_2 : Int) := uD; have q18 : (x5_2 : Int) < ((x3_2.length : Int) : Int) := uD; obtain ⟨go18, co18, eo18, gb18, gl18, cl18, HG18⟩ := Kd.R_form HO_3.out (by omega); (first | cases eo18 | (injection eo18 with ea_ en_ ec_; (first | subst ea_ | (injection ea_ with ea_; subst ea_)); subst ec_; clear en_)); have GB18 := Aside0.mk gb18; have GG18 := Aside0.mk HG18; clear gb18 gl18 HG18; obtain ⟨hx18_0, hf18_0⟩ := Kd.R_celln 0 HO_3.out (x5_2 : Int) p18 q18; replace p18 := eq_true p18; replace q18 := eq_true q18; obtain ⟨hy27_, hz27_⟩ := Kd.R_celln 0 HO_3.out (x5_2 : Int) (uD) (uD); have HP27 := Kd.R_putg HO_3.out (x5_2 : Int) t376) | ((with_reducible refine gate_store (t := 3) (p := 36) rfl ?_); refine store_event (t := 3) (p := 36) (v := ?vo_w28) (w1 := (wr.setCell ⟨go18, (x5_2 : Int).toNat, none⟩ (.int .i64 t376))) ?hg ?ho ?hn ?hr ?_; (case ho => rfl); (case hg => rfl); (case hn => rfl); (case hr => exact uN); intro w28 hw; have hg : wr.grownBy w28 (some go18) := (by rw [hw]; exact HP27.2); have hp_ : Kd.R (Kd.int .i64) 3 w28 w.heap.size (fun _ => True) (.slice (some ⟨go18, 0, none⟩) x3_2.length co18) y377 := (by rw [hw, Ny377.out]; exact HP27.1); clear HP27; have n_ := z2_ (hp_) ((by rw [hw]; exact below_set (HB.out) GB18.out : Below w.heap.size w w28)); clear HO_3 HB; obtain ⟨HO_3, HB⟩ := n_; clear hg hw hp_))
            go_roundg k2
            case measure => have := HK1.out; have := HK2.out; omega
            case rel => exact ⟨(y377), (wrap64 (x5_2 + 1)), uF, H', ⟨by have := HK1.out; have := HK2.out; omega⟩, ⟨uR HO_3.out⟩, ⟨uB HB.out⟩⟩
          rw [if_pos c19] at H;have c19b0 : decide (0 ≤ t376) = true := decide_eq_true c19;clear c19;replace H := uI H;obtain ⟨c20b0, H⟩ := H;replace H := uI H;obtain ⟨c21b0, H⟩ := H;obtain ⟨y378, hy378⟩ : ∃ y_ : List Int, y_ = (y377.set (t376 : Int).toNat x5_2) := ⟨_, rfl⟩;replace H : (ductusref05_Match.l1 k2 l0 y378 (wrap64 (x5_2 + 1))) = some r := uH hy378 H;have Ny378 := Aside0.mk hy378;clear hy378;have H' := Aside0.mk H;clear H;have p374 : 0 ≤ (x5_2 : Int) := uD;have q374 : x5_2 < (l0.length : Int) := uD;obtain ⟨ad374, e374, hx374_0⟩ := Kd.at_int HR0.out x5_2 p374 q374;cases e374;replace hx374_0 := (HB.out.cell (World.block_lt_of_cell? w _ hx374_0)).trans hx374_0;replace p374 := eq_true p374;replace q374 := eq_true q374
          go_wp2_with (first | ((with_reducible refine gate_callee (f := 22) rfl ?_); refine gL 29 Try.func22 #[.int .i64 (rd l0 x5_2)] ?_; (with_reducible refine (ductusref02_Opens.calls (rd l0 x5_2) true _ A14.out).mono ?_); rintro e w' ⟨rfl, ⟨nd, rfl⟩⟩; refine ⟨_, rfl, ?_⟩; (try (rw [drewN_self wr]; generalize hq_ : World.drewN wr _ = wr; have n0_ : Aside0 (Kd.R (Kd.int .i64) 3 wr w.heap.size (fun _ => True) v371 x3_2) := ⟨by rw [← hq_]; exact (uR HO_3.out)⟩; have n1_ : Aside0 (Below w.heap.size w wr) := ⟨by rw [← hq_]; exact (uB HB.out)⟩; clear HO_3 HB hq_; have HO_3 := n0_; have HB := n1_; clear n0_ n1_))) | ((with_reducible refine gate_callee (f := 65) rfl ?_); refine gL 32 Try.func65 #[.slice (some ad374) l0.length c0, .int .i64 x5_2] ?_; (with_reducible refine (ductusref05_End.calls k2 _ _ l0 x5_2 t376 _ ?side1 ?side2 A16.out).mono ?_); (case side1 => exact uC (Kd.C_below HR0.out HB.out)); (case side2 => exact HC0.out); rintro e w' ⟨rfl, ⟨nd, rfl⟩⟩; refine ⟨_, rfl, ?_⟩; (try (rw [drewN_self wr]; generalize hq_ : World.drewN wr _ = wr; have n0_ : Aside0 (Kd.R (Kd.int .i64) 3 wr w.heap.size (fun _ => True) v371 x3_2) := ⟨by rw [← hq_]; exact (uR HO_3.out)⟩; have n1_ : Aside0 (Below w.heap.size w wr) := ⟨by rw [← hq_]; exact (uB HB.out)⟩; clear HO_3 HB hq_; have HO_3 := n0_; have HB := n1_; clear n0_ n1_)); have p18 : 0 ≤ (x5_2 : Int) := uD; have q18 : (x5_2 : Int) < ((x3_2.length : Int) : Int) := uD; obtain ⟨go18, co18, eo18, gb18, gl18, cl18, HG18⟩ := Kd.R_form HO_3.out (by omega); (first | cases eo18 | (injection eo18 with ea_ en_ ec_; (first | subst ea_ | (injection ea_ with ea_; subst ea_)); subst ec_; clear en_)); have GB18 := Aside0.mk gb18; have GG18 := Aside0.mk HG18; clear gb18 gl18 HG18; obtain ⟨hx18_0, hf18_0⟩ := Kd.R_celln 0 HO_3.out (x5_2 : Int) p18 q18; replace p18 := eq_true p18; replace q18 := eq_true q18; obtain ⟨hy23_, hz23_⟩ := Kd.R_celln 0 HO_3.out (x5_2 : Int) (uD) (uD); have HP23 := Kd.R_putg HO_3.out (x5_2 : Int) t376) | ((with_reducible refine gate_store (t := 3) (p := 36) rfl ?_); refine store_event (t := 3) (p := 36) (v := ?vo_w24) (w1 := (wr.setCell ⟨go18, (x5_2 : Int).toNat, none⟩ (.int .i64 t376))) ?hg ?ho ?hn ?hr ?_; (case ho => rfl); (case hg => rfl); (case hn => rfl); (case hr => exact uN); intro w24 hw; have hg : wr.grownBy w24 (some go18) := (by rw [hw]; exact HP23.2); have hp_ : Kd.R (Kd.int .i64) 3 w24 w.heap.size (fun _ => True) (.slice (some ⟨go18, 0, none⟩) x3_2.length co18) y377 := (by rw [hw, Ny377.out]; exact HP23.1); clear HP23; have n_ := z2_ (hp_) ((by rw [hw]; exact below_set (HB.out) GB18.out : Below w.heap.size w w24)); clear HO_3 HB; obtain ⟨HO_3, HB⟩ := n_; clear hg hw hp_; have p22 : 0 ≤ (t376 : Int) := uD; have q22 : (t376 : Int) < ((x3_2.length : Int) : Int) := uD; obtain ⟨hx22_0, hf22_0⟩ := Kd.R_celln 0 HO_3.out (t376 : Int) p22 q22; replace p22 := eq_true p22; replace q22 := eq_true q22; obtain ⟨hy25_, hz25_⟩ := Kd.R_celln 0 HO_3.out (t376 : Int) (uD) (uD); have HP25 := Kd.R_putg HO_3.out (t376 : Int) x5_2) | ((with_reducible refine gate_store (t := 3) (p := 42) rfl ?_); refine store_event (t := 3) (p := 42) (v := ?vo_w26) (w1 := (w24.setCell ⟨go18, (t376 : Int).toNat, none⟩ (.int .i64 x5_2))) ?hg ?ho ?hn ?hr ?_; (case ho => rfl); (case hg => rfl); (case hn => rfl); (case hr => exact uN); intro w26 hw; have hg : w24.grownBy w26 (some go18) := (by rw [hw]; exact HP25.2); have hp_ : Kd.R (Kd.int .i64) 3 w26 w.heap.size (fun _ => True) (.slice (some ⟨go18, 0, none⟩) x3_2.length co18) y378 := (by rw [hw, Ny378.out]; exact HP25.1); clear HP25; have n_ := z2_ (hp_) ((by rw [hw]; exact below_set (HB.out) GB18.out : Below w.heap.size w w26)); clear HO_3 HB; obtain ⟨HO_3, HB⟩ := n_; clear hg hw hp_))
          go_roundg k2
          case measure => have := HK1.out; have := HK2.out; omega
          case rel => exact ⟨(y378), (wrap64 (x5_2 + 1)), uF, H', ⟨by have := HK1.out; have := HK2.out; omega⟩, ⟨uR HO_3.out⟩, ⟨uB HB.out⟩⟩
mutual
def ductusref08_next.j0 : Nat → List (List Int) → List Int → Int → Bool → Option (Int)
  | 0, _, _, _, _ => none
  | k + 1, x1, x2, x9, x35 => if x35 = true then (some (-1)) else (ductusref08_next.l0 k x1 x2 x9 0)
def ductusref08_next.l0 : Nat → List (List Int) → List Int → Int → Int → Option (Int)
  | 0, _, _, _, _ => none
  | k + 1, x1, x2, x9, x10 => if x10 < (x1.length : Int) then (if 0 ≤ x10 then (if 0 < ((rd_L2 x1 x10).length : Int) then (if 0 ≤ x9 then (if x9 < (x2.length : Int) then (if (rd (rd_L2 x1 x10) 0) = (rd x2 x9) then (some x10) else (ductusref08_next.l0 k x1 x2 x9 (wrap64 (x10 + 1)))) else (none)) else (none)) else (none)) else (none)) else (some (-1))
end
def ductusref08_next.f (k : Nat) (l0 : List Int) (l1 : List (List Int)) (l2 : List Int) (a3 : Int) : Option (Int) := if 0 ≤ a3 then (if a3 < (l1.length : Int) then (if 0 ≤ (wrap64 (((rd_L2 l1 a3).length : Int) - 1)) then (if (wrap64 (((rd_L2 l1 a3).length : Int) - 1)) < ((rd_L2 l1 a3).length : Int) then (if 0 ≤ (rd (rd_L2 l1 a3) (wrap64 (((rd_L2 l1 a3).length : Int) - 1))) then (if (rd (rd_L2 l1 a3) (wrap64 (((rd_L2 l1 a3).length : Int) - 1))) < (l0.length : Int) then ((ductusref02_Opens.f (rd l0 (rd (rd_L2 l1 a3) (wrap64 (((rd_L2 l1 a3).length : Int) - 1))))).bind fun t383 => (if t383 = true then (if (rd (rd_L2 l1 a3) (wrap64 (((rd_L2 l1 a3).length : Int) - 1))) < (l2.length : Int) then (ductusref08_next.j0 k l1 l2 (rd (rd_L2 l1 a3) (wrap64 (((rd_L2 l1 a3).length : Int) - 1))) (decide ((rd l2 (rd (rd_L2 l1 a3) (wrap64 (((rd_L2 l1 a3).length : Int) - 1)))) < 0))) else (none)) else (ductusref08_next.j0 k l1 l2 (rd (rd_L2 l1 a3) (wrap64 (((rd_L2 l1 a3).length : Int) - 1))) true))) else (none)) else (none)) else (none)) else (none)) else (none)) else (none)
theorem ductusref08_next.calls (k : Nat) (A0 : Option Addr) (c0 : Nat) (l0 : List Int) (A1 : Option Addr) (c1 : Nat) (l1 : List (List Int)) (A2 : Option Addr) (c2 : Nat) (l2 : List Int) (a3 : Int) (r : Int) (w : World) (hr0 : Kd.C (Kd.int .i64) w A0 l0.length l0) (hc0 : l0.length ≤ c0) (hr1 : Kd.C (Kd.slice 3 (Kd.int .i64)) w A1 l1.length l1) (hc1 : l1.length ≤ c1) (hr2 : Kd.C (Kd.int .i64) w A2 l2.length l2) (hc2 : l2.length ≤ c2) (h : ductusref08_next.f k l0 l1 l2 a3 = some r) :
    Calls Try.prog 53 #[.slice A0 l0.length c0, .slice A1 l1.length c1, .slice A2 l2.length c2, .int .i64 a3] w fun e w' => e = .returned (.int .i64 r) ∧ Drawn0 w w' := by
  have HR0 := Aside0.mk hr0;have HC0 := Aside0.mk hc0;clear hr0 hc0;have HR1 := Aside0.mk hr1;have HC1 := Aside0.mk hc1;clear hr1 hc1;have HR2 := Aside0.mk hr2;have HC2 := Aside0.mk hc2;clear hr2 hc2;unfold ductusref08_next.f at h;have H := h;clear h;replace H := uI H;obtain ⟨c5b0, H⟩ := H;replace H := uI H;obtain ⟨c6b0, H⟩ := H;obtain ⟨ji7, hji7⟩ : ∃ j_ : Int, (wrap64 (((rd_L2 l1 a3).length : Int) - 1)) = j_ := ⟨_, rfl⟩
  replace H : (if 0 ≤ (ji7) then (if (ji7) < ((rd_L2 l1 a3).length : Int) then (if 0 ≤ (rd (rd_L2 l1 a3) (ji7)) then (if (rd (rd_L2 l1 a3) (ji7)) < (l0.length : Int) then ((ductusref02_Opens.f (rd l0 (rd (rd_L2 l1 a3) (ji7)))).bind fun t383 => (if t383 = true then (if (rd (rd_L2 l1 a3) (ji7)) < (l2.length : Int) then (ductusref08_next.j0 k l1 l2 (rd (rd_L2 l1 a3) (ji7)) (decide ((rd l2 (rd (rd_L2 l1 a3) (ji7))) < 0))) else (none)) else (ductusref08_next.j0 k l1 l2 (rd (rd_L2 l1 a3) (ji7)) true))) else (none)) else (none)) else (none)) else (none)) = some r := by first | (rw [hji7] at H; exact H) | (simp only [hji7] at H ⊢; exact H)
  have hji7w : (IntKind.i64.wrap (((rd_L2 l1 a3).length : Int) - 1)) = ji7 := (i64_w _).trans hji7;replace H := uI H;obtain ⟨c8b0, H⟩ := H;replace H := uI H;obtain ⟨c9b0, H⟩ := H;have HC10 := Aside0.mk H;clear H;have p379 : 0 ≤ (a3 : Int) := uD;have q379 : a3 < (l1.length : Int) := uD;obtain ⟨ad379, A379_0, c379_0, e379, hx379_0, hl379_0, hi379_0⟩ := at_L2 HR1.out a3 p379 q379;cases e379;have HR379_0 := Aside0.mk hi379_0;have HC379_0 := Aside0.mk hl379_0;clear hi379_0 hl379_0;replace p379 := eq_true p379;replace q379 := eq_true q379;have p380 : 0 ≤ (a3 : Int) := uD;have q380 : a3 < (l1.length : Int) := uD;obtain ⟨ad380, A380_0, c380_0, e380, hx380_0, hl380_0, hi380_0⟩ := at_L2 HR1.out a3 p380 q380;obtain rfl : ad379 = ad380 := (by injection e380);have HR380_0 := Aside0.mk hi380_0;have HC380_0 := Aside0.mk hl380_0;clear hi380_0 hl380_0;replace p380 := eq_true p380;replace q380 := eq_true q380;have ea_ := Option.some.inj (hx379_0.symm.trans hx380_0)
  injection ea_ with ea_ en_ ec_
  subst ea_;subst ec_;clear en_;have p381 : 0 ≤ ((ji7) : Int) := uD;have q381 : (ji7) < ((rd_L2 l1 a3).length : Int) := uD;obtain ⟨ad381, e381, hx381_0⟩ := Kd.at_int HR379_0.out (ji7) p381 q381;cases e381;replace p381 := eq_true p381;replace q381 := eq_true q381
  go_enter Try.func53, Try.ntmps53
  go_upto_region 2 with (fail)
  repeat (go_quiet (fail); go_upto_region 2 with (fail))
  go_cut [35] (fun v35 wc => ∃ (kq : Nat) (x35_9 : Bool), v35 = .bool x35_9 ∧ Aside0 (ductusref08_next.j0 kq l1 l2 (rd (rd_L2 l1 a3) (ji7)) x35_9 = some r) ∧ Aside0 (kq ≤ k) ∧ Drawn0 w wc)
  case first =>
    have H := HC10.out;clear HC10;replace H := uI H;obtain ⟨c11b0, H⟩ := H
    (first | rw [c11b0] | (simp only [i64_w, i32_w]; rw [c11b0]) | skip)
    replace H := uI H;obtain ⟨c12b0, H⟩ := H;replace H := Option.bind_eq_some_iff.mp H;obtain ⟨t383, A130, H⟩ := H;have A13 := Aside0.mk A130;clear A130
    by_cases c14 : t383 = true
    rotate_left
    · replace c14 := Bool.eq_false_iff.mpr c14
      subst c14
      have H1 : (ductusref08_next.j0 k l1 l2 (rd (rd_L2 l1 a3) (ji7)) true) = some r := by rw [if_neg (show ¬ (false = true) by decide)] at H; exact H
      clear H;have H := H1;clear H1;have H' := Aside0.mk H;clear H;have p382 : 0 ≤ ((rd (rd_L2 l1 a3) (ji7)) : Int) := uD;have q382 : (rd (rd_L2 l1 a3) (ji7)) < (l0.length : Int) := uD;obtain ⟨ad382, e382, hx382_0⟩ := Kd.at_int HR0.out (rd (rd_L2 l1 a3) (ji7)) p382 q382;cases e382;replace p382 := eq_true p382;replace q382 := eq_true q382
      go_wp2_with (first | (go_at_call 22; (with_reducible refine (ductusref02_Opens.calls (rd l0 (rd (rd_L2 l1 a3) (ji7))) false _ A13.out).mono ?_); rintro e w' ⟨rfl, ⟨nd, rfl⟩⟩; (try first | exact ⟨rfl, _, World.drewN_drewN _ _ _⟩ | exact ⟨rfl, _, Eq.trans (World.drewN_drewN _ _ _) (congrArg (World.drewN _) (Nat.add_assoc _ _ _))⟩)))
      repeat (go_quiet (first | (go_at_call 22; (with_reducible refine (ductusref02_Opens.calls (rd l0 (rd (rd_L2 l1 a3) (ji7))) false _ A13.out).mono ?_); rintro e w' ⟨rfl, ⟨nd, rfl⟩⟩; (try first | exact ⟨rfl, _, World.drewN_drewN _ _ _⟩ | exact ⟨rfl, _, Eq.trans (World.drewN_drewN _ _ _) (congrArg (World.drewN _) (Nat.add_assoc _ _ _))⟩))); try go_wp2_with (first | (go_at_call 22; (with_reducible refine (ductusref02_Opens.calls (rd l0 (rd (rd_L2 l1 a3) (ji7))) false _ A13.out).mono ?_); rintro e w' ⟨rfl, ⟨nd, rfl⟩⟩; (try first | exact ⟨rfl, _, World.drewN_drewN _ _ _⟩ | exact ⟨rfl, _, Eq.trans (World.drewN_drewN _ _ _) (congrArg (World.drewN _) (Nat.add_assoc _ _ _))⟩))))
      go_meet
      case rel => exact ⟨_, (true), uF, H', ⟨by first | omega | exact Nat.le_refl _⟩, uW⟩
    subst c14
    have H1 : (if (rd (rd_L2 l1 a3) (ji7)) < (l2.length : Int) then (ductusref08_next.j0 k l1 l2 (rd (rd_L2 l1 a3) (ji7)) (decide ((rd l2 (rd (rd_L2 l1 a3) (ji7))) < 0))) else (none)) = some r := by rw [if_pos rfl] at H; exact H
    clear H;have H := H1;clear H1;replace H := uI H;obtain ⟨c15b0, H⟩ := H;have H' := Aside0.mk H;clear H;have p382 : 0 ≤ ((rd (rd_L2 l1 a3) (ji7)) : Int) := uD;have q382 : (rd (rd_L2 l1 a3) (ji7)) < (l0.length : Int) := uD;obtain ⟨ad382, e382, hx382_0⟩ := Kd.at_int HR0.out (rd (rd_L2 l1 a3) (ji7)) p382 q382;cases e382;replace p382 := eq_true p382;replace q382 := eq_true q382
    go_wp2_with (first | (go_at_call 22; (with_reducible refine (ductusref02_Opens.calls (rd l0 (rd (rd_L2 l1 a3) (ji7))) true _ A13.out).mono ?_); rintro e w' ⟨rfl, ⟨nd, rfl⟩⟩; (try first | exact ⟨rfl, _, World.drewN_drewN _ _ _⟩ | exact ⟨rfl, _, Eq.trans (World.drewN_drewN _ _ _) (congrArg (World.drewN _) (Nat.add_assoc _ _ _))⟩); have p384 : 0 ≤ ((rd (rd_L2 l1 a3) (ji7)) : Int) := uD; have q384 : (rd (rd_L2 l1 a3) (ji7)) < (l2.length : Int) := uD; obtain ⟨ad384, e384, hx384_0⟩ := Kd.at_int HR2.out (rd (rd_L2 l1 a3) (ji7)) p384 q384; cases e384; replace p384 := eq_true p384; replace q384 := eq_true q384))
    repeat (go_quiet (first | (go_at_call 22; (with_reducible refine (ductusref02_Opens.calls (rd l0 (rd (rd_L2 l1 a3) (ji7))) true _ A13.out).mono ?_); rintro e w' ⟨rfl, ⟨nd, rfl⟩⟩; (try first | exact ⟨rfl, _, World.drewN_drewN _ _ _⟩ | exact ⟨rfl, _, Eq.trans (World.drewN_drewN _ _ _) (congrArg (World.drewN _) (Nat.add_assoc _ _ _))⟩); have p384 : 0 ≤ ((rd (rd_L2 l1 a3) (ji7)) : Int) := uD; have q384 : (rd (rd_L2 l1 a3) (ji7)) < (l2.length : Int) := uD; obtain ⟨ad384, e384, hx384_0⟩ := Kd.at_int HR2.out (rd (rd_L2 l1 a3) (ji7)) p384 q384; cases e384; replace p384 := eq_true p384; replace q384 := eq_true q384)); try go_wp2_with (first | (go_at_call 22; (with_reducible refine (ductusref02_Opens.calls (rd l0 (rd (rd_L2 l1 a3) (ji7))) true _ A13.out).mono ?_); rintro e w' ⟨rfl, ⟨nd, rfl⟩⟩; (try first | exact ⟨rfl, _, World.drewN_drewN _ _ _⟩ | exact ⟨rfl, _, Eq.trans (World.drewN_drewN _ _ _) (congrArg (World.drewN _) (Nat.add_assoc _ _ _))⟩); have p384 : 0 ≤ ((rd (rd_L2 l1 a3) (ji7)) : Int) := uD; have q384 : (rd (rd_L2 l1 a3) (ji7)) < (l2.length : Int) := uD; obtain ⟨ad384, e384, hx384_0⟩ := Kd.at_int HR2.out (rd (rd_L2 l1 a3) (ji7)) p384 q384; cases e384; replace p384 := eq_true p384; replace q384 := eq_true q384)))
    go_meet
    case rel => exact ⟨_, (decide ((rd l2 (rd (rd_L2 l1 a3) (ji7))) < 0)), (by first | rfl | (simp; done) | (simp only [← hji7] <;> (first | rfl | simp)) | (simp [*]; done)), H', ⟨by first | omega | exact Nat.le_refl _⟩, uW⟩
  case rest =>
    clear HC10;(try clear c1);(try clear c2);(try clear p2);(try clear c3);(try clear p3);(try clear q3);(try clear hx3);(try clear c5b0);(try clear c6b0);(try clear p6);(try clear c8b0);(try clear c9b0);(try clear c11b0);(try clear c12b0);(try clear c14);(try clear c15b0);(try clear hx379_0);(try clear hx380_0);(try clear hx381_0);(try clear hx382_0);(try clear hx384_0);(try clear p379);(try clear p380);(try clear p381);(try clear p382);(try clear p384);(try clear q379);(try clear q380);(try clear q381);(try clear q382);(try clear q384);obtain ⟨kq, x35_9, rfl, HA, HJ9, ⟨mc9, rfl⟩⟩ := hcut
    cases kq with
    | zero => exact absurd HA.out (by simp [ductusref08_next.j0])
    | succ kj9 =>
      have H := HA.out;clear HA;simp only [ductusref08_next.j0] at H
      by_cases c16 : x35_9 = true
      · subst c16
        have H1 : (some (-1)) = some r := by rw [if_pos rfl] at H; exact H
        clear H;have H := H1;clear H1;obtain rfl := Option.some.inj H;go_wp2
        repeat (go_quiet (fail); try go_wp2)
        go_ret;exact ⟨by first | rfl | (simp; done) | (simp only [← hji7] <;> (first | rfl | simp)) | (simp [*]; done), uW⟩
      replace c16 := Bool.eq_false_iff.mpr c16;subst c16
      have H1 : (ductusref08_next.l0 kj9 l1 l2 (rd (rd_L2 l1 a3) (ji7)) 0) = some r := by rw [if_neg (show ¬ (false = true) by decide)] at H; exact H
      clear H;have H := H1;clear H1;have H' := Aside0.mk H;clear H;go_wp2
      repeat (go_quiet (fail); try go_wp2)
      go_loopg [10] kj9 (fun kq v10 w' => ∃ (x10_2 : Int), v10 = .int .i64 x10_2 ∧ Aside0 (ductusref08_next.l0 kq l1 l2 (rd (rd_L2 l1 a3) (ji7)) x10_2 = some r) ∧ Aside0 (kq ≤ kj9) ∧ Drawn0 w w')
      case atStart => exact ⟨(0), uF, H', ⟨Nat.le_refl _⟩, uW⟩
      case round =>
        clear H';(try clear c1);(try clear c2);(try clear p2);(try clear c3);(try clear p3);(try clear q3);(try clear hx3);(try clear c5b0);(try clear c6b0);(try clear p6);(try clear c8b0);(try clear c9b0);(try clear c11b0);(try clear c12b0);(try clear c14);(try clear c15b0);(try clear c16);(try clear hx379_0);(try clear hx380_0);(try clear hx381_0);(try clear hx382_0);(try clear hx384_0);(try clear p2);(try clear p3);(try clear p379);(try clear p380);(try clear p381);(try clear p382);(try clear p384);(try clear p6);(try clear q3);(try clear q379);(try clear q380);(try clear q381);(try clear q382);(try clear q384);obtain ⟨x10_2, rfl, HA, HK2, ⟨m2, rfl⟩⟩ := hrel
        cases gk with
        | zero => exact absurd HA.out (by simp [ductusref08_next.l0])
        | succ k2 =>
          have H := HA.out;clear HA;simp only [ductusref08_next.l0] at H
          by_cases c17 : x10_2 < (l1.length : Int)
          rotate_left
          · rw [if_neg c17] at H
            have c17b0 := decide_eq_false c17;clear c17;obtain rfl := Option.some.inj H;go_wp2
            repeat (go_quiet (fail); try go_wp2)
            go_ret;exact ⟨by first | rfl | (simp; done) | (simp only [← hji7] <;> (first | rfl | simp)) | (simp [*]; done), uW⟩
          rw [if_pos c17] at H;have c17b0 := decide_eq_true c17;clear c17;replace H := uI H;obtain ⟨c18b0, H⟩ := H;replace H := uP H;obtain ⟨c19, H⟩ := H;have c19b0 := decide_eq_true c19;have c19b1 : decide (0 < (rd_L2 l1 x10_2).length) = true := decide_eq_true (by omega);clear c19;replace H := uI H;obtain ⟨c20b0, H⟩ := H;replace H := uI H;obtain ⟨c21b0, H⟩ := H
          by_cases c22 : (rd (rd_L2 l1 x10_2) 0) = (rd l2 (rd (rd_L2 l1 a3) (ji7)))
          · rw [if_pos c22] at H
            have c22b0 := beq_iff_eq.mpr c22;have c22b1 := bne_eq_false_iff_eq.mpr c22;clear c22;obtain rfl := Option.some.inj H;have p385 : 0 ≤ (x10_2 : Int) := uD;have q385 : x10_2 < (l1.length : Int) := uD;obtain ⟨ad385, A385_0, c385_0, e385, hx385_0, hl385_0, hi385_0⟩ := at_L2 HR1.out x10_2 p385 q385;obtain rfl : ad379 = ad385 := (by injection e385);have HR385_0 := Aside0.mk hi385_0;have HC385_0 := Aside0.mk hl385_0;clear hi385_0 hl385_0;replace p385 := eq_true p385;replace q385 := eq_true q385;have p386 : 0 ≤ (0 : Int) := (by omega);have q386 : 0 < ((rd_L2 l1 x10_2).length : Int) := uD;obtain ⟨ad386, e386, hx386_0⟩ := Kd.at_int HR385_0.out 0 p386 q386;cases e386;have qi386 : (0 < (rd_L2 l1 x10_2).length) = True := eq_true (by omega);(try rw [show ((0 : Int)).toNat = 0 from rfl] at hx386_0);(try rw [Addr.add_zero'] at hx386_0);replace p386 := eq_true p386;replace q386 := eq_true q386;have p387 : 0 ≤ ((rd (rd_L2 l1 a3) (ji7)) : Int) := uD;have q387 : (rd (rd_L2 l1 a3) (ji7)) < (l2.length : Int) := uD;obtain ⟨ad387, e387, hx387_0⟩ := Kd.at_int HR2.out (rd (rd_L2 l1 a3) (ji7)) p387 q387;cases e387;replace p387 := eq_true p387;replace q387 := eq_true q387;go_wp2
            repeat (go_quiet (fail); try go_wp2)
            go_ret;exact ⟨by first | rfl | (simp; done) | (simp only [← hji7] <;> (first | rfl | simp)) | (simp [*]; done), uW⟩
          rw [if_neg c22] at H;have c22b0 := beq_eq_false_iff_ne.mpr c22;have c22b1 := bne_iff_ne.mpr c22;have H' := Aside0.mk H;clear H;have p385 : 0 ≤ (x10_2 : Int) := uD;have q385 : x10_2 < (l1.length : Int) := uD;obtain ⟨ad385, A385_0, c385_0, e385, hx385_0, hl385_0, hi385_0⟩ := at_L2 HR1.out x10_2 p385 q385;obtain rfl : ad379 = ad385 := (by injection e385);have HR385_0 := Aside0.mk hi385_0;have HC385_0 := Aside0.mk hl385_0;clear hi385_0 hl385_0;replace p385 := eq_true p385;replace q385 := eq_true q385;have p386 : 0 ≤ (0 : Int) := (by omega);have q386 : 0 < ((rd_L2 l1 x10_2).length : Int) := uD;obtain ⟨ad386, e386, hx386_0⟩ := Kd.at_int HR385_0.out 0 p386 q386;cases e386;have qi386 : (0 < (rd_L2 l1 x10_2).length) = True := eq_true (by omega);(try rw [show ((0 : Int)).toNat = 0 from rfl] at hx386_0);(try rw [Addr.add_zero'] at hx386_0);replace p386 := eq_true p386;replace q386 := eq_true q386;have p387 : 0 ≤ ((rd (rd_L2 l1 a3) (ji7)) : Int) := uD;have q387 : (rd (rd_L2 l1 a3) (ji7)) < (l2.length : Int) := uD;obtain ⟨ad387, e387, hx387_0⟩ := Kd.at_int HR2.out (rd (rd_L2 l1 a3) (ji7)) p387 q387;cases e387;replace p387 := eq_true p387;replace q387 := eq_true q387;go_wp2
          repeat (go_quiet (fail); try go_wp2)
          go_roundg k2
          case measure => have := HJ9.out; have := HK2.out; omega
          case rel => exact ⟨(wrap64 (x10_2 + 1)), uF, H', ⟨by have := HJ9.out; have := HK2.out; omega⟩, uW⟩
def ductusref08_Dir.f (a0 : Int) : Option (Int) := if (Int.tmod a0 2) = 0 then (some 0) else (some 1)
theorem ductusref08_Dir.calls (a0 : Int) (r : Int) (w : World) (h : ductusref08_Dir.f a0 = some r) :
    Calls Try.prog 58 #[.int .i64 a0] w fun e w' => e = .returned (.int .i64 r) ∧ Drawn0 w w' := by
  unfold ductusref08_Dir.f at h;have H := h;clear h
  by_cases c2 : (Int.tmod a0 2) = 0
  rotate_left
  · rw [if_neg c2] at H
    have c2b0 := beq_eq_false_iff_ne.mpr c2;have c2b1 := bne_iff_ne.mpr c2;obtain rfl := Option.some.inj H
    go_enter Try.func58, Try.ntmps58
    go_wp2;go_ret;exact ⟨uF, uW⟩
  rw [if_pos c2] at H;have c2b0 := beq_iff_eq.mpr c2;have c2b1 := bne_eq_false_iff_eq.mpr c2;clear c2;obtain rfl := Option.some.inj H
  go_enter Try.func58, Try.ntmps58
  go_wp2;go_ret;exact ⟨uF, uW⟩
end Go.Proofs.Ytmjipbmpapcboaa.P
