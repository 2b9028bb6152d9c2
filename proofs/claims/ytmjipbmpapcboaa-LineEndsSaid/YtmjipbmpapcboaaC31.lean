/- Proved: the theorems below, each under its own conditions. -/
import Derived.Test.YtmjipbmpapcboaaC13
import Derived.Test.YtmjipbmpapcboaaC30
import Derived.Test.YtmjipbmpapcboaaC14
import Derived.Test.YtmjipbmpapcboaaC15
import Derived.Test.YtmjipbmpapcboaaC27
import Derived.Test.YtmjipbmpapcboaaC17
import Derived.Test.YtmjipbmpapcboaaC29
import Derived.Test.YtmjipbmpapcboaaC22
import Derived.Test.YtmjipbmpapcboaaC19
set_option maxHeartbeats 8000000
set_option maxRecDepth 100000
namespace Go.Proofs.Ytmjipbmpapcboaa.P
open Go.RowKit Go.Proofs.YtmjipbmpapcboaaW.PrintWords Go.Proofs.YtmjipbmpapcboaaW.PrintLast Go.Proofs.YtmjipbmpapcboaaW.PrintMore
attribute [local go_sem] max2_int min2_int max_two min_two
set_option linter.unusedVariables false
set_option linter.unusedSimpArgs false
def ductusref12_Of.f (k : Nat) (l0 : List Int) (a1 : Int) : Option (List Int × Int) := (ductusref12_both.f k l0 a1).bind fun bt722 => (some (bt722.1, bt722.2.2))
theorem ductusref12_Of.calls (k : Nat) (A0 : Option Addr) (c0 : Nat) (l0 : List Int) (a1 : Int) (r1 : List Int) (r2 : Int) (w : World) (hr0 : Kd.C (Kd.int .i64) w A0 l0.length l0) (hc0 : l0.length ≤ c0) (h : ductusref12_Of.f k l0 a1 = some (r1, r2)) :
    Calls Try.prog 20 #[.slice A0 l0.length c0, .int .i64 a1] w fun e w' => ∃ v0_ : Value, e = .returned (.tuple #[v0_, .int .i64 r2]) ∧ Kd.R (Kd.int .i64) 3 w' w.heap.size (fun _ => True) v0_ r1 ∧ Below w.heap.size w w' := by
  have HR0 := Aside0.mk hr0;have HC0 := Aside0.mk hc0;clear hr0 hc0;have HB := Aside0.mk (Below.refl w.heap.size w);unfold ductusref12_Of.f at h;have H := h;clear h;replace H := Option.bind_eq_some_iff.mp H;obtain ⟨⟨t722, t723, t724⟩, A30, H⟩ := H;have A3 := Aside0.mk A30;clear A30;simp only [Option.some.injEq, Prod.mk.injEq] at H;obtain ⟨rfl, rfl⟩ := H
  go_enter Try.func20, Try.ntmps20
  go_wp2_with (first | ((with_reducible refine gate_callee (f := 31) rfl ?_); refine gL 12 Try.func31 #[.slice A0 l0.length c0, .int .i64 a1] ?_; (with_reducible refine (ductusref12_both.calls k _ _ l0 a1 t722 t723 t724 _ ?side1 ?side2 A3.out).mono ?_); (case side1 => exact uC HR0.out); (case side2 => exact HC0.out); rintro e w4 ⟨v725, v727, rfl, ho0, ho1, hb⟩; refine ⟨_, rfl, ?_⟩; have n_ := z3_ (Kd.R_lower ho0 (below_size (uB HB.out))) (Kd.R_lower ho1 (below_size (uB HB.out))) (below_step (uB HB.out) hb); clear HB; obtain ⟨HO726, HO728, HB⟩ := n_; (try clear hb); (try clear ho0); (try clear ho1)))
  go_ret2;exact ⟨_, uE, uT HO726.out (fun _ hk => trivial), uB HB.out⟩
def whE (c : Int) : Bool := (c == 12) || (c == 11) || (c == 10) || ((c == 19) || (c == 20) || (c == 21)) || (c == 22) || ((c == 9) || (c == 14) || (c == 15) || (c == 16) || (c == 17) || (c == 18))
def okC (c : Int) (l b e : Bool) : Bool := !(((c == 11) || (c == 10) || (whE c && l)) && !b || !whE c && !e || !b && !e)
mutual
def ductuslaw13_LineEnds.l0 : Nat → List Int → List Int → Int → List (S29) → Int → Option (Bool)
  | 0, _, _, _, _, _ => none
  | k + 1, x0, x7, x8, x9, x11 => if x11 < (x9.length : Int) then (if 0 ≤ x11 then ((line_Levels.f k x0 x7 x8 ((rd_T29 x9 x11).f0) ((rd_T29 x9 x11).f1)).bind fun t742 => (if (t742.length : Int) = (wrap64 (((rd_T29 x9 x11).f1) - ((rd_T29 x9 x11).f0))) then (ductuslaw13_LineEnds.l1 k x0 x7 x8 x9 x11 t742 0) else (none))) else (none)) else (some true)
def ductuslaw13_LineEnds.l1 : Nat → List Int → List Int → Int → List (S29) → Int → List Int → Int → Option (Bool)
  | 0, _, _, _, _, _, _, _ => none
  | k + 1, x0, x7, x8, x9, x11, x12, x13 => if x13 < (x12.length : Int) then (if 0 ≤ x11 ∧ x11 < (x9.length : Int) ∧ 0 ≤ x13 ∧ 0 ≤ wrap64 (((rd_T29 x9 x11).f0) + x13) ∧ wrap64 (((rd_T29 x9 x11).f0) + x13) < (x0.length : Int) ∧ wrap64 (((rd_T29 x9 x11).f0) + x13) < (x7.length : Int) then ((ductusref02_Of.f (rd x0 (wrap64 (((rd_T29 x9 x11).f0) + x13)))).bind fun c => (if okC c (x13 == wrap64 ((x12.length : Int) - 1)) (rd x12 x13 == x8) (rd x12 x13 == rd x7 (wrap64 (((rd_T29 x9 x11).f0) + x13))) = true then (ductuslaw13_LineEnds.l1 k x0 x7 x8 x9 x11 x12 (wrap64 (x13 + 1))) else (none))) else (none)) else (ductuslaw13_LineEnds.l0 k x0 x7 x8 x9 (wrap64 (x11 + 1)))
end
def ductuslaw13_LineEnds.f (k : Nat) (l0 : List Int) (a1 : Int) (a2 : Int) : Option (Bool) := (ductuslaw13_alive.f k).bind fun t729 => (if t729 = true then (if (l0.length : Int) > 150 then (some true) else ((ductusref12_Of.f k l0 a1).bind fun bt730 => ((line_Wrap.f k (l0.length : Int) (wrap64 (1 + (wrap64 (a2))))).bind fun t734 => ((line_Lines.f k t734 (l0.length : Int)).bind fun bt737 => (if bt737.2 = 0 then (ductuslaw13_LineEnds.l0 k l0 bt730.1 bt730.2 bt737.1 0) else (none)))))) else (none))
theorem ductuslaw13_LineEnds.calls (k : Nat) (A0 : Option Addr) (c0 : Nat) (l0 : List Int) (a1 : Int) (a2 : Int) (r : Bool) (w : World) (hr0 : Kd.C (Kd.int .i64) w A0 l0.length l0) (hc0 : l0.length ≤ c0) (h : ductuslaw13_LineEnds.f k l0 a1 a2 = some r) :
    Calls Try.prog 6 #[.slice A0 l0.length c0, .int .i64 a1, .int .u8 a2] w fun e w' => e = .returned (.bool r) ∧ Below w.heap.size w w' := by
  have hu29 := Try.underlying29;have HR0 := Aside0.mk hr0;have HC0 := Aside0.mk hc0;clear hr0 hc0;have HB := Aside0.mk (Below.refl w.heap.size w);unfold ductuslaw13_LineEnds.f at h;have H := h;clear h;replace H := Option.bind_eq_some_iff.mp H;obtain ⟨t729, A40, H⟩ := H;have A4 := Aside0.mk A40;clear A40
  by_cases c5 : t729 = true
  rotate_left
  · replace c5 := Bool.eq_false_iff.mpr c5
    subst c5
    have H1 : (none) = some r := by rw [if_neg (show ¬ (false = true) by decide)] at H; exact H
    clear H;have H := H1;clear H1;exact absurd H (by simp)
  subst c5
  have H1 : (if (l0.length : Int) > 150 then (some true) else ((ductusref12_Of.f k l0 a1).bind fun bt730 => ((line_Wrap.f k (l0.length : Int) (wrap64 (1 + (wrap64 (a2))))).bind fun t734 => ((line_Lines.f k t734 (l0.length : Int)).bind fun bt737 => (if bt737.2 = 0 then (ductuslaw13_LineEnds.l0 k l0 bt730.1 bt730.2 bt737.1 0) else (none)))))) = some r := by rw [if_pos rfl] at H; exact H
  clear H;have H := H1;clear H1
  by_cases c6 : (l0.length : Int) > 150
  · rw [if_pos c6] at H
    have c6b0 : decide (150 < (l0.length : Int)) = true := decide_eq_true c6;have c6b1 : decide (150 < l0.length) = true := decide_eq_true (by omega);clear c6;obtain rfl := Option.some.inj H
    go_enter Try.func6, Try.ntmps6
    go_wp2_with (first | (go_at_call 8; (with_reducible refine (ductuslaw13_alive.calls k  true _ A4.out).mono ?_); rintro e w7 ⟨rfl, hb⟩; have n0_ := Aside0.mk (below_step (uB HB.out) hb); clear HB; have HB := n0_; clear n0_; (try clear hb); (try clear hb2); (try clear hk); (try clear hi)))
    repeat (go_quiet (first | (go_at_call 8; (with_reducible refine (ductuslaw13_alive.calls k  true _ A4.out).mono ?_); rintro e w7 ⟨rfl, hb⟩; have n0_ := Aside0.mk (below_step (uB HB.out) hb); clear HB; have HB := n0_; clear n0_; (try clear hb); (try clear hb2); (try clear hk); (try clear hi))); try go_wp2_with (first | (go_at_call 8; (with_reducible refine (ductuslaw13_alive.calls k  true _ A4.out).mono ?_); rintro e w7 ⟨rfl, hb⟩; have n0_ := Aside0.mk (below_step (uB HB.out) hb); clear HB; have HB := n0_; clear n0_; (try clear hb); (try clear hb2); (try clear hk); (try clear hi))))
    go_ret;exact ⟨uE, uB HB.out⟩
  rw [if_neg c6] at H;have c6b0 : decide (150 < (l0.length : Int)) = false := decide_eq_false c6;have c6b1 : decide (150 < l0.length) = false := decide_eq_false (by omega);clear c6;replace H := Option.bind_eq_some_iff.mp H;obtain ⟨⟨t730, t731⟩, A80, H⟩ := H;have A8 := Aside0.mk A80;clear A80;replace H := Option.bind_eq_some_iff.mp H;obtain ⟨t734, A90, H⟩ := H;have A9 := Aside0.mk A90;clear A90;replace H := Option.bind_eq_some_iff.mp H;obtain ⟨⟨t737, t738⟩, A100, H⟩ := H;have A10 := Aside0.mk A100;clear A100;replace H := uP H;obtain ⟨c11, H⟩ := H;have c11b0 := beq_iff_eq.mpr c11;have c11b1 := bne_eq_false_iff_eq.mpr c11;clear c11;have H' := Aside0.mk H;clear H
  go_enter Try.func6, Try.ntmps6
  go_wp2_with (first | (go_at_call 8; (with_reducible refine (ductuslaw13_alive.calls k  true _ A4.out).mono ?_); rintro e w12 ⟨rfl, hb⟩; have n0_ := Aside0.mk (below_step (uB HB.out) hb); clear HB; have HB := n0_; clear n0_; (try clear hb); (try clear hb2); (try clear hk); (try clear hi)) | (go_at_call 20; (with_reducible refine (ductusref12_Of.calls k _ _ l0 a1 t730 t731 _ ?side1 ?side2 A8.out).mono ?_); (case side1 => exact uC (Kd.C_below HR0.out HB.out)); (case side2 => exact HC0.out); rintro e w13 ⟨v732, rfl, ho0, hb⟩; have n_ := z2_ (Kd.R_lower ho0 (below_size (uB HB.out))) (below_step (uB HB.out) hb); clear HB; obtain ⟨HO733, HB⟩ := n_; (try clear hb); (try clear ho0)) | (go_at_call 16; (try simp only [IntWalk.i64_left]); (with_reducible refine (line_Wrap.calls k (l0.length : Int) (wrap64 (1 + (wrap64 (a2)))) t734 _ A9.out).mono ?_); rintro e w14 ⟨v735, rfl, ho0, hb⟩; have n_ := z3_ (Kd.R_elder' (uR HO733.out) (Kd.R_base ho0) hb) (Kd.R_lower (Kd.R_new' ho0 (Kd.R_lt (uR HO733.out))) (below_size (uB HB.out))) (below_step (uB HB.out) hb); clear HO733 HB; obtain ⟨HO733, HO736, HB⟩ := n_; (try clear hb); (try clear ho0); obtain ⟨Ao15, co15, eo15⟩ := Kd.R_slice HO736.out; subst eo15) | (go_at_call 9; (with_reducible refine (line_Lines.calls k _ _ t734 (l0.length : Int) t737 t738 _ ?side1 ?side2 A10.out).mono ?_); (case side1 => exact uC (Kd.R_reads' HO736.out).2.2); (case side2 => exact (Kd.R_reads' HO736.out).2.1); rintro e w16 ⟨v739, rfl, ho0, hb⟩; have n_ := z4_ (Kd.R_below (uR HO733.out) hb) (Kd.R_below (uR HO736.out) hb) (Kd.R_lower ho0 (below_size (uB HB.out))) (below_step (uB HB.out) hb); clear HO733 HO736 HB; obtain ⟨HO733, HO736, HO740, HB⟩ := n_; (try clear hb); (try clear ho0)))
  repeat (go_quiet (first | (go_at_call 8; (with_reducible refine (ductuslaw13_alive.calls k  true _ A4.out).mono ?_); rintro e w12 ⟨rfl, hb⟩; have n0_ := Aside0.mk (below_step (uB HB.out) hb); clear HB; have HB := n0_; clear n0_; (try clear hb); (try clear hb2); (try clear hk); (try clear hi)) | (go_at_call 20; (with_reducible refine (ductusref12_Of.calls k _ _ l0 a1 t730 t731 _ ?side1 ?side2 A8.out).mono ?_); (case side1 => exact uC (Kd.C_below HR0.out HB.out)); (case side2 => exact HC0.out); rintro e w13 ⟨v732, rfl, ho0, hb⟩; have n_ := z2_ (Kd.R_lower ho0 (below_size (uB HB.out))) (below_step (uB HB.out) hb); clear HB; obtain ⟨HO733, HB⟩ := n_; (try clear hb); (try clear ho0)) | (go_at_call 16; (try simp only [IntWalk.i64_left]); (with_reducible refine (line_Wrap.calls k (l0.length : Int) (wrap64 (1 + (wrap64 (a2)))) t734 _ A9.out).mono ?_); rintro e w14 ⟨v735, rfl, ho0, hb⟩; have n_ := z3_ (Kd.R_elder' (uR HO733.out) (Kd.R_base ho0) hb) (Kd.R_lower (Kd.R_new' ho0 (Kd.R_lt (uR HO733.out))) (below_size (uB HB.out))) (below_step (uB HB.out) hb); clear HO733 HB; obtain ⟨HO733, HO736, HB⟩ := n_; (try clear hb); (try clear ho0); obtain ⟨Ao15, co15, eo15⟩ := Kd.R_slice HO736.out; subst eo15) | (go_at_call 9; (with_reducible refine (line_Lines.calls k _ _ t734 (l0.length : Int) t737 t738 _ ?side1 ?side2 A10.out).mono ?_); (case side1 => exact uC (Kd.R_reads' HO736.out).2.2); (case side2 => exact (Kd.R_reads' HO736.out).2.1); rintro e w16 ⟨v739, rfl, ho0, hb⟩; have n_ := z4_ (Kd.R_below (uR HO733.out) hb) (Kd.R_below (uR HO736.out) hb) (Kd.R_lower ho0 (below_size (uB HB.out))) (below_step (uB HB.out) hb); clear HO733 HO736 HB; obtain ⟨HO733, HO736, HO740, HB⟩ := n_; (try clear hb); (try clear ho0))); try go_wp2_with (first | (go_at_call 8; (with_reducible refine (ductuslaw13_alive.calls k  true _ A4.out).mono ?_); rintro e w12 ⟨rfl, hb⟩; have n0_ := Aside0.mk (below_step (uB HB.out) hb); clear HB; have HB := n0_; clear n0_; (try clear hb); (try clear hb2); (try clear hk); (try clear hi)) | (go_at_call 20; (with_reducible refine (ductusref12_Of.calls k _ _ l0 a1 t730 t731 _ ?side1 ?side2 A8.out).mono ?_); (case side1 => exact uC (Kd.C_below HR0.out HB.out)); (case side2 => exact HC0.out); rintro e w13 ⟨v732, rfl, ho0, hb⟩; have n_ := z2_ (Kd.R_lower ho0 (below_size (uB HB.out))) (below_step (uB HB.out) hb); clear HB; obtain ⟨HO733, HB⟩ := n_; (try clear hb); (try clear ho0)) | (go_at_call 16; (try simp only [IntWalk.i64_left]); (with_reducible refine (line_Wrap.calls k (l0.length : Int) (wrap64 (1 + (wrap64 (a2)))) t734 _ A9.out).mono ?_); rintro e w14 ⟨v735, rfl, ho0, hb⟩; have n_ := z3_ (Kd.R_elder' (uR HO733.out) (Kd.R_base ho0) hb) (Kd.R_lower (Kd.R_new' ho0 (Kd.R_lt (uR HO733.out))) (below_size (uB HB.out))) (below_step (uB HB.out) hb); clear HO733 HB; obtain ⟨HO733, HO736, HB⟩ := n_; (try clear hb); (try clear ho0); obtain ⟨Ao15, co15, eo15⟩ := Kd.R_slice HO736.out; subst eo15) | (go_at_call 9; (with_reducible refine (line_Lines.calls k _ _ t734 (l0.length : Int) t737 t738 _ ?side1 ?side2 A10.out).mono ?_); (case side1 => exact uC (Kd.R_reads' HO736.out).2.2); (case side2 => exact (Kd.R_reads' HO736.out).2.1); rintro e w16 ⟨v739, rfl, ho0, hb⟩; have n_ := z4_ (Kd.R_below (uR HO733.out) hb) (Kd.R_below (uR HO736.out) hb) (Kd.R_lower ho0 (below_size (uB HB.out))) (below_step (uB HB.out) hb); clear HO733 HO736 HB; obtain ⟨HO733, HO736, HO740, HB⟩ := n_; (try clear hb); (try clear ho0))))
  go_loopg [11] k (fun kq v11 w' => ∃ (x11_1 : Int), v11 = .int .i64 x11_1 ∧ Aside0 (ductuslaw13_LineEnds.l0 kq l0 t730 t731 t737 x11_1 = some r) ∧ Aside0 (kq ≤ k) ∧ Aside0 (Kd.R (Kd.int .i64) 3 w' w.heap.size (fun _ => True) v732 t730) ∧ Aside0 (Kd.R k29 29 w' w.heap.size (fun _ => True) v739 t737) ∧ Aside0 (Below w.heap.size w w'))
  case atStart => exact ⟨(0), uF, H', ⟨Nat.le_refl _⟩, ⟨uT HO733.out (fun _ hk => trivial)⟩, ⟨uR HO740.out⟩, ⟨uB HB.out⟩⟩
  case round =>
    clear H';(try clear c1);(try clear p2);(try clear c5);(try clear c6b0);(try clear c6b1);(try clear p6);(try clear c11b0);(try clear c11b1);obtain ⟨x11_1, rfl, HA, HK1, HO_7, HO_9, HB⟩ := hrel
    cases gk with
    | zero => exact absurd HA.out (by simp [ductuslaw13_LineEnds.l0])
    | succ k1 =>
      have H := HA.out;clear HA;simp only [ductuslaw13_LineEnds.l0] at H
      by_cases c17 : x11_1 < (t737.length : Int)
      rotate_left
      · rw [if_neg c17] at H
        have c17b0 := decide_eq_false c17;clear c17;obtain rfl := Option.some.inj H;obtain ⟨Ao78, co78, eo78⟩ := Kd.R_slice HO_9.out;subst eo78;go_wp2
        repeat (go_quiet (fail); try go_wp2)
        go_ret;exact ⟨uE, uB HB.out⟩
      rw [if_pos c17] at H;have c17b0 := decide_eq_true c17;clear c17;replace H := uI H;obtain ⟨c18b0, H⟩ := H;replace H := Option.bind_eq_some_iff.mp H;obtain ⟨t742, A190, H⟩ := H;have A19 := Aside0.mk A190;clear A190;replace H := uP H;obtain ⟨c20, H⟩ := H;have c20b0 := beq_iff_eq.mpr c20;have c20b1 := bne_eq_false_iff_eq.mpr c20;clear c20;have H' := Aside0.mk H;clear H;obtain ⟨Ao21, co21, eo21⟩ := Kd.R_slice HO_9.out;subst eo21;have p741 : 0 ≤ (x11_1 : Int) := uD;have q741 : x11_1 < (t737.length : Int) := uD;obtain ⟨ad741, e741, hx741_0, hx741_1⟩ := at_T29 (Kd.R_reads' HO_9.out).2.2 x11_1 p741 q741;cases e741;replace p741 := eq_true p741;replace q741 := eq_true q741;obtain ⟨Ao22, co22, eo22⟩ := Kd.R_slice HO_7.out;subst eo22
      go_wp2_with (first | (go_at_call 18; (with_reducible refine (line_Levels.calls k1 _ _ l0 _ _ t730 t731 ((rd_T29 t737 x11_1).f0) ((rd_T29 t737 x11_1).f1) t742 _ ?side1 ?side2 ?side3 ?side4 A19.out).mono ?_); (case side1 => exact uC (Kd.C_below HR0.out HB.out)); (case side2 => exact HC0.out); (case side3 => exact uC (Kd.R_reads' HO_7.out).2.2); (case side4 => exact (Kd.R_reads' HO_7.out).2.1); rintro e w23 ⟨v743, rfl, ho0, hb⟩; have n_ := z4_ (Kd.R_elder' (uR HO_7.out) (Kd.R_base ho0) hb) (Kd.R_below (uR HO_9.out) hb) (Kd.R_lower (Kd.R_new' ho0 (Kd.R_lt (uR HO_7.out))) (below_size (uB HB.out))) (below_step (uB HB.out) hb); clear HO_7 HO_9 HB; obtain ⟨HO_7, HO_9, HO744, HB⟩ := n_; (try clear hb); (try clear ho0); obtain ⟨Ao24, co24, eo24⟩ := Kd.R_slice HO744.out; subst eo24; have p745 : 0 ≤ (x11_1 : Int) := uD; have q745 : x11_1 < (t737.length : Int) := uD; obtain ⟨ad745, e745, hx745_0, hx745_1⟩ := at_T29 (Kd.R_reads' HO_9.out).2.2 x11_1 p745 q745; obtain rfl : ad741 = ad745 := (by injection e745); replace p745 := eq_true p745; replace q745 := eq_true q745; have p746 : 0 ≤ (x11_1 : Int) := uD; have q746 : x11_1 < (t737.length : Int) := uD; obtain ⟨ad746, e746, hx746_0, hx746_1⟩ := at_T29 (Kd.R_reads' HO_9.out).2.2 x11_1 p746 q746; obtain rfl : ad741 = ad746 := (by injection e746); replace p746 := eq_true p746; replace q746 := eq_true q746))
      repeat (go_quiet (first | (go_at_call 18; (with_reducible refine (line_Levels.calls k1 _ _ l0 _ _ t730 t731 ((rd_T29 t737 x11_1).f0) ((rd_T29 t737 x11_1).f1) t742 _ ?side1 ?side2 ?side3 ?side4 A19.out).mono ?_); (case side1 => exact uC (Kd.C_below HR0.out HB.out)); (case side2 => exact HC0.out); (case side3 => exact uC (Kd.R_reads' HO_7.out).2.2); (case side4 => exact (Kd.R_reads' HO_7.out).2.1); rintro e w23 ⟨v743, rfl, ho0, hb⟩; have n_ := z4_ (Kd.R_elder' (uR HO_7.out) (Kd.R_base ho0) hb) (Kd.R_below (uR HO_9.out) hb) (Kd.R_lower (Kd.R_new' ho0 (Kd.R_lt (uR HO_7.out))) (below_size (uB HB.out))) (below_step (uB HB.out) hb); clear HO_7 HO_9 HB; obtain ⟨HO_7, HO_9, HO744, HB⟩ := n_; (try clear hb); (try clear ho0); obtain ⟨Ao24, co24, eo24⟩ := Kd.R_slice HO744.out; subst eo24; have p745 : 0 ≤ (x11_1 : Int) := uD; have q745 : x11_1 < (t737.length : Int) := uD; obtain ⟨ad745, e745, hx745_0, hx745_1⟩ := at_T29 (Kd.R_reads' HO_9.out).2.2 x11_1 p745 q745; obtain rfl : ad741 = ad745 := (by injection e745); replace p745 := eq_true p745; replace q745 := eq_true q745; have p746 : 0 ≤ (x11_1 : Int) := uD; have q746 : x11_1 < (t737.length : Int) := uD; obtain ⟨ad746, e746, hx746_0, hx746_1⟩ := at_T29 (Kd.R_reads' HO_9.out).2.2 x11_1 p746 q746; obtain rfl : ad741 = ad746 := (by injection e746); replace p746 := eq_true p746; replace q746 := eq_true q746)); try go_wp2_with (first | (go_at_call 18; (with_reducible refine (line_Levels.calls k1 _ _ l0 _ _ t730 t731 ((rd_T29 t737 x11_1).f0) ((rd_T29 t737 x11_1).f1) t742 _ ?side1 ?side2 ?side3 ?side4 A19.out).mono ?_); (case side1 => exact uC (Kd.C_below HR0.out HB.out)); (case side2 => exact HC0.out); (case side3 => exact uC (Kd.R_reads' HO_7.out).2.2); (case side4 => exact (Kd.R_reads' HO_7.out).2.1); rintro e w23 ⟨v743, rfl, ho0, hb⟩; have n_ := z4_ (Kd.R_elder' (uR HO_7.out) (Kd.R_base ho0) hb) (Kd.R_below (uR HO_9.out) hb) (Kd.R_lower (Kd.R_new' ho0 (Kd.R_lt (uR HO_7.out))) (below_size (uB HB.out))) (below_step (uB HB.out) hb); clear HO_7 HO_9 HB; obtain ⟨HO_7, HO_9, HO744, HB⟩ := n_; (try clear hb); (try clear ho0); obtain ⟨Ao24, co24, eo24⟩ := Kd.R_slice HO744.out; subst eo24; have p745 : 0 ≤ (x11_1 : Int) := uD; have q745 : x11_1 < (t737.length : Int) := uD; obtain ⟨ad745, e745, hx745_0, hx745_1⟩ := at_T29 (Kd.R_reads' HO_9.out).2.2 x11_1 p745 q745; obtain rfl : ad741 = ad745 := (by injection e745); replace p745 := eq_true p745; replace q745 := eq_true q745; have p746 : 0 ≤ (x11_1 : Int) := uD; have q746 : x11_1 < (t737.length : Int) := uD; obtain ⟨ad746, e746, hx746_0, hx746_1⟩ := at_T29 (Kd.R_reads' HO_9.out).2.2 x11_1 p746 q746; obtain rfl : ad741 = ad746 := (by injection e746); replace p746 := eq_true p746; replace q746 := eq_true q746)))
      go_loopg [13] k1 (fun kq v13 w' => ∃ (x13_2 : Int), v13 = .int .i64 x13_2 ∧ Aside0 (ductuslaw13_LineEnds.l1 kq l0 t730 t731 t737 x11_1 t742 x13_2 = some r) ∧ Aside0 (kq ≤ k1) ∧ Aside0 (Kd.R (Kd.int .i64) 3 w' w.heap.size (fun k_ => some k_ ≠ ((.slice Ao24 t742.length co24) : Value).ownBlock) (.slice Ao22 t730.length co22) t730) ∧ Aside0 (Kd.R k29 29 w' w.heap.size (fun _ => True) (.slice (some ad741) t737.length co21) t737) ∧ Aside0 (Kd.R (Kd.int .i64) 3 w' w.heap.size (fun k_ => some k_ ≠ ((.slice Ao22 t730.length co22) : Value).ownBlock) (.slice Ao24 t742.length co24) t742) ∧ Aside0 (Below w.heap.size w w'))
      case atStart => exact ⟨(0), uF, H', ⟨Nat.le_refl _⟩, ⟨uT HO_7.out (fun _ hk => hk.2)⟩, ⟨uR HO_9.out⟩, ⟨uT HO744.out (fun _ hk => hk.2)⟩, ⟨uB HB.out⟩⟩
      case round =>
        clear H';(try clear c1);(try clear c2);(try clear p2);(try clear c5);(try clear c6b0);(try clear c6b1);(try clear p6);(try clear p7);(try clear q7);(try clear hx7);(try clear c11b0);(try clear c11b1);(try clear c17b0);(try clear c18b0);(try clear c20b0);(try clear c20b1);(try clear hx741_0);(try clear hx741_1);(try clear hx745_0);(try clear hx745_1);(try clear hx746_0);(try clear hx746_1);(try clear p2);(try clear p6);(try clear p741);(try clear p745);(try clear p746);(try clear q741);(try clear q745);(try clear q746);obtain ⟨x13_2, rfl, HA, HK2, HO_7, HO_9, HO_12, HB⟩ := hrel
        cases gk with
        | zero => exact absurd HA.out (by simp [ductuslaw13_LineEnds.l1])
        | succ k2 =>
          have H := HA.out;clear HA;simp only [ductuslaw13_LineEnds.l1] at H
          by_cases c25 : x13_2 < (t742.length : Int)
          rotate_left
          · rw [if_neg c25] at H
            have c25b0 := decide_eq_false c25;clear c25;have H' := Aside0.mk H;clear H;go_wp2
            repeat (go_quiet (fail); try go_wp2)
            go_roundg k2
            case measure => have := HK1.out; have := HK2.out; omega
            case rel => exact ⟨(wrap64 (x11_1 + 1)), uF, H', ⟨by have := HK1.out; have := HK2.out; omega⟩, ⟨uT HO_7.out (fun _ hk => trivial)⟩, ⟨uR HO_9.out⟩, ⟨uB HB.out⟩⟩
          rw [if_pos c25] at H;have c25b0 := decide_eq_true c25;obtain ⟨j, hj⟩ : ∃ j_ : Int, wrap64 (((rd_T29 t737 x11_1).f0) + x13_2) = j_ := ⟨_, rfl⟩;have hjw : IntKind.i64.wrap (((rd_T29 t737 x11_1).f0) + x13_2) = j := (i64_w _).trans hj;obtain ⟨m, hm⟩ : ∃ m_ : Int, wrap64 ((t742.length : Int) - 1) = m_ := ⟨_, rfl⟩;have hmw : IntKind.i64.wrap ((t742.length : Int) - 1) = m := (i64_w _).trans hm;rw [hj, hm] at H;replace H := uP H;obtain ⟨c26, H⟩ := H;obtain ⟨q0, q1, q2, q3, q4, q5⟩ := c26;obtain ⟨c, hc, H⟩ := Option.bind_eq_some_iff.mp H;obtain ⟨lst, hlst⟩ : ∃ b_ : Bool, (x13_2 == m) = b_ := ⟨_, rfl⟩;obtain ⟨eb, heb⟩ : ∃ b_ : Bool, (rd t742 x13_2 == t731) = b_ := ⟨_, rfl⟩;obtain ⟨el, hel⟩ : ∃ b_ : Bool, (rd t742 x13_2 == rd t730 j) = b_ := ⟨_, rfl⟩
          have heb1 : (rd t742 x13_2 != t731) = !eb := by rw [← heb]; rfl
          have hel1 : (rd t742 x13_2 != rd t730 j) = !el := by rw [← hel]; rfl
          rw [hlst, heb, hel] at H;replace H := uP H;obtain ⟨c27, H⟩ := H;have H' := Aside0.mk H;have A31 := Aside0.mk hc;have OKC := Aside0.mk c27;clear H hc c27;obtain ⟨ad0, e0, hx0⟩ := Kd.at_int HR0.out j q3 q4;cases e0;replace hx0 := (HB.out.cell (World.block_lt_of_cell? w _ hx0)).trans hx0;obtain ⟨ad7, e7, hx7⟩ := Kd.at_int (Kd.R_reads' HO_7.out).2.2 j q3 q5;cases e7;obtain ⟨ad12, e12, hx12⟩ := Kd.at_int (Kd.R_reads' HO_12.out).2.2 x13_2 q2 c25;cases e12;obtain ⟨ad9, e9, hx9_0, hx9_1⟩ := at_T29 (Kd.R_reads' HO_9.out).2.2 x11_1 q0 q1;obtain rfl : ad741 = ad9 := (by injection e9);have g0 := eq_true q0;have g1 := eq_true q1;have g2 := eq_true q2;have g3 := eq_true q3;have g4 := eq_true q4;have g5 := eq_true q5;have g6 := eq_true c25;have g7 := decide_eq_true q0;clear q0 q1 q2 q3 q4 q5 c25 e9
          go_upto_region 19 with (first | (go_at_call 21; (with_reducible refine (ductusref02_Of.calls (rd l0 j) c _ A31.out).mono ?_); rintro e w' ⟨rfl, ⟨nd, rfl⟩⟩))
          have QW := Aside0.mk (show ∃ n, wr.drewN _ = wr.drewN n from ⟨nd, rfl⟩)
          go_cut [15] (fun v15 wc => v15 = .bool (whE c) ∧ ∃ n, wc = wr.drewN n)
          case first =>
            clear A31 HR0 HO_7 HO_9 HO_12 hx0 hx7 hx12 hx9_0 hx9_1 H' g0 g1 g2 g3 g4 g5 g6 g7 heb hel heb1 hel1 hlst OKC
            by_cases d12 : c = 12
            · subst d12
              go_wp2_with (fail)
              go_meet;refine ⟨rfl, by first | exact ⟨_, rfl⟩ | exact ⟨_, World.drewN_drewN _ _ _⟩ | exact ⟨_, (congrArg (fun W => World.drewN W _) (World.drewN_drewN _ _ _)).trans (World.drewN_drewN _ _ _)⟩⟩
            by_cases d11 : c = 11
            · subst d11
              go_wp2_with (fail)
              go_meet;refine ⟨rfl, by first | exact ⟨_, rfl⟩ | exact ⟨_, World.drewN_drewN _ _ _⟩ | exact ⟨_, (congrArg (fun W => World.drewN W _) (World.drewN_drewN _ _ _)).trans (World.drewN_drewN _ _ _)⟩⟩
            by_cases d10 : c = 10
            · subst d10
              go_wp2_with (fail)
              go_meet;refine ⟨rfl, by first | exact ⟨_, rfl⟩ | exact ⟨_, World.drewN_drewN _ _ _⟩ | exact ⟨_, (congrArg (fun W => World.drewN W _) (World.drewN_drewN _ _ _)).trans (World.drewN_drewN _ _ _)⟩⟩
            have b12 := beq_eq_false_iff_ne.mpr d12;have b11 := beq_eq_false_iff_ne.mpr d11;have b10 := beq_eq_false_iff_ne.mpr d10;obtain ⟨bo, hbo⟩ : ∃ b_ : Bool, ((c == 19) || (c == 20) || (c == 21)) = b_ := ⟨_, rfl⟩
            have hop : ductusref02_Opens.f c = some bo := by
              rw [← hbo];unfold ductusref02_Opens.f
              by_cases x : c = 19
              · simp [x]
              by_cases y : c = 20
              · simp [y]
              simp [x, y]
            cases bo with
            | true =>
              have hv : whE c = true := by unfold whE; rw [hbo]; simp
              clear d12 d11 d10 hbo
              go_wp2_with (first | (go_at_call 22; (with_reducible refine (ductusref02_Opens.calls c _ _ hop).mono ?_); rintro e w' ⟨rfl, ⟨nd2, rfl⟩⟩))
              go_meet;refine ⟨by rw [hv], by first | exact ⟨_, rfl⟩ | exact ⟨_, World.drewN_drewN _ _ _⟩ | exact ⟨_, (congrArg (fun W => World.drewN W _) (World.drewN_drewN _ _ _)).trans (World.drewN_drewN _ _ _)⟩⟩
            | false =>
              by_cases d22 : c = 22
              · subst d22
                clear d12 d11 d10 hbo
                go_wp2_with (first | (go_at_call 22; (with_reducible refine (ductusref02_Opens.calls 22 false _ rfl).mono ?_); rintro e w' ⟨rfl, ⟨nd2, rfl⟩⟩))
                go_meet;refine ⟨rfl, by first | exact ⟨_, rfl⟩ | exact ⟨_, World.drewN_drewN _ _ _⟩ | exact ⟨_, (congrArg (fun W => World.drewN W _) (World.drewN_drewN _ _ _)).trans (World.drewN_drewN _ _ _)⟩⟩
              have b22 := beq_eq_false_iff_ne.mpr d22;obtain ⟨bu, hbu⟩ : ∃ b_ : Bool, ((c == 9) || (c == 14) || (c == 15) || (c == 16) || (c == 17) || (c == 18)) = b_ := ⟨_, rfl⟩
              have hou : ductusref02_Out.f c = some bu := by
                rw [← hbu];unfold ductusref02_Out.f
                by_cases xa : c = 9
                · simp [xa]
                by_cases xb : c = 14
                · simp [xb]
                by_cases xc : c = 15
                · simp [xc]
                by_cases xd : c = 16
                · simp [xd]
                by_cases xe : c = 17
                · simp [xe]
                simp [xa, xb, xc, xd, xe]
              have hv : whE c = bu := by unfold whE; rw [hbo, hbu, b12, b11, b10, b22]; simp
              clear d12 d11 d10 d22 hbo hbu
              go_wp2_with (first | (go_at_call 22; (with_reducible refine (ductusref02_Opens.calls c _ _ hop).mono ?_); rintro e w' ⟨rfl, ⟨nd2, rfl⟩⟩) | (go_at_call 23; (with_reducible refine (ductusref02_Out.calls c _ _ hou).mono ?_); rintro e w' ⟨rfl, ⟨nd3, rfl⟩⟩))
              go_meet;refine ⟨by rw [hv], by first | exact ⟨_, rfl⟩ | exact ⟨_, World.drewN_drewN _ _ _⟩ | exact ⟨_, (congrArg (fun W => World.drewN W _) (World.drewN_drewN _ _ _)).trans (World.drewN_drewN _ _ _)⟩⟩
          case rest =>
            obtain ⟨rfl, n19, rfl⟩ := hcut;clear QW A31;obtain ⟨wh, hwh⟩ : ∃ b_ : Bool, whE c = b_ := ⟨_, rfl⟩;have hok := OKC.out;unfold okC at hok;rw [hwh] at hok ⊢;clear OKC
            by_cases d11 : c = 11
            · subst d11
              have hwt : wh = true := hwh.symm.trans rfl;subst hwt
              have het : eb = true := by cases eb with | true => rfl | false => exact absurd hok (by simp)
              subst het;rw [Bool.not_true] at heb1;clear hok hwh
              go_upto_region 20 with (fail)
              (try dsimp only [List.append])
              go_quiet (fail)
              go_wp2;go_roundg k2
              case measure => have := HK1.out; have := HK2.out; omega
              case rel => exact ⟨(wrap64 (x13_2 + 1)), uF, H', ⟨by have := HK1.out; have := HK2.out; omega⟩, ⟨uR HO_7.out⟩, ⟨uR HO_9.out⟩, ⟨uR HO_12.out⟩, ⟨uB HB.out⟩⟩
            by_cases d10 : c = 10
            · subst d10
              have hwt : wh = true := hwh.symm.trans rfl;subst hwt
              have het : eb = true := by cases eb with | true => rfl | false => exact absurd hok (by simp)
              subst het;rw [Bool.not_true] at heb1;clear hok hwh
              go_upto_region 20 with (fail)
              (try dsimp only [List.append])
              go_quiet (fail)
              go_wp2;go_roundg k2
              case measure => have := HK1.out; have := HK2.out; omega
              case rel => exact ⟨(wrap64 (x13_2 + 1)), uF, H', ⟨by have := HK1.out; have := HK2.out; omega⟩, ⟨uR HO_7.out⟩, ⟨uR HO_9.out⟩, ⟨uR HO_12.out⟩, ⟨uB HB.out⟩⟩
            have b11 := beq_eq_false_iff_ne.mpr d11;have b10 := beq_eq_false_iff_ne.mpr d10;rw [b11, b10] at hok;clear d11 d10 hwh
            cases wh with
            | true =>
              as_aux_lemma =>
                cases lst with
                | true =>
                  have het : eb = true := by cases eb with | true => rfl | false => exact absurd hok (by simp)
                  subst het;rw [Bool.not_true] at heb1;clear hok
                  go_upto_region 20 with (fail)
                  (try dsimp only [List.append])
                  go_quiet (fail)
                  go_wp2;go_roundg k2
                  case measure => have := HK1.out; have := HK2.out; omega
                  case rel => exact ⟨(wrap64 (x13_2 + 1)), uF, H', ⟨by have := HK1.out; have := HK2.out; omega⟩, ⟨uR HO_7.out⟩, ⟨uR HO_9.out⟩, ⟨uR HO_12.out⟩, ⟨uB HB.out⟩⟩
                | false =>
                  cases eb with
                  | true =>
                    rw [Bool.not_true] at heb1;clear hok
                    go_upto_region 20 with (fail)
                    (try dsimp only [List.append])
                    go_quiet (fail)
                    go_wp2;go_roundg k2
                    case measure => have := HK1.out; have := HK2.out; omega
                    case rel => exact ⟨(wrap64 (x13_2 + 1)), uF, H', ⟨by have := HK1.out; have := HK2.out; omega⟩, ⟨uR HO_7.out⟩, ⟨uR HO_9.out⟩, ⟨uR HO_12.out⟩, ⟨uB HB.out⟩⟩
                  | false =>
                    have het : el = true := by cases el with | true => rfl | false => exact absurd hok (by simp)
                    subst het;rw [Bool.not_true] at hel1;rw [Bool.not_false] at heb1;clear hok
                    go_upto_region 20 with (fail)
                    (try dsimp only [List.append])
                    go_quiet (fail)
                    go_wp2;go_roundg k2
                    case measure => have := HK1.out; have := HK2.out; omega
                    case rel => exact ⟨(wrap64 (x13_2 + 1)), uF, H', ⟨by have := HK1.out; have := HK2.out; omega⟩, ⟨uR HO_7.out⟩, ⟨uR HO_9.out⟩, ⟨uR HO_12.out⟩, ⟨uB HB.out⟩⟩
            | false =>
              as_aux_lemma =>
                have het : el = true := by cases el with | true => rfl | false => exact absurd hok (by simp)
                subst het;rw [Bool.not_true] at hel1;clear hok
                cases eb with
                | true =>
                  rw [Bool.not_true] at heb1
                  go_upto_region 20 with (fail)
                  (try dsimp only [List.append])
                  go_quiet (fail)
                  go_wp2;go_roundg k2
                  case measure => have := HK1.out; have := HK2.out; omega
                  case rel => exact ⟨(wrap64 (x13_2 + 1)), uF, H', ⟨by have := HK1.out; have := HK2.out; omega⟩, ⟨uR HO_7.out⟩, ⟨uR HO_9.out⟩, ⟨uR HO_12.out⟩, ⟨uB HB.out⟩⟩
                | false =>
                  rw [Bool.not_false] at heb1
                  go_upto_region 20 with (fail)
                  (try dsimp only [List.append])
                  go_quiet (fail)
                  go_wp2;go_roundg k2
                  case measure => have := HK1.out; have := HK2.out; omega
                  case rel => exact ⟨(wrap64 (x13_2 + 1)), uF, H', ⟨by have := HK1.out; have := HK2.out; omega⟩, ⟨uR HO_7.out⟩, ⟨uR HO_9.out⟩, ⟨uR HO_12.out⟩, ⟨uB HB.out⟩⟩
def ductuslaw13_LineEnds.Pure : Prop := ∀ (l0 : List Int) (a1 : Int) (a2 : Int), l0.length ≤ maxLen → l0.length * 8 ≤ 140737488351232 → (∀ x ∈ l0, (Lit.int .i64 x).wf = true) → (Lit.int .i64 a1).wf = true → (Lit.int .u8 a2).wf = true → ∃ k, ductuslaw13_LineEnds.f k l0 a1 a2 = some true
theorem ductuslaw13_LineEnds.walk (P : ductuslaw13_LineEnds.Pure) (a0 : Option Addr) (len0 cap0 : Nat) (z0 : List Int) (a1 : Int) (a2 : Int) (w : World) (w0 : (a0 = none ∧ len0 = 0 ∧ cap0 = 0 ∧ z0 = []) ∨ ∃ x, a0 = some x ∧ len0 ≤ cap0 ∧ cap0 ≤ maxLen ∧ z0.length = cap0 ∧ (∀ i, i < z0.length → w.cell? (x.add i) = some (.int .i64 (z0.getD i 0))) ∧ ∀ n ∈ z0, (Lit.int .i64 n).wf = true) (y0 : len0 * 8 ≤ 140737488351232) (w1 : (Lit.int .i64 a1).wf = true) (w2 : (Lit.int .u8 a2).wf = true) :
    Calls Try.prog 6 #[.slice a0 len0 cap0, .int .i64 a1, .int .u8 a2] w fun e w' => e = .returned (.bool true) ∧ Below w.heap.size w w' := by
  obtain ⟨l0, rfl, hr0, hm0, hw0, hc0⟩ := ReadsInt.ofRowC w0;obtain ⟨k, h⟩ := P l0 a1 a2 hm0 y0 hw0 w1 w2;refine (ductuslaw13_LineEnds.calls k _ _ l0 a1 a2 true w (Kd.C_of_reads (d := (0 : Int)) (h1 := fun _ => rfl) hr0) hc0 h).mono ?_;rintro e w' ⟨rfl, hd⟩;exact ⟨rfl, hd⟩
end Go.Proofs.Ytmjipbmpapcboaa.P
namespace Go.Proofs.Ytmjipbmpapcboaa.P
open Go.RowKit Go.Proofs.YtmjipbmpapcboaaW.PrintWords Go.Proofs.YtmjipbmpapcboaaW.PrintLast
set_option linter.unusedVariables false
theorem wrap_id {x : Int} (h0 : -9223372036854775808 ≤ x) (h1 : x ≤ 9223372036854775807) : wrap64 x = x := by
  unfold wrap64
  omega
theorem wrap_succ (i : Nat) (h : i < 9223372036854775807) : wrap64 ((i : Int) + 1) = ((i + 1 : Nat) : Int) := by
  rw [wrap_id (by omega) (by omega)]
  omega
theorem rd_nat (xs : List Int) (i : Nat) : rd xs (i : Int) = xs.getD i 0 := by
  unfold rd;rw [Int.toNat_natCast]
theorem rd_get (xs : List Int) (i : Nat) (h : i < xs.length) : rd xs (i : Int) = xs[i] := by
  rw [rd_nat, List.getD_eq_getElem?_getD, List.getElem?_eq_getElem h, Option.getD_some]
theorem drop_cons (xs : List Int) (i : Nat) (h : i < xs.length) : xs.drop i = rd xs (i : Int) :: xs.drop (i + 1) := by
  rw [rd_get xs i h];exact List.drop_eq_getElem_cons h
theorem more {α : Type} {g : Nat → Option α} (h : ∀ k, LeO (g k) (g (k + 1))) (k k' : Nat) (hk : k ≤ k') (r : α) (hr : g k = some r) : g k' = some r := at_rounds h hk hr
theorem ev_step {α β : Type} {f : Nat → Option α} {g : Nat → Option β} {a : α} {r : β} (H : Ev f a) (h : ∀ k, f k = some a → g (k + 1) = some r) : Ev g r := by
  obtain ⟨K, H⟩ := H;refine ⟨K + 1, fun k hk => ?_⟩;obtain ⟨k, rfl⟩ : ∃ m, k = m + 1 := ⟨k - 1, by omega⟩;exact h k (H k (by omega))
theorem ev_step2 {α β γ : Type} {f : Nat → Option α} {f2 : Nat → Option γ} {g : Nat → Option β} {a : α} {b : γ} {r : β} (H : Ev f a) (H2 : Ev f2 b) (h : ∀ k, f k = some a → f2 k = some b → g (k + 1) = some r) : Ev g r := by
  obtain ⟨K, H⟩ := H;obtain ⟨K2, H2⟩ := H2;refine ⟨K + K2 + 1, fun k hk => ?_⟩;obtain ⟨k, rfl⟩ : ∃ m, k = m + 1 := ⟨k - 1, by omega⟩;exact h k (H k (by omega)) (H2 k (by omega))
theorem ev_one {β : Type} {g : Nat → Option β} {r : β} (h : ∀ k, g (k + 1) = some r) : Ev g r := ⟨1, fun k hk => by
  obtain ⟨k, rfl⟩ : ∃ m, k = m + 1 := ⟨k - 1, by omega⟩
  exact h k⟩
theorem ev_same {α β : Type} {f : Nat → Option α} {g : Nat → Option β} {a : α} {r : β} (H : Ev f a) (h : ∀ k, f k = some a → g k = some r) : Ev g r := by
  obtain ⟨K, H⟩ := H;exact ⟨K, fun k hk => h k (H k hk)⟩
end Go.Proofs.Ytmjipbmpapcboaa.P
namespace Go.Proofs.Ytmjipbmpapcboaa.P
open Go.RowKit Go.Proofs.YtmjipbmpapcboaaW.PrintWords Go.Proofs.YtmjipbmpapcboaaW.PrintLast Go.Proofs.YtmjipbmpapcboaaW.PrintMore
set_option linter.unusedVariables false
def Ok {α : Type} (f : Nat → Option α) (p : α → Prop) : Prop := ∃ r, p r ∧ Ev f r
theorem ok_mono {α : Type} {f : Nat → Option α} {p q : α → Prop} (h : Ok f p) (hq : ∀ r, p r → q r) : Ok f q := by
  obtain ⟨r, h1, h2⟩ := h;exact ⟨r, hq r h1, h2⟩
theorem ok_now {α : Type} {p : α → Prop} {r : α} (h : p r) : Ok (fun _ => some r) p := ⟨r, h, 0, fun _ _ => rfl⟩
theorem ok_succ {α : Type} {g : Nat → Option α} {p : α → Prop} (h : Ok (fun k => g (k + 1)) p) : Ok g p := by
  obtain ⟨r, h1, K, h2⟩ := h;refine ⟨r, h1, K + 1, fun k hk => ?_⟩;obtain ⟨k, rfl⟩ : ∃ m, k = m + 1 := ⟨k - 1, by omega⟩;exact h2 k (by omega)
theorem ok_bind {α β : Type} {f : Nat → Option α} {h : α → Nat → Option β} {p : β → Prop} {q : α → Prop} (hf : Ok f q) (hh : ∀ r, q r → Ok (h r) p) : Ok (fun k => (f k).bind fun r => h r k) p := by
  obtain ⟨r, h1, K, h2⟩ := hf;obtain ⟨s, h3, K', h4⟩ := hh r h1;refine ⟨s, h3, K + K', fun k hk => ?_⟩;show (f k).bind (fun r => h r k) = some s;rw [h2 k (by omega)];exact h4 k (by omega)
theorem ok_ite {α : Type} {c : Prop} [Decidable c] {f g : Nat → Option α} {p : α → Prop} (h1 : c → Ok f p) (h2 : ¬ c → Ok g p) : Ok (fun k => if c then f k else g k) p := by
  by_cases hc : c
  · simp only [if_pos hc]
    exact h1 hc
  · simp only [if_neg hc]
    exact h2 hc
theorem ok_yes {α : Type} {c : Prop} [Decidable c] {f g : Nat → Option α} {p : α → Prop} (hc : c) (h1 : Ok f p) : Ok (fun k => if c then f k else g k) p := ok_ite (fun _ => h1) (fun h => absurd hc h)
theorem ok_no {α : Type} {c : Prop} [Decidable c] {f g : Nat → Option α} {p : α → Prop} (hc : ¬ c) (h1 : Ok g p) : Ok (fun k => if c then f k else g k) p := ok_ite (fun h => absurd h hc) (fun _ => h1)
theorem w_succ {i : Nat} (h : i < 1000000000) : wrap64 ((i : Int) + 1) = ((i + 1 : Nat) : Int) := wrap_succ i (by omega)
theorem w_pred {i : Nat} (h : i < 1000000000) : wrap64 ((i : Int) - 1) = (i : Int) - 1 := by
  rw [wrap_id (by omega) (by omega)]
theorem w_predS {i : Nat} (h : i < 1000000000) : wrap64 (((i + 1 : Nat) : Int) - 1) = (i : Int) := by
  rw [wrap_id (by omega) (by omega)]
  omega
theorem to_nat {x : Int} (h : 0 ≤ x) : ∃ i : Nat, x = (i : Int) := ⟨x.toNat, by omega⟩
end Go.Proofs.Ytmjipbmpapcboaa.P
namespace Go.Proofs.Ytmjipbmpapcboaa.P
open Go.RowKit Go.Proofs.YtmjipbmpapcboaaW.PrintWords Go.Proofs.YtmjipbmpapcboaaW.PrintLast Go.Proofs.YtmjipbmpapcboaaW.PrintMore
set_option linter.unusedVariables false
set_option linter.unusedSimpArgs false
def cls (c : Int) : Int := swFrom c class_reaches.tbl
theorem u64_id {x : Int} (h0 : 0 ≤ x) (h1 : x < 9223372036854775808) : IntKind.u64.wrap x = x := by
  show (x % 18446744073709551616) = x
  omega
theorem half_id {i j : Nat} (h : i ≤ 90) (h2 : j ≤ 90) : wrap64 ((IntKind.u64.wrap (wrap64 ((i : Int) + (j : Int)))) / 2) = (((i + j) / 2 : Nat) : Int) := by
  rw [wrap_id (x := (i : Int) + (j : Int)) (by omega) (by omega), u64_id (by omega) (by omega), wrap_id (by omega) (by omega)]
  omega
def tlo (i : Nat) : Int := (class_reaches.tbl.getD i (0, 0, 0)).1
def thi (i : Nat) : Int := (class_reaches.tbl.getD i (0, 0, 0)).2.1
def tcl (i : Nat) : Int := (class_reaches.tbl.getD i (0, 0, 0)).2.2
theorem t_len : class_reaches.tbl.length = 90 := by decide +kernel
theorem tr_len : (class_reaches.tbl.map class_reaches.row).length = 90 := by rw [List.length_map, t_len]
theorem t_up : ∀ i < 89, thi i < tlo (i + 1) := by decide +kernel
theorem t_in : ∀ i < 90, tlo i ≤ thi i := by decide +kernel
theorem t_mono (b : Nat) : ∀ a, a < b → b < 90 → thi a < tlo b := by
  induction b with
  | zero => intro a h; omega
  | succ b ih =>
    intro a h hb;have h1 := t_up b (by omega)
    by_cases e : a = b
    · subst e
      exact h1
    · have h2 := ih a (by omega) (by omega)
      have h3 := t_in b (by omega)
      omega
theorem rd_row (i : Nat) (h : i < 90) : rd_T68 (class_reaches.tbl.map class_reaches.row) (i : Int) = ⟨tlo i, thi i, tcl i⟩ := by
  unfold rd_T68 tlo thi tcl;rw [Int.toNat_natCast, List.getD_eq_getElem?_getD, List.getElem?_map, List.getD_eq_getElem?_getD, List.getElem?_eq_getElem (by rw [t_len]; exact h)];rfl
theorem find_loop (c : Int) (d : Nat) : ∀ (k i j : Nat), i ≤ j → j ≤ 90 → j - i ≤ d → d < k → (∀ a, a < i → thi a < c) → (∀ a, j ≤ a → a < 90 → c ≤ thi a) →
    ∃ m : Nat, m ≤ 90 ∧ (∀ a, a < m → thi a < c) ∧ (∀ a, m ≤ a → a < 90 → c ≤ thi a) ∧
      slices_BinarySearchFunc_class_reach_int_class_find_1.l0 k (class_reaches.tbl.map class_reaches.row) c (90 : Int) (i : Int) (j : Int) = some ((m : Int), decide (m < 90 ∧ tlo m ≤ c)) := by
  induction d with
  | zero =>
    intro k i j hij hj hd hk hlo hhi;obtain ⟨k, rfl⟩ : ∃ m, k = m + 1 := ⟨k - 1, by omega⟩
    obtain rfl : i = j := by omega
    refine ⟨i, hj, hlo, hhi, ?_⟩;simp only [slices_BinarySearchFunc_class_reach_int_class_find_1.l0];rw [if_neg (by omega)]
    by_cases hi : i < 90
    · have h2 := hhi i (Nat.le_refl _) hi
      rw [if_pos (by omega), if_pos (by omega), if_pos (by rw [tr_len]; omega), rd_row i hi];dsimp only [class_find_1.f];rw [if_neg (by omega)]
      by_cases h3 : tlo i ≤ c
      · rw [if_neg (by omega)]
        simp [hi, h3]
      · rw [if_pos (by omega)]
        simp [hi, h3]
    · rw [if_neg (by omega)]
      simp [hi]
  | succ d ih =>
    intro k i j hij hj hd hk hlo hhi;obtain ⟨k, rfl⟩ : ∃ m, k = m + 1 := ⟨k - 1, by omega⟩
    by_cases e : i = j
    · subst e
      exact ih (k + 1) i i (Nat.le_refl _) hj (by omega) (by omega) hlo hhi
    · simp only [slices_BinarySearchFunc_class_reach_int_class_find_1.l0]
      rw [if_pos (by omega), half_id (by omega) (by omega), if_pos (by omega), if_pos (by rw [tr_len]; omega), rd_row ((i + j) / 2) (by omega)];dsimp only [class_find_1.f]
      by_cases h1 : thi ((i + j) / 2) < c
      · rw [if_pos h1]
        simp only [Option.bind_some];rw [if_pos (by decide), wrap_succ _ (by omega)];refine ih k ((i + j) / 2 + 1) j (by omega) hj (by omega) (by omega) (fun a ha => ?_) hhi
        by_cases ea : a = (i + j) / 2
        · subst ea
          exact h1
        · have h4 := t_mono ((i + j) / 2) a (by omega) (by omega)
          have h5 := t_in ((i + j) / 2) (by omega)
          omega
      · have hh : ∀ a, (i + j) / 2 ≤ a → a < 90 → c ≤ thi a := by
          intro a ha hb
          by_cases ea : a = (i + j) / 2
          · subst ea
            omega
          · have h4 := t_mono a ((i + j) / 2) (by omega) (by omega)
            have h5 := t_in a (by omega)
            omega
        rw [if_neg h1]
        by_cases h2 : tlo ((i + j) / 2) > c
        · rw [if_pos h2]
          simp only [Option.bind_some];rw [if_neg (by decide)];exact ih k i ((i + j) / 2) (by omega) (by omega) (by omega) (by omega) hlo hh
        · rw [if_neg h2]
          simp only [Option.bind_some];rw [if_neg (by decide)];exact ih k i ((i + j) / 2) (by omega) (by omega) (by omega) (by omega) hlo hh
theorem sw_skip (c : Int) : ∀ (l : List (Int × Int × Int)) (m : Nat), (∀ a, a < m → a < l.length → ¬ ((l.getD a (0, 0, 0)).1 ≤ c ∧ c ≤ (l.getD a (0, 0, 0)).2.1)) → swFrom c l = swFrom c (l.drop m)
  | l, 0, _ => by simp
  | [], m + 1, _ => by simp
  | x :: l, m + 1, h => by
    have h0 := h 0 (by omega) (by simp);simp only [List.getD_cons_zero] at h0;simp only [swFrom, List.drop_succ_cons];rw [if_neg h0]
    exact sw_skip c l m fun a ha hl => by
      have := h (a + 1) (by omega) (by simpa using hl);simpa using this
theorem cls_eq (c : Int) (m : Nat) (hm : m ≤ 90) (hlo : ∀ a, a < m → thi a < c) (hhi : ∀ a, m ≤ a → a < 90 → c ≤ thi a) : cls c = if m < 90 ∧ tlo m ≤ c then tcl m else 0 := by
  unfold cls;rw [sw_skip c class_reaches.tbl m fun a ha _ h => by have := hlo a ha; unfold thi at this; omega]
  by_cases h : m < 90
  · rw [List.drop_eq_getElem_cons (by rw [t_len]; exact h)]
    have e : class_reaches.tbl[m]'(by rw [t_len]; exact h) = (tlo m, thi m, tcl m) := by
      unfold tlo thi tcl;rw [List.getD_eq_getElem?_getD, List.getElem?_eq_getElem (by rw [t_len]; exact h)];rfl
    rw [e];simp only [swFrom]
    by_cases h2 : tlo m ≤ c
    · rw [if_pos ⟨h2, hhi m (Nat.le_refl _) h⟩, if_pos ⟨h, h2⟩]
    · rw [if_neg (fun q => h2 q.1), if_neg (fun q => h2 q.2)]
      have h3 := sw_skip c (class_reaches.tbl.drop (m + 1)) 90 fun a ha hl q => by
        rw [List.length_drop, t_len] at hl;have h4 := t_mono (m + 1 + a) m (by omega) (by omega);have h5 := hhi m (Nat.le_refl _) h;have h6 := t_in m h;rw [List.getD_eq_getElem?_getD, List.getElem?_drop] at q
        have h7 : tlo (m + 1 + a) ≤ c := by
          unfold tlo;rw [List.getD_eq_getElem?_getD];exact q.1
        omega
      rw [h3, List.drop_eq_nil_of_le (by rw [List.length_drop, t_len]; omega)];rfl
  · rw [if_neg (fun q => h q.1), List.drop_eq_nil_of_le (by rw [t_len]; omega)]
    rfl
theorem find_eq (k : Nat) (hk : 91 ≤ k) (c : Int) : class_find.f k (class_reaches.tbl.map class_reaches.row) c = some (cls c) := by
  obtain ⟨m, hm, hlo, hhi, h⟩ := find_loop c 90 k 0 90 (by omega) (by omega) (by omega) (by omega) (fun a ha => by omega) (fun a ha hb => by omega);unfold class_find.f slices_BinarySearchFunc_class_reach_int_class_find_1.f;rw [tr_len];have h' : slices_BinarySearchFunc_class_reach_int_class_find_1.l0 k (class_reaches.tbl.map class_reaches.row) c ((90 : Nat) : Int) 0 ((90 : Nat) : Int) = some ((m : Int), decide (m < 90 ∧ tlo m ≤ c)) := h;rw [h', cls_eq c m hm hlo hhi];simp only [Option.bind_some]
  by_cases q : m < 90 ∧ tlo m ≤ c
  · rw [if_pos (by simpa using q), if_pos (by omega), if_pos (by omega), if_pos q, rd_row m q.1]
  · rw [if_neg (by simpa using q), if_neg q]
theorem class_of_eq (k : Nat) (hk : 91 ≤ k) (c : Int) : class_Of.f k c = some (cls c) := by
  unfold class_Of.f class_reaches.f;simp only [Option.bind_some];rw [find_eq k hk];rfl
theorem cls_range (c : Int) : 0 ≤ cls c ∧ cls c ≤ 22 := by
  unfold cls
  have h : ∀ x ∈ class_reaches.tbl, 0 ≤ x.2.2 ∧ x.2.2 ≤ 22 := by decide +kernel
  revert h
  generalize class_reaches.tbl = l;intro h
  induction l with
  | nil => simp [swFrom]
  | cons x l ih =>
    simp only [swFrom]
    split
    · exact h x (by simp)
    · exact ih fun y hy => h y (by simp [hy])
def classes : List Int := [0, 1, 2, 3, 4, 5, 6, 7, 8, 9, 10, 11, 12, 13, 14, 15, 16, 17, 18, 19, 20, 21, 22]
theorem in_classes {k : Int} (h0 : 0 ≤ k) (h1 : k ≤ 22) : k ∈ classes := by
  simp only [classes, List.mem_cons, List.not_mem_nil, or_false]
  omega
theorem by_class (P : Int → Prop) (hin : ∀ k ∈ classes, P k) (hout : ∀ k, k < 0 ∨ 22 < k → P k) (k : Int) : P k := by
  by_cases h : 0 ≤ k ∧ k ≤ 22
  · exact hin k (in_classes h.1 h.2)
  · exact hout k (by omega)
theorem in_out (k b : Int) (h : k < 0 ∨ 22 < k) : class_in.f k b = some false := by
  unfold class_in.f
  by_cases h1 : k ≥ 0
  · rw [if_pos h1, if_neg (by omega)]
  · rw [if_neg h1]
def outK (k : Int) : Bool := decide (k ∈ [14, 15, 16, 17, 18, 9])
theorem out_eq0 (k : Int) : class_Out.f 8 k = some (outK k) := by
  revert k
  refine by_class _ (by decide +kernel) fun k h => ?_
  obtain ⟨b, hb⟩ : ∃ b, class_set.f 8 ([14, 15, 16, 17, 18, 9] : List Int) = some b := Option.isSome_iff_exists.1 (by decide +kernel)
  have e : outK k = false := by
    unfold outK;rw [decide_eq_false_iff_not];simp only [List.mem_cons, List.not_mem_nil, or_false]
    omega
  unfold class_Out.f;rw [hb, e];simp only [Option.bind_some];rw [in_out k b h];rfl
theorem out_eq (n : Nat) (hn : 8 ≤ n) (k : Int) : class_Out.f n k = some (outK k) := more (class_Out.mono k) 8 n hn _ (out_eq0 k)
def opnK (k : Int) : Bool := decide (k ∈ [19, 20, 21])
theorem opens_eq0 (k : Int) : class_Opens.f 8 k = some (opnK k) := by
  revert k
  refine by_class _ (by decide +kernel) fun k h => ?_
  obtain ⟨b, hb⟩ : ∃ b, class_set.f 8 ([19, 20, 21] : List Int) = some b := Option.isSome_iff_exists.1 (by decide +kernel)
  have e : opnK k = false := by
    unfold opnK;rw [decide_eq_false_iff_not];simp only [List.mem_cons, List.not_mem_nil, or_false]
    omega
  unfold class_Opens.f;rw [hb, e];simp only [Option.bind_some];rw [in_out k b h];rfl
theorem opens_eq (n : Nat) (hn : 8 ≤ n) (k : Int) : class_Opens.f n k = some (opnK k) := more (class_Opens.mono k) 8 n hn _ (opens_eq0 k)
theorem ropens_eq (k : Int) : ductusref02_Opens.f k = some (opnK k) := by
  unfold ductusref02_Opens.f opnK
  repeat' split
  all_goals simp_all
  rfl
theorem rout0_eq (k : Int) : ductusref02_Out.f k = some (outK k) := by
  unfold ductusref02_Out.f outK
  repeat' split
  all_goals simp_all
  rfl
theorem rcls_eq (c : Int) : ductusref02_Of.f c = some (cls c) := rfl
theorem all_ok (l : List Int) (hl : l.length ≤ 1000000) : Ok (fun k => ductusref02_All.f k l) (fun r => r.length = l.length) := by
  have key : ∀ (d i : Nat) (acc : List Int), l.length - i = d → i ≤ l.length → acc.length = i → Ok (fun k => ductusref02_All.l0 k l acc (i : Int)) (fun r => r.length = l.length) := by
    intro d
    induction d with
    | zero =>
      intro i acc h1 h2 h3;refine ok_succ ?_;simp only [ductusref02_All.l0];exact ok_no (by omega) (ok_now (by omega))
    | succ d ih =>
      intro i acc h1 h2 h3;refine ok_succ ?_;simp only [ductusref02_All.l0, rcls_eq, Option.bind_some, w_succ (show i < 1000000000 by omega)];refine ok_yes (by omega) (ok_yes (by omega) (ok_yes (by omega) ?_));exact ih (i + 1) _ (by omega) (by omega) (by rw [List.length_append, h3]; rfl)
  exact key l.length 0 [] rfl (by omega) rfl
def EndP (l : List Int) (i : Nat) (r : Int) : Prop := r = -1 ∨ ((i : Int) ≤ r ∧ r < (l.length : Int) ∧ rd l r = 22)
theorem end_loop (l : List Int) (hl : l.length ≤ 1000000) (j : Nat) : ∀ (d i : Nat) (x : Int), l.length - i = d → j ≤ i → Ok (fun k => ductusref05_End.l0 k l x (i : Int)) (EndP l j) := by
  intro d
  induction d with
  | zero =>
    intro i x h1 h2;refine ok_succ ?_;simp only [ductusref05_End.l0];refine ok_no (by omega) (ok_succ ?_);simp only [ductusref05_End.j1];exact ok_no (by decide) (ok_now (Or.inl rfl))
  | succ d ih =>
    intro i x h1 h2;refine ok_succ ?_;simp only [ductusref05_End.l0];refine ok_yes (by omega) (ok_yes (by omega) (ok_succ ?_));simp only [ductusref05_End.j1, ropens_eq, Option.bind_some];refine ok_ite (fun _ => ?_) (fun _ => ok_now (Or.inl rfl));refine ok_yes (by omega) (ok_yes (by omega) ?_)
    have two : ∀ y : Int, Ok (fun k => ductusref05_End.j2 k l y (i : Int)) (EndP l j) := by
      intro y;refine ok_succ ?_;simp only [ductusref05_End.j2, w_succ (show i < 1000000000 by omega)];refine ok_yes (by omega) (ok_yes (by omega) ?_);refine ok_ite (fun h => ok_ite (fun _ => ok_now (Or.inr ⟨by omega, by omega, h⟩)) (fun _ => ?_)) (fun _ => ?_)
      · exact ih (i + 1) _ (by omega) (by omega)
      · exact ih (i + 1) _ (by omega) (by omega)
    exact ok_ite (fun _ => two _) (fun _ => two _)
theorem end_ok (l : List Int) (hl : l.length ≤ 1000000) (i : Nat) (hi : i ≤ l.length) : Ok (fun k => ductusref05_End.f k l (i : Int)) (EndP l (i + 1)) := by
  unfold ductusref05_End.f;simp only [w_succ (show i < 1000000000 by omega)];exact end_loop l hl (i + 1) _ (i + 1) 1 rfl (Nat.le_refl _)
theorem word_ok (x : Int) : ∃ b : ByteArray, ductusref02_Word.f x = some b := by
  by_cases h : 0 ≤ x ∧ x ≤ 22
  · obtain ⟨r, h1, _⟩ := word_in x h
    exact ⟨r, h1⟩
  · obtain ⟨r, h1, _⟩ := word_out x h
    exact ⟨r, h1⟩
theorem first_loop (l : List Int) (hl : l.length ≤ 1000000) (b0 : Int) : ∀ (d i : Nat), l.length - i ≤ d → Ok (fun k => ductusref05_First.l0 k l b0 (i : Int)) (fun _ => True) := by
  intro d
  induction d with
  | zero =>
    intro i h1;refine ok_succ ?_;simp only [ductusref05_First.l0];exact ok_no (by unfold mn; split <;> omega) (ok_now trivial)
  | succ d ih =>
    intro i h1;refine ok_succ ?_;simp only [ductusref05_First.l0, ropens_eq, Option.bind_some];refine ok_ite (fun hlt => ?_) (fun _ => ok_now trivial)
    have hi : i < l.length := by unfold mn at hlt; split at hlt <;> omega
    refine ok_yes (by omega) (ok_yes (by omega) (ok_ite (fun _ => ok_now trivial) (fun _ => ?_)))
    have one : ∀ b : Bool, Ok (fun k => ductusref05_First.j1 k l b0 (i : Int) b) (fun _ => True) := by
      intro b;refine ok_succ ?_;obtain ⟨wd, hwd⟩ := word_ok (rd l (i : Int));simp only [ductusref05_First.j1, hwd, Option.bind_some, w_succ (show i < 1000000000 by omega)];refine ok_ite (fun _ => ok_now trivial) (fun _ => ok_yes (by omega) (ok_yes (by omega) (ok_ite (fun _ => ok_now trivial) (fun _ => ok_ite (fun _ => ok_now trivial) (fun _ => ?_)))));exact ih (i + 1) (by omega)
    refine ok_ite (fun _ => ?_) (fun _ => ok_ite (fun _ => one _) (fun _ => one _));refine ok_bind (end_ok l hl i (by omega)) (fun r hr => ?_);refine ok_ite (fun _ => ok_now trivial) (fun h => ok_ite (fun _ => ok_now trivial) (fun _ => ?_))
    rcases hr with hr | ⟨h2, h3, _⟩
    · omega
    · obtain ⟨m, rfl⟩ := to_nat (x := r) (by omega)
      simp only [w_succ (show m < 1000000000 by omega)];exact ih (m + 1) (by omega)
theorem first_ok (l : List Int) (hl : l.length ≤ 1000000) (a b : Int) (ha : a ≤ 100000000) : Ok (fun k => ductusref05_First.f k l a b) (fun _ => True) := by
  unfold ductusref05_First.f;obtain ⟨m, hm⟩ := to_nat (x := mx 0 a) (by unfold mx; split <;> omega);rw [hm];exact first_loop l hl b _ m (Nat.le_refl _)
theorem level05_ok (l : List Int) (hl : l.length ≤ 1000000) (dir : Int) : Ok (fun k => ductusref05_Level.f k l dir) (fun _ => True) := by
  unfold ductusref05_Level.f;refine ok_ite (fun _ => ok_now trivial) (fun _ => ok_ite (fun _ => ok_now trivial) (fun _ => ?_));exact ok_bind (first_ok l hl 0 _ (by omega)) (fun r _ => ok_now trivial)
theorem isolate05_ok (l : List Int) (hl : l.length ≤ 1000000) (i : Nat) (hi : i < l.length) : Ok (fun k => ductusref05_Isolate.f k l (i : Int)) (fun _ => True) := by
  unfold ductusref05_Isolate.f;refine ok_no (by omega) (ok_succ ?_);simp only [ductusref05_Isolate.j0, w_succ (show i < 1000000000 by omega)];refine ok_ite (fun _ => ok_now trivial) (fun _ => ok_yes (by omega) (ok_yes (by omega) ?_));refine ok_ite (fun _ => ok_now trivial) (fun _ => ok_ite (fun _ => ok_now trivial) (fun _ => ok_ite (fun _ => ?_) (fun _ => ok_now trivial)));refine ok_bind (end_ok l hl i (by omega)) (fun r _ => ?_);refine ok_ite (fun _ => ?_) (fun _ => ?_)
  · exact ok_bind (first_ok l hl _ _ (by omega)) (fun r _ => ok_now trivial)
  · exact ok_bind (first_ok l hl _ _ (by omega)) (fun r _ => ok_now trivial)
def Later (l m : List Int) : Prop := m.length = l.length ∧ ∀ i : Nat, i < l.length → opnK (rd l (i : Int)) = true → rd m (i : Int) = -1 ∨ (i : Int) < rd m (i : Int)
theorem rd_set (l : List Int) (i j : Nat) (x : Int) (h : i < l.length) : rd (l.set i x) (j : Int) = if i = j then x else rd l (j : Int) := by
  rw [rd_nat, rd_nat, List.getD_eq_getElem?_getD, List.getD_eq_getElem?_getD, List.getElem?_set]
  by_cases hij : i = j
  · subst hij
    rw [if_pos rfl, if_pos rfl, if_pos h];rfl
  · rw [if_neg hij, if_neg hij]
theorem match_two (l : List Int) (hl : l.length ≤ 1000000) : ∀ (d i : Nat) (m : List Int), l.length - i = d → Later l m → Ok (fun k => ductusref05_Match.l1 k l m (i : Int)) (Later l) := by
  intro d
  induction d with
  | zero =>
    intro i m h1 h2;refine ok_succ ?_;simp only [ductusref05_Match.l1];exact ok_no (by omega) (ok_now h2)
  | succ d ih =>
    intro i m h1 h2;have hm := h2.1;refine ok_succ ?_;simp only [ductusref05_Match.l1, ropens_eq, Option.bind_some, w_succ (show i < 1000000000 by omega)];refine ok_yes (by omega) (ok_yes (by omega) ?_);refine ok_ite (fun _ => ?_) (fun _ => ih (i + 1) m (by omega) h2);refine ok_bind (end_ok l hl i (by omega)) (fun r hr => ?_);refine ok_yes (by omega) ?_
    have h3 : Later l (m.set (i : Int).toNat r) := by
      refine ⟨by rw [List.length_set]; exact hm, fun j hj hjo => ?_⟩;rw [Int.toNat_natCast, rd_set m i j r (by omega)]
      by_cases hij : i = j
      · subst hij
        rw [if_pos rfl]
        rcases hr with hr | ⟨hr, _⟩
        · exact Or.inl hr
        · exact Or.inr (by omega)
      · rw [if_neg hij]
        exact h2.2 j hj hjo
    refine ok_ite (fun h4 => ?_) (fun _ => ih (i + 1) _ (by omega) h3)
    rcases hr with hr | ⟨hr1, hr2, hr3⟩
    · omega
    refine ok_yes (by omega) (ok_yes (by omega) ?_);refine ih (i + 1) _ (by omega) ?_;obtain ⟨q, rfl⟩ := to_nat (x := r) (by omega);refine ⟨by rw [List.length_set]; exact h3.1, fun j hj hjo => ?_⟩;simp only [Int.toNat_natCast];rw [rd_set _ q j _ (by rw [List.length_set]; omega)]
    by_cases hij : q = j
    · subst hij
      rw [hr3] at hjo;exact absurd hjo (by decide)
    · rw [if_neg hij]
      have := h3.2 j hj hjo
      rwa [Int.toNat_natCast] at this
theorem match_one (l : List Int) (hl : l.length ≤ 1000000) : ∀ (d i : Nat) (m : List Int), l.length - i = d → i ≤ l.length → m.length = l.length → (∀ j : Nat, j < i → rd m (j : Int) = -1) → Ok (fun k => ductusref05_Match.l0 k l m (i : Int)) (Later l) := by
  intro d
  induction d with
  | zero =>
    intro i m h1 h2 h3 h4;refine ok_succ ?_;simp only [ductusref05_Match.l0];refine ok_no (by omega) ?_;exact match_two l hl _ 0 m rfl ⟨h3, fun j hj _ => Or.inl (h4 j (by omega))⟩
  | succ d ih =>
    intro i m h1 h2 h3 h4;refine ok_succ ?_;simp only [ductusref05_Match.l0, w_succ (show i < 1000000000 by omega)];refine ok_yes (by omega) (ok_yes (by omega) (ok_yes (by omega) ?_));refine ih (i + 1) _ (by omega) (by omega) (by rw [List.length_set]; exact h3) (fun j hj => ?_);rw [Int.toNat_natCast, rd_set m i j _ (by omega)]
    by_cases hij : i = j
    · rw [if_pos hij]
    · rw [if_neg hij]
      exact h4 j (by omega)
theorem match_ok (l : List Int) (hl : l.length ≤ 1000000) : Ok (fun k => ductusref05_Match.f k l) (Later l) := by
  unfold ductusref05_Match.f;refine ok_yes (by omega) (ok_yes (by omega) ?_);exact match_one l hl _ 0 _ rfl (by omega) (by rw [List.length_replicate]; omega) (fun j hj => by omega)
theorem go_ok (l : List Int) (hl : l.length ≤ 50000) : ∀ (r : List Int) (i : Nat) (s : WSt), i + r.length = l.length → Fit s i → Ok (fun k => goW k l r i s) (fun s' => Fit s' l.length)
  | [], i, s, h, hf => by
    have e : i = l.length := by simpa using h
    simp only [goW];exact ok_now (e ▸ hf)
  | x :: r, i, s, h, hf => by
    rw [List.length_cons] at h;simp only [goW];refine ok_ite (fun _ => ?_) (fun _ => ?_)
    · exact ok_bind (isolate05_ok l (by omega) i (by omega)) (fun d _ => go_ok l hl r (i + 1) _ (by omega) (hf.isolate x d))
    · exact go_ok l hl r (i + 1) _ (by omega) (hf.step x)
theorem of06_ok (l : List Int) (hl : l.length ≤ 50000) (b : Int) : Ok (fun k => ductusref06_Of.f k l b) (fun r => r.1.length = l.length ∧ r.2.length = l.length) := by
  unfold ductusref06_Of.f;refine ok_yes hl ?_;exact ok_bind (go_ok l hl l 0 _ (by omega) (fit0 b)) (fun s hs => ok_now ⟨hs.lv, hs.cl⟩)
theorem plain_ok (l : List Int) (hl : l.length ≤ 1000000) : Ok (fun k => ductusref09_Plain.f k l) (fun r => r.length = l.length) := by
  have key : ∀ (d i : Nat) (acc : List Int), l.length - i = d → i ≤ l.length → acc.length = i → Ok (fun k => ductusref09_Plain.l0 k l acc (i : Int)) (fun r => r.length = l.length) := by
    intro d
    induction d with
    | zero =>
      intro i acc h1 h2 h3;refine ok_succ ?_;simp only [ductusref09_Plain.l0];exact ok_no (by omega) (ok_now (by omega))
    | succ d ih =>
      intro i acc h1 h2 h3;obtain ⟨b, hb⟩ := word_ok (rd l (i : Int));refine ok_succ ?_;simp only [ductusref09_Plain.l0, hb, Option.bind_some, w_succ (show i < 1000000000 by omega)]
      have hn := fun x : Int => ih (i + 1) (acc ++ [x]) (by omega) (by omega) (by rw [List.length_append, h3]; rfl)
      exact ok_yes (by omega) (ok_yes (by omega) (ok_ite (fun _ => ok_yes (by omega) (hn _)) (fun _ => ok_yes (by omega) (hn _))))
  exact key l.length 0 [] rfl (by omega) rfl
theorem at_some (l : List Int) (x : Int) : ∃ y, ductusref09_at.f l x = some y := by
  unfold ductusref09_at.f
  by_cases h1 : x < 0
  · rw [if_pos h1]
    exact ⟨_, rfl⟩
  · rw [if_neg h1]
    by_cases h2 : x ≥ (l.length : Int)
    · rw [if_pos h2]
      exact ⟨_, rfl⟩
    · rw [if_neg h2, if_pos (by omega), if_pos (by omega)]
      exact ⟨_, rfl⟩
theorem side_some (x : Int) : ∃ y, ductusref09_side.f x = some y := by
  unfold ductusref09_side.f
  split
  · exact ⟨_, rfl⟩
  · exact ⟨_, rfl⟩
theorem strong02_some (x : Int) : ∃ y, ductusref02_Strong.f x = some y := by
  unfold ductusref02_Strong.f
  split
  · exact ⟨_, rfl⟩
  · split
    · exact ⟨_, rfl⟩
    · exact ⟨_, rfl⟩
theorem marks_loop (n : Nat) (hn : n ≤ 1000000) (s : Int) : ∀ (d i : Nat) (l : List Int), n - i = d → l.length = n → Ok (fun k => ductusref09_marks.l0 k l s (i : Int)) (fun r => r.length = n) := by
  intro d
  induction d with
  | zero =>
    intro i l h1 h2;refine ok_succ ?_;simp only [ductusref09_marks.l0];exact ok_no (by omega) (ok_now h2)
  | succ d ih =>
    intro i l h1 h2
    have hn : ∀ x : Int, Ok (fun k => ductusref09_marks.l0 k (l.set (i : Int).toNat x) s ((i + 1 : Nat) : Int)) (fun r => r.length = n) := fun x => ih (i + 1) _ (by omega) (by rw [List.length_set]; exact h2)
    refine ok_succ ?_;simp only [ductusref09_marks.l0, ropens_eq, Option.bind_some, w_succ (show i < 1000000000 by omega)];refine ok_yes (by omega) (ok_yes (by omega) (ok_ite (fun _ => ok_ite (fun _ => hn _) (fun h3 => ?_)) (fun _ => ih (i + 1) l (by omega) h2)));obtain ⟨m, rfl⟩ : ∃ m, i = m + 1 := ⟨i - 1, by omega⟩;simp only [w_predS (show m < 1000000000 by omega)];exact ok_yes (by omega) (ok_yes (by omega) (ok_ite (fun _ => hn _) (fun _ => ok_ite (fun _ => hn _) (fun _ => hn _))))
theorem parts_loop (n : Nat) (hn : n ≤ 1000000) : ∀ (d i : Nat) (l : List Int), n - i = d → l.length = n → Ok (fun k => ductusref09_parts.l0 k l (i : Int)) (fun r => r.length = n) := by
  intro d
  induction d with
  | zero =>
    intro i l h1 h2;refine ok_succ ?_;simp only [ductusref09_parts.l0];exact ok_no (by omega) (ok_now h2)
  | succ d ih =>
    intro i l h1 h2
    have hn : ∀ x : Int, Ok (fun k => ductusref09_parts.l0 k (l.set (i : Int).toNat x) ((i + 1 : Nat) : Int)) (fun r => r.length = n) := fun x => ih (i + 1) _ (by omega) (by rw [List.length_set]; exact h2)
    have hs := ih (i + 1) l (by omega) h2;obtain ⟨y1, e1⟩ := at_some l (wrap64 ((i : Int) - 1));obtain ⟨y2, e2⟩ := at_some l ((i + 1 : Nat) : Int);refine ok_succ ?_;simp only [ductusref09_parts.l0, e1, w_succ (show i < 1000000000 by omega), e2, Option.bind_some];refine ok_yes (by omega) (ok_yes (by omega) (ok_ite (fun h3 => ?_) (fun h3 => ?_)))
    · have h4 : ¬ (rd l (i : Int) = 7) := by omega
      exact ok_ite (fun _ => ok_ite (fun _ => hn _) (fun _ => ok_no h4 hs)) (fun _ => ok_no h4 hs)
    · exact ok_ite (fun _ => ok_ite (fun _ => ok_ite (fun _ => hn _) (fun _ => ok_ite (fun _ => hn _) (fun _ => hs))) (fun _ => hs)) (fun _ => hs)
theorem ends_loop (n : Nat) (hn : n ≤ 1000000) : ∀ (e m : Nat) (l : List Int), n + 1 - m = e → l.length = n → Ok (fun k => ductusref09_ends.l0 k l (m : Int)) (fun r => r.length = n) := by
  intro e
  induction e with
  | zero =>
    intro m l h1 h2;refine ok_succ ?_;simp only [ductusref09_ends.l0];exact ok_no (by omega) (ok_now h2)
  | succ e ihe =>
    intro m l h1 h2
    have one : ∀ (d i : Nat) (l : List Int), n - i = d → l.length = n → Ok (fun k => ductusref09_ends.l1 k l (m : Int) (i : Int)) (fun r => r.length = n) := by
      intro d
      induction d with
      | zero =>
        intro i l h3 h4;refine ok_succ ?_;simp only [ductusref09_ends.l1, w_succ (show m < 1000000000 by omega)];exact ok_no (by omega) (ihe (m + 1) l (by omega) h4)
      | succ d ih =>
        intro i l h3 h4;have hn : Ok (fun k => ductusref09_ends.l1 k (l.set (i : Int).toNat 3) (m : Int) ((i + 1 : Nat) : Int)) (fun r => r.length = n) := ih (i + 1) _ (by omega) (by rw [List.length_set]; exact h4);have hs := ih (i + 1) l (by omega) h4;obtain ⟨y1, e1⟩ := at_some l (wrap64 ((i : Int) - 1));obtain ⟨y2, e2⟩ := at_some l ((i + 1 : Nat) : Int);refine ok_succ ?_;simp only [ductusref09_ends.l1, e1, w_succ (show i < 1000000000 by omega), e2, Option.bind_some];exact ok_yes (by omega) (ok_yes (by omega) (ok_ite (fun _ => ok_ite (fun _ => hn) (fun _ => ok_ite (fun _ => hn) (fun _ => hs))) (fun _ => hs)))
    refine ok_succ ?_;simp only [ductusref09_ends.l0];exact ok_yes (by omega) (one _ 0 l rfl h2)
theorem strong09_ok (l : List Int) (hl : l.length ≤ 1000000) (i : Nat) (hi : i ≤ l.length) (s : Int) : Ok (fun k => ductusref09_Strong.f k l (i : Int) s) (fun _ => True) := by
  obtain ⟨y, hy⟩ := side_some s
  have key : ∀ (p : List Int), p.length = l.length → ∀ i : Nat, i ≤ p.length → Ok (fun k => ductusref09_Strong.l0 k p s ((i : Int) - 1)) (fun _ => True) := by
    intro p hp i
    induction i with
    | zero =>
      intro h1;refine ok_succ ?_;simp only [ductusref09_Strong.l0, hy, Option.bind_some];exact ok_no (by omega) (ok_now trivial)
    | succ i ih =>
      intro h1;obtain ⟨z, hz⟩ := strong02_some (rd p (i : Int));refine ok_succ ?_;rw [show ((i + 1 : Nat) : Int) - 1 = (i : Int) from by omega];simp only [ductusref09_Strong.l0, hz, Option.bind_some, w_pred (show i < 1000000000 by omega)];exact ok_yes (by omega) (ok_yes (by omega) (ok_yes (by omega) (ok_ite (fun _ => ok_now trivial) (fun _ => ih (by omega)))))
  unfold ductusref09_Strong.f;refine ok_bind (plain_ok l hl) (fun p hp => ok_no (by omega) (ok_succ ?_));simp only [ductusref09_Strong.j0, hy, Option.bind_some, w_pred (show i < 1000000000 by omega)];exact ok_ite (fun _ => ok_now trivial) (fun _ => key p hp i (by omega))
theorem rule_loop (w : List Int) (n : Nat) (hn : n ≤ 1000000) (hw : w.length = n) (s x : Int) : ∀ (d i : Nat) (l : List Int), n - i = d → l.length = n → Ok (fun k => ductusref09_Rule.l0 k s x l w (i : Int)) (fun r => r.length = n) := by
  intro d
  induction d with
  | zero =>
    intro i l h1 h2;refine ok_succ ?_;simp only [ductusref09_Rule.l0];exact ok_no (by omega) (ok_now h2)
  | succ d ih =>
    intro i l h1 h2
    have hset : ∀ y : Int, Ok (fun k => ductusref09_Rule.l0 k s x (l.set (i : Int).toNat y) w ((i + 1 : Nat) : Int)) (fun r => r.length = n) := fun y => ih (i + 1) _ (by omega) (by rw [List.length_set]; exact h2)
    have hs := ih (i + 1) l (by omega) h2;have hst := strong09_ok w (by omega) i (by omega) s
    have four : ∀ b : Bool, Ok (fun k => ductusref09_Rule.j4 k s x l w (i : Int) b) (fun r => r.length = n) := by
      intro b;refine ok_succ ?_;simp only [ductusref09_Rule.j4, w_succ (show i < 1000000000 by omega)];refine ok_ite (fun _ => ok_yes (by omega) (ok_yes (by omega) (hset _))) (fun _ => ok_ite (fun _ => ok_yes (by omega) (ok_yes (by omega) (ok_ite (fun _ => ?_) (fun _ => hs)))) (fun _ => hs));exact ok_bind hst (fun y _ => ok_ite (fun _ => hset _) (fun _ => hs))
    have three : ∀ b : Bool, Ok (fun k => ductusref09_Rule.j3 k s x l w (i : Int) b) (fun r => r.length = n) := by
      intro b;refine ok_succ ?_;simp only [ductusref09_Rule.j3, w_succ (show i < 1000000000 by omega)];exact ok_ite (fun _ => ok_yes (by omega) (ok_yes (by omega) (hset _))) (fun _ => ok_ite (fun _ => ok_yes (by omega) (ok_yes (by omega) (ok_ite (fun _ => four _) (fun _ => ok_ite (fun _ => four _) (fun _ => four _))))) (fun _ => four _))
    have two : ∀ b : Bool, Ok (fun k => ductusref09_Rule.j2 k s x l w (i : Int) b) (fun r => r.length = n) := by
      intro b;refine ok_succ ?_;simp only [ductusref09_Rule.j2, w_succ (show i < 1000000000 by omega)];exact ok_ite (fun _ => ok_yes (by omega) (ok_yes (by omega) (hset _))) (fun _ => ok_ite (fun _ => ok_yes (by omega) (ok_yes (by omega) (three _))) (fun _ => three _))
    refine ok_succ ?_;simp only [ductusref09_Rule.l0];exact ok_yes (by omega) (ok_ite (fun _ => ok_yes (by omega) (ok_ite (fun _ => ok_bind hst (fun y _ => two _)) (fun _ => two _))) (fun _ => two _))
theorem rule_ok (l : List Int) (hl : l.length ≤ 1000000) (s x : Int) : Ok (fun k => ductusref09_Rule.f k l s x) (fun r => r.length = l.length) := by
  unfold ductusref09_Rule.f;refine ok_bind (plain_ok l hl) (fun p hp => ?_);obtain ⟨y, hy⟩ := side_some s;simp only [hy, Option.bind_some];refine ok_bind (plain_ok l hl) (fun w hw => ?_)
  have zero : ∀ q : List Int, q.length = l.length → Ok (fun k => ductusref09_Rule.j0 k y x q w) (fun r => r.length = l.length) := by
    intro q hq;refine ok_succ ?_;simp only [ductusref09_Rule.j0];exact rule_loop w l.length hl hw y x _ 0 q rfl hq
  refine ok_ite (fun _ => ok_bind (marks_loop l.length hl y _ 0 p rfl hp) (fun q hq => zero q hq)) (fun _ => ok_ite (fun _ => ok_bind (parts_loop l.length hl _ 0 p rfl hp) (fun q hq => zero q hq)) (fun _ => ok_ite (fun _ => ok_bind (ends_loop l.length hl _ 0 p rfl hp) (fun q hq => zero q hq)) (fun _ => zero p hp)))
theorem of09_ok (l : List Int) (hl : l.length ≤ 1000000) (s : Int) : Ok (fun k => ductusref09_Of.f k l s) (fun r => r.length = l.length) := by
  have key : ∀ (d i : Nat) (p : List Int), 8 - i = d → p.length = l.length → Ok (fun k => ductusref09_Of.l0 k s p (i : Int)) (fun r => r.length = l.length) := by
    intro d
    induction d with
    | zero =>
      intro i p h1 h2;refine ok_succ ?_;simp only [ductusref09_Of.l0];exact ok_no (by omega) (ok_now h2)
    | succ d ih =>
      intro i p h1 h2;refine ok_succ ?_;simp only [ductusref09_Of.l0, w_succ (show i < 1000000000 by omega)];exact ok_yes (by omega) (ok_bind (rule_ok p (by omega) s _) (fun q hq => ih (i + 1) q (by omega) (by omega)))
  unfold ductusref09_Of.f;exact ok_bind (plain_ok l hl) (fun p hp => key _ 1 p rfl hp)
def Asc (n : Nat) (r : List Int) : Prop := r.Pairwise (· < ·) ∧ ∀ x ∈ r, 0 ≤ x ∧ x < (n : Int)
theorem rd_mem (s : List Int) (i : Nat) (h : i < s.length) : rd s (i : Int) ∈ s := by
  rw [rd_get s i h];exact List.getElem_mem h
theorem seen_loop (l : List Int) (hl : l.length ≤ 1000000) : ∀ (d i : Nat) (acc : List Int), l.length - i = d → i ≤ l.length → acc.length ≤ i → Asc i acc → Ok (fun k => ductusref08_seen.l0 k l acc (i : Int)) (fun r => Asc l.length r ∧ r.length ≤ l.length) := by
  intro d
  induction d with
  | zero =>
    intro i acc h1 h2 h3 h4
    have e : i = l.length := by omega
    refine ok_succ ?_;simp only [ductusref08_seen.l0];exact ok_no (by omega) (ok_now ⟨e ▸ h4, by omega⟩)
  | succ d ih =>
    intro i acc h1 h2 h3 h4;have h5 : Asc (i + 1) acc := ⟨h4.1, fun x hx => by have := h4.2 x hx; omega⟩;refine ok_succ ?_;simp only [ductusref08_seen.l0, rout0_eq, Option.bind_some, w_succ (show i < 1000000000 by omega)];refine ok_yes (by omega) (ok_yes (by omega) (ok_ite (fun _ => ih (i + 1) acc (by omega) (by omega) (by omega) h5) (fun _ => ok_yes (by omega) ?_)));refine ih (i + 1) _ (by omega) (by omega) (by rw [List.length_append]; simp only [List.length_singleton]; omega) ⟨?_, fun x hx => ?_⟩
    · refine List.pairwise_append.2 ⟨h4.1, List.pairwise_singleton _ _, fun a ha b hb => ?_⟩
      rw [List.mem_singleton] at hb;have := h4.2 a ha
      omega
    · rcases List.mem_append.1 hx with hx | hx
      · exact h5.2 x hx
      · rw [List.mem_singleton] at hx
        omega
theorem seen_ok (l : List Int) (hl : l.length ≤ 1000000) : Ok (fun k => ductusref08_seen.f k l) (fun r => Asc l.length r ∧ r.length ≤ l.length) :=
  seen_loop l hl _ 0 [] rfl (by omega) (Nat.le_refl _) ⟨List.Pairwise.nil, fun x hx => by cases hx⟩
def Runs (s : List Int) (out : List (List Int)) : Prop := out.flatten = s ∧ ∀ q ∈ out, q ≠ []
theorem set_last {α : Type} (a : List α) (x y : α) : (a ++ [x]).set a.length y = a ++ [y] := by simp
theorem runs_new {s : List Int} {out : List (List Int)} (h : Runs s out) (x : Int) : Runs (s ++ [x]) ((out ++ [[]]).set out.length ([] ++ [x])) := by
  rw [set_last];refine ⟨by rw [List.flatten_append, h.1]; rfl, fun q hq => ?_⟩
  rcases List.mem_append.1 hq with hq | hq
  · exact h.2 q hq
  · rw [List.mem_singleton] at hq
    subst hq
    simp
theorem runs_on {s : List Int} {o : List (List Int)} {q : List Int} (h : Runs s (o ++ [q])) (x : Int) : Runs (s ++ [x]) ((o ++ [q]).set o.length (q ++ [x])) := by
  rw [set_last];refine ⟨by rw [← h.1, List.flatten_append, List.flatten_append]; simp, fun p hp => ?_⟩
  rcases List.mem_append.1 hp with hp | hp
  · exact h.2 p (List.mem_append_left _ hp)
  · rw [List.mem_singleton] at hp
    subst hp
    simp
theorem rd_last (o : List (List Int)) (q : List Int) : rd_L2 (o ++ [q]) (o.length : Int) = q := by
  unfold rd_L2;rw [Int.toNat_natCast, List.getD_eq_getElem?_getD, List.getElem?_append_right (Nat.le_refl _), Nat.sub_self];rfl
theorem w_last (o : List (List Int)) (q : List Int) (h : o.length < 1000000000) : wrap64 (((o ++ [q]).length : Int) - 1) = (o.length : Int) := by
  rw [List.length_append, List.length_singleton];exact w_predS h
theorem take_rd (s : List Int) (i : Nat) (h : i < s.length) : s.take (i + 1) = s.take i ++ [rd s (i : Int)] := by
  rw [rd_get s i h];exact List.take_succ_eq_append_getElem h
theorem lists_loop (a b s : List Int) (hab : a.length = b.length) (ha : a.length ≤ 1000000) (hs : Asc a.length s) (hsl : s.length ≤ a.length) : ∀ (d i : Nat) (out : List (List Int)), s.length - i = d → i ≤ s.length → out.length ≤ i → (0 < i → out ≠ []) → Runs (s.take i) out → Ok (fun k => ductusref08_Lists.l0 k a b out s (i : Int)) (fun r => Runs s r ∧ r.length ≤ s.length) := by
  intro d
  induction d with
  | zero =>
    intro i out h1 h2 h3 h4 h5;refine ok_succ ?_;simp only [ductusref08_Lists.l0];rw [List.take_of_length_le (by omega)] at h5;exact ok_no (by omega) (ok_now ⟨h5, by omega⟩)
  | succ d ih =>
    intro i out h1 h2 h3 h4 h5
    have hi : i < s.length := by omega
    have hnew : Ok (fun k => ductusref08_Lists.l0 k a b ((out ++ [[]]).set out.length ([] ++ [rd s (i : Int)])) s ((i + 1 : Nat) : Int)) (fun r => Runs s r ∧ r.length ≤ s.length) := by
      refine ih (i + 1) _ (by omega) (by omega) ?_ (fun _ => ?_) (take_rd s i hi ▸ runs_new h5 _)
      · rw [set_last, List.length_append]
        simp only [List.length_singleton]
        omega
      · rw [set_last]
        simp
    have hx := hs.2 _ (rd_mem s i hi);refine ok_succ ?_;simp only [ductusref08_Lists.l0, Option.bind_some, w_succ (show i < 1000000000 by omega), w_last out [] (by omega), rd_last, Int.toNat_natCast]
    have l1 : (out ++ [([] : List Int)]).length = out.length + 1 := by rw [List.length_append]; rfl
    refine ok_yes (by omega) (ok_ite (fun h6 => ?_) (fun h6 => ?_))
    · exact ok_yes (by omega) (ok_yes (by omega) (ok_yes (by omega) (ok_yes (by omega) (ok_yes (by simp only [List.length_nil]; omega) hnew))))
    · obtain ⟨m, rfl⟩ : ∃ m, i = m + 1 := ⟨i - 1, by omega⟩
      have hy := hs.2 _ (rd_mem s m (by omega));simp only [w_predS (show m < 1000000000 by omega)];obtain ⟨o, q, rfl⟩ : ∃ o q, out = o ++ [q] := ⟨out.dropLast, out.getLast (h4 (by omega)), (List.dropLast_concat_getLast _).symm⟩
      have l2 : (o ++ [q]).length = o.length + 1 := by rw [List.length_append]; rfl
      have hon : Ok (fun k => ductusref08_Lists.l0 k a b ((o ++ [q]).set o.length (q ++ [rd s ((m + 1 : Nat) : Int)])) s ((m + 1 + 1 : Nat) : Int)) (fun r => Runs s r ∧ r.length ≤ s.length) := by
        refine ih (m + 1 + 1) _ (by omega) (by omega) ?_ (fun _ => ?_) (take_rd s (m + 1) hi ▸ runs_on h5 _)
        · rw [set_last, List.length_append]
          simp only [List.length_singleton]
          omega
        · rw [set_last]
          simp
      have hq : q.length ≤ s.length := by
        have e := congrArg List.length h5.1;rw [List.flatten_append, List.length_append, List.length_take] at e;simp only [List.flatten_cons, List.flatten_nil, List.append_nil] at e
        omega
      simp only [w_last o q (by omega), rd_last, Int.toNat_natCast];refine ok_yes (by omega) (ok_yes (by omega) (ok_yes (by omega) (ok_yes (by omega) (ok_yes (by omega) (ok_yes (by omega) (ok_yes (by omega) (ok_ite (fun _ => ?_) (fun _ => ?_))))))))
      · refine ok_yes (by omega) (ok_ite (fun _ => ?_) (fun _ => ?_))
        · exact ok_yes (by omega) (ok_yes (by omega) (ok_yes (by omega) (ok_yes (by simp only [List.length_nil]; omega) hnew)))
        · exact ok_yes (by omega) (ok_yes (by omega) (ok_yes (by omega) hon))
      · exact ok_yes (by omega) (ok_yes (by omega) (ok_yes (by omega) (ok_yes (by simp only [List.length_nil]; omega) hnew)))
structure RunsOf (n : Nat) (r : List (List Int)) : Prop where
  asc : Asc n r.flatten
  full : ∀ q ∈ r, q ≠ []
  len : r.length ≤ n
  all : r.flatten.length ≤ n
theorem lists_ok (a b : List Int) (hab : a.length = b.length) (ha : a.length ≤ 1000000) : Ok (fun k => ductusref08_Lists.f k a b) (RunsOf a.length) := by
  unfold ductusref08_Lists.f;refine ok_yes (by omega) (ok_bind (seen_ok a ha) (fun s hs => ?_));refine ok_mono (lists_loop a b s hab ha hs.1 hs.2 _ 0 [] rfl (by omega) (Nat.le_refl _) (fun h => absurd h (by omega)) ⟨rfl, fun q hq => by cases hq⟩) (fun r hr => ?_);have e := hr.1.1;exact ⟨e ▸ hs.1, hr.1.2, by omega, by rw [e]; exact hs.2⟩
theorem rdL_get (r : List (List Int)) (i : Nat) (h : i < r.length) : rd_L2 r (i : Int) = r[i] := by
  unfold rd_L2;rw [Int.toNat_natCast, List.getD_eq_getElem?_getD, List.getElem?_eq_getElem h];rfl
theorem rdL_mem (r : List (List Int)) (i : Nat) (h : i < r.length) : rd_L2 r (i : Int) ∈ r := by
  rw [rdL_get r i h];exact List.getElem_mem h
theorem RunsOf.mem {n : Nat} {r : List (List Int)} (h : RunsOf n r) (i : Nat) (hi : i < r.length) {x : Int} (hx : x ∈ rd_L2 r (i : Int)) : 0 ≤ x ∧ x < (n : Int) :=
  h.asc.2 x (List.mem_flatten.2 ⟨_, rdL_mem r i hi, hx⟩)
theorem RunsOf.one {n : Nat} {r : List (List Int)} (h : RunsOf n r) (i : Nat) (hi : i < r.length) : ∃ m, (rd_L2 r (i : Int)).length = m + 1 ∧ m < n := by
  have h1 := h.full _ (rdL_mem r i hi)
  have h2 : (rd_L2 r (i : Int)).length ≤ r.flatten.length := by
    have := List.sublist_flatten_of_mem (rdL_mem r i hi);exact this.length_le
  have h3 := List.length_pos_iff.2 h1;have h4 := h.all;exact ⟨(rd_L2 r (i : Int)).length - 1, by omega, by omega⟩
theorem pair_le {q : List Int} (h : q.Pairwise (· < ·)) {i j : Nat} (hij : i ≤ j) (hj : j < q.length) : rd q (i : Int) ≤ rd q (j : Int) := by
  rw [rd_get q i (by omega), rd_get q j hj]
  by_cases e : i = j
  · subst e
    exact Int.le_refl _
  · exact Int.le_of_lt (List.pairwise_iff_getElem.1 h i j (by omega) hj (by omega))
theorem RunsOf.later {n : Nat} {r : List (List Int)} (h : RunsOf n r) {i j m : Nat} (hi : i < r.length) (hj : j < r.length) (hm : (rd_L2 r (i : Int)).length = m + 1) (hx : rd (rd_L2 r (i : Int)) (m : Int) < rd (rd_L2 r (j : Int)) ((0 : Nat) : Int)) : i < j := by
  apply Classical.byContradiction
  intro hn;have hp := List.pairwise_flatten.1 h.asc.1;obtain ⟨m2, hm2, _⟩ := h.one j hj
  by_cases e : i = j
  · subst e
    have := pair_le (hp.1 _ (rdL_mem r i hi)) (i := 0) (j := m) (by omega) (by omega)
    omega
  · have h1 := List.pairwise_iff_getElem.1 hp.2 j i hj hi (by omega)
    rw [← rdL_get r i hi, ← rdL_get r j hj] at h1;have := h1 _ (rd_mem _ 0 (by omega)) _ (rd_mem _ m (by omega))
    omega
theorem next_loop (r : List (List Int)) (m : List Int) (n x : Nat) (hr : RunsOf n r) (hn : n ≤ 1000000) (hx : x < m.length) : ∀ (d j : Nat), r.length - j = d → Ok (fun k => ductusref08_next.l0 k r m (x : Int) (j : Int)) (fun y => y = -1 ∨ ∃ q : Nat, y = (q : Int) ∧ q < r.length ∧ rd (rd_L2 r (q : Int)) ((0 : Nat) : Int) = rd m (x : Int)) := by
  have := hr.len;intro d
  induction d with
  | zero =>
    intro j h1;refine ok_succ ?_;simp only [ductusref08_next.l0];exact ok_no (by omega) (ok_now (Or.inl rfl))
  | succ d ih =>
    intro j h1;obtain ⟨m2, hm2, _⟩ := hr.one j (by omega);refine ok_succ ?_;simp only [ductusref08_next.l0, w_succ (show j < 1000000000 by omega)];refine ok_yes (by omega) (ok_yes (by omega) (ok_yes (by omega) (ok_yes (by omega) (ok_yes (by omega) ?_))));refine ok_ite (fun h => ok_now (Or.inr ⟨j, rfl, by omega, h⟩)) (fun _ => ih (j + 1) (by omega))
theorem next_ok (a : List Int) (r : List (List Int)) (m : List Int) (hr : RunsOf a.length r) (ha : a.length ≤ 1000000) (hm : Later a m) (i : Nat) (hi : i < r.length) : Ok (fun k => ductusref08_next.f k a r m (i : Int)) (fun y => y = -1 ∨ ∃ q : Nat, y = (q : Int) ∧ i < q ∧ q < r.length) := by
  obtain ⟨p, hp, hpn⟩ := hr.one i hi;unfold ductusref08_next.f
  have hw : wrap64 (((rd_L2 r (i : Int)).length : Int) - 1) = (p : Int) := by rw [hp]; exact w_predS (by omega)
  simp only [hw, ropens_eq, Option.bind_some];have hx := hr.mem i hi (rd_mem _ p (by omega));obtain ⟨x, hxe⟩ := to_nat hx.1;simp only [hxe] at hx ⊢;refine ok_yes (by omega) (ok_yes (by omega) (ok_yes (by omega) (ok_yes (by omega) (ok_yes (by omega) (ok_yes (by omega) ?_)))));have hml := hm.1;refine ok_ite (fun ho => ok_yes (by omega) (ok_succ ?_)) (fun _ => ok_succ ?_)
  · simp only [ductusref08_next.j0]
    refine ok_ite (fun _ => ok_now (Or.inl rfl)) (fun hneg => ?_);refine ok_mono (next_loop r m a.length x hr ha (by omega) _ 0 rfl) (fun y hy => ?_)
    rcases hy with hy | ⟨q, rfl, hq, he⟩
    · exact Or.inl hy
    · refine Or.inr ⟨q, rfl, ?_, hq⟩
      refine hr.later hi hq hp ?_;rw [he, hxe]
      rcases hm.2 x (by omega) ho with h | h
      · rw [h] at hneg
        exact absurd (by decide) hneg
      · exact h
  · simp only [ductusref08_next.j0]
    exact ok_yes trivial (ok_now (Or.inl rfl))
theorem dir_some (x : Int) : ∃ y, ductusref08_Dir.f x = some y := by
  unfold ductusref08_Dir.f
  split
  · exact ⟨_, rfl⟩
  · exact ⟨_, rfl⟩
def Places (n : Nat) (l : List Int) : Prop := l ≠ [] ∧ ∀ x ∈ l, 0 ≤ x ∧ x < (n : Int)
theorem bounded_loop (a b s at_ : List Int) (f1 f2 f3 : Int) (x : Nat) (hab : a.length = b.length) (ha : a.length ≤ 1000000) (hs : Asc a.length s) (hsl : s.length ≤ a.length) (hat : Places a.length at_) (hx : x < a.length) : ∀ (d i : Nat) (u v : Int), s.length - i = d → Ok (fun k => ductusref08_bounded.l0 k a b u v s (x : Int) (i : Int) at_ f1 f2 f3) (fun r => r.1 = at_) := by
  have hat0 := List.length_pos_iff.2 hat.1;intro d
  induction d with
  | zero =>
    intro i u v h1;refine ok_succ ?_;obtain ⟨y1, e1⟩ := dir_some (mx f1 u);obtain ⟨y2, e2⟩ := dir_some (mx (rd b (x : Int)) v);simp only [ductusref08_bounded.l0, e1, e2, Option.bind_some];exact ok_no (by omega) (ok_yes (by omega) (ok_yes (by omega) (ok_now rfl)))
  | succ d ih =>
    intro i u v h1
    have ih := fun u v => ih (i + 1) u v (by omega)
    have one : ∀ t : Bool, (t = true → 0 < i) → Ok (fun k => ductusref08_bounded.j1 k a b u v s (x : Int) (i : Int) t at_ f1 f2 f3) (fun r => r.1 = at_) := by
      intro t ht
      have tail : ∀ w : Int, Ok (fun k => if rd s (i : Int) = (x : Int) then (if ((i + 1 : Nat) : Int) < (s.length : Int) then (if 0 ≤ (x : Int) then (if (x : Int) < (a.length : Int) then (if rd a (x : Int) = 10 then ductusref08_bounded.l0 k a b w v s (x : Int) ((i + 1 : Nat) : Int) at_ f1 f2 f3 else (if opnK (rd a (x : Int)) = true then ductusref08_bounded.l0 k a b w v s (x : Int) ((i + 1 : Nat) : Int) at_ f1 f2 f3 else (if 0 ≤ ((i + 1 : Nat) : Int) then (if 0 ≤ rd s ((i + 1 : Nat) : Int) then (if rd s ((i + 1 : Nat) : Int) < (b.length : Int) then ductusref08_bounded.l0 k a b w (rd b (rd s ((i + 1 : Nat) : Int))) s (x : Int) ((i + 1 : Nat) : Int) at_ f1 f2 f3 else none) else none) else none))) else none) else none) else ductusref08_bounded.l0 k a b w v s (x : Int) ((i + 1 : Nat) : Int) at_ f1 f2 f3) else ductusref08_bounded.l0 k a b w v s (x : Int) ((i + 1 : Nat) : Int) at_ f1 f2 f3) (fun r => r.1 = at_) := by
        intro w;refine ok_ite (fun _ => ok_ite (fun hlt => ?_) (fun _ => ih w v)) (fun _ => ih w v);have h2 := hs.2 _ (rd_mem s (i + 1) (by omega));exact ok_yes (by omega) (ok_yes (by omega) (ok_ite (fun _ => ih w v) (fun _ => ok_ite (fun _ => ih w v) (fun _ => ok_yes (by omega) (ok_yes (by omega) (ok_yes (by omega) (ih w _)))))))
      refine ok_succ ?_;simp only [ductusref08_bounded.j1, ropens_eq, Option.bind_some, w_succ (show i < 1000000000 by omega)];refine ok_ite (fun h2 => ?_) (fun _ => ?_)
      · obtain ⟨m, rfl⟩ : ∃ m, i = m + 1 := ⟨i - 1, by have := ht h2; omega⟩
        have h3 := hs.2 _ (rd_mem s m (by omega));simp only [w_predS (show m < 1000000000 by omega)];exact ok_yes (by omega) (ok_yes (by omega) (ok_yes (by omega) (ok_yes (by omega) (ok_yes (by omega) (ok_yes (by omega) (tail _))))))
      · exact ok_yes (by omega) (ok_yes (by omega) (tail _))
    refine ok_succ ?_;simp only [ductusref08_bounded.l0];refine ok_yes (by omega) (ok_yes (by omega) (ok_yes (by omega) (ok_ite (fun _ => one _ (fun h => ?_)) (fun _ => one _ (fun h => by cases h)))));have := of_decide_eq_true h
    omega
theorem bounded_ok (a b at_ : List Int) (f1 f2 f3 base : Int) (hab : a.length = b.length) (ha : a.length ≤ 1000000) (hat : Places a.length at_) (hal : at_.length < 100000000000000) : Ok (fun k => ductusref08_bounded.f k at_ f1 f2 f3 a b base) (fun r => r.1 = at_) := by
  unfold ductusref08_bounded.f
  obtain ⟨m, hm⟩ : ∃ m, at_.length = m + 1 := ⟨at_.length - 1, by have := List.length_pos_iff.2 hat.1; omega⟩
  have hw : wrap64 ((at_.length : Int) - 1) = (m : Int) := by rw [hm, wrap_id (by omega) (by omega)]; omega
  simp only [hw];refine ok_bind (seen_ok a ha) (fun s hs => ok_yes (by omega) (ok_yes (by omega) ?_));have h2 := hat.2 _ (rd_mem at_ m (by omega));obtain ⟨x, hx⟩ := to_nat h2.1;rw [hx] at h2 ⊢
  exact bounded_loop a b s at_ f1 f2 f3 x hab ha hs.1 hs.2 hat (by omega) _ 0 base base rfl
def Seqs (n : Nat) (l : List S59) : Prop := ∀ s ∈ l, Places n s.f0 ∧ s.f0.length ≤ n * n
theorem of_two (a b : List Int) (base : Int) (r : List (List Int)) (m : List Int) (g : List Bool) (hab : a.length = b.length) (ha : a.length ≤ 1000000) (hr : RunsOf a.length r) (hm : Later a m) (hg : g.length = r.length) : ∀ (d i : Nat) (out : List S59), r.length - i = d → i ≤ r.length → out.length ≤ i → Seqs a.length out → Ok (fun k => ductusref08_Of.l1 k a b base r m g out (i : Int)) (fun r => Seqs a.length r ∧ r.length ≤ 1000000) := by
  have hrl := hr.len;intro d
  induction d with
  | zero =>
    intro i out h1 h9 h2 h3;refine ok_succ ?_;simp only [ductusref08_Of.l1];exact ok_no (by omega) (ok_now ⟨h3, by omega⟩)
  | succ d ih =>
    intro i out h1 h9 h2 h3
    have three : ∀ (e : Nat) (x : Int) (q : List Int), (∀ y ∈ q, 0 ≤ y ∧ y < (a.length : Int)) → ((x = -1 ∧ q ≠ [] ∧ q.length ≤ r.length * a.length) ∨ ∃ p : Nat, x = (p : Int) ∧ p < r.length ∧ r.length - p ≤ e ∧ q.length ≤ p * a.length) → Ok (fun k => ductusref08_Of.l2 k a b base r m g out (i : Int) q x) (fun r => Seqs a.length r ∧ r.length ≤ 1000000) := by
      have fin : ∀ q : List Int, q ≠ [] → q.length ≤ r.length * a.length → (∀ y ∈ q, 0 ≤ y ∧ y < (a.length : Int)) → Ok (fun k => ductusref08_Of.l2 k a b base r m g out (i : Int) q (-1)) (fun r => Seqs a.length r ∧ r.length ≤ 1000000) := by
        intro q hq hql hqm;refine ok_succ ?_;simp only [ductusref08_Of.l2, w_succ (show i < 1000000000 by omega)];have h4 := List.length_pos_iff.2 hq;have h5 := hqm _ (rd_mem q 0 h4);refine ok_no (by omega) (ok_yes (by omega) (ok_yes h5.1 (ok_yes (by rw [← hab]; exact h5.2) ?_)));have hb1 : r.length * a.length ≤ 1000000 * 1000000 := Nat.mul_le_mul (by omega) ha;have hb2 : r.length * a.length ≤ a.length * a.length := Nat.mul_le_mul_right _ hrl;refine ok_bind (bounded_ok a b q _ _ _ base hab ha ⟨hq, hqm⟩ (by omega)) (fun t ht => ok_yes (by omega) ?_);refine ih (i + 1) _ (by omega) (by omega) (by rw [List.length_append]; simp only [List.length_singleton]; omega) (fun s hs => ?_)
        rcases List.mem_append.1 hs with hs | hs
        · exact h3 s hs
        · rw [List.mem_singleton] at hs
          subst hs;show Places a.length t.1 ∧ t.1.length ≤ _;rw [ht];exact ⟨⟨hq, hqm⟩, Nat.le_trans hql hb2⟩
      intro e
      induction e with
      | zero =>
        intro x q hqm hx
        rcases hx with ⟨rfl, hq, hql⟩ | ⟨p, _, h5, h6, _⟩
        · exact fin q hq hql hqm
        · omega
      | succ e ih2 =>
        intro x q hqm hx
        rcases hx with ⟨rfl, hq, hql⟩ | ⟨p, rfl, h5, h6, h7⟩
        · exact fin q hq hql hqm
        · obtain ⟨z, hz, hzn⟩ := hr.one p h5
          have hpb : p * a.length ≤ 1000000 * 1000000 := Nat.mul_le_mul (by omega) ha;refine ok_succ ?_;simp only [ductusref08_Of.l2];refine ok_yes (by omega) (ok_yes (by omega) (ok_yes (by omega) (ok_yes (by omega) ?_)));refine ok_bind (next_ok a r m hr ha hm p h5) (fun y hy => ?_)
          have hl : (q ++ rd_L2 r (p : Int)).length = q.length + (z + 1) := by rw [List.length_append, hz]
          have hl2 : (q ++ rd_L2 r (p : Int)).length ≤ (p + 1) * a.length := by rw [hl, Nat.succ_mul]; omega
          refine ih2 y _ (fun t ht => ?_) ?_
          · rcases List.mem_append.1 ht with ht | ht
            · exact hqm t ht
            · exact hr.mem p h5 ht
          · rcases hy with rfl | ⟨q2, rfl, h8, h9⟩
            · refine Or.inl ⟨rfl, fun e0 => ?_, Nat.le_trans hl2 (Nat.mul_le_mul_right _ h5)⟩
              rw [e0] at hl;simp only [List.length_nil] at hl
              omega
            · exact Or.inr ⟨q2, rfl, h9, by omega, Nat.le_trans hl2 (Nat.mul_le_mul_right _ h8)⟩
    refine ok_succ ?_;simp only [ductusref08_Of.l1, w_succ (show i < 1000000000 by omega)];refine ok_yes (by omega) (ok_yes (by omega) (ok_yes (by omega) (ok_ite (fun _ => ih (i + 1) out (by omega) (by omega) (by omega) h3) (fun _ => ?_))));exact three _ (i : Int) [] (fun y hy => by cases hy) (Or.inr ⟨i, rfl, by omega, Nat.le_refl _, Nat.zero_le _⟩)
theorem of_one (a b : List Int) (base : Int) (r : List (List Int)) (m : List Int) (hab : a.length = b.length) (ha : a.length ≤ 1000000) (hr : RunsOf a.length r) (hm : Later a m) : ∀ (d i : Nat) (g : List Bool), r.length - i = d → g.length = r.length → Ok (fun k => ductusref08_Of.l0 k a b base r m g (i : Int)) (fun r => Seqs a.length r ∧ r.length ≤ 1000000) := by
  have hrl := hr.len;intro d
  induction d with
  | zero =>
    intro i g h1 h2;refine ok_succ ?_;simp only [ductusref08_Of.l0];refine ok_no (by omega) ?_;exact of_two a b base r m g hab ha hr hm h2 _ 0 [] rfl (Nat.zero_le _) (Nat.le_refl _) (fun s hs => by cases hs)
  | succ d ih =>
    intro i g h1 h2;refine ok_succ ?_;simp only [ductusref08_Of.l0, w_succ (show i < 1000000000 by omega)]
    have e1 : r.length - (i + 1) = d := by omega
    refine ok_yes (by omega) (ok_bind (next_ok a r m hr ha hm i (by omega)) (fun y hy => ok_ite (fun h3 => ?_) (fun _ => ih (i + 1) g e1 h2)))
    rcases hy with rfl | ⟨q, rfl, h4, h5⟩
    · omega
    · exact ok_yes (by omega) (ok_yes (by omega) (ih (i + 1) _ (by omega) (by rw [List.length_set]; exact h2)))
theorem of08_ok (a b : List Int) (base : Int) (hab : a.length = b.length) (ha : a.length ≤ 1000000) : Ok (fun k => ductusref08_Of.f k a b base) (fun r => Seqs a.length r ∧ r.length ≤ 1000000) := by
  unfold ductusref08_Of.f;refine ok_bind (lists_ok a b hab ha) (fun r hr => ok_bind (match_ok a ha) (fun m hm => ?_));have hrl := hr.len;refine ok_yes (by omega) (ok_yes (by omega) ?_);exact of_one a b base r m hab ha hr hm _ 0 _ rfl (by rw [List.length_replicate]; omega)
end Go.Proofs.Ytmjipbmpapcboaa.P
