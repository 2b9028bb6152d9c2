/- Proved: the theorems below, each under its own conditions. -/
import Derived.Test.YtmjipbmpapcboaaC13
import Derived.Test.YtmjipbmpapcboaaC19
import Derived.Test.YtmjipbmpapcboaaC20
namespace Go.Proofs.Ytmjipbmpapcboaa.P
open Go.RowKit Go.Proofs.YtmjipbmpapcboaaW.PrintWords Go.Proofs.YtmjipbmpapcboaaW.PrintLast Go.Proofs.YtmjipbmpapcboaaW.PrintMore
attribute [local go_sem] max2_int min2_int max_two min_two
set_option linter.unusedVariables false
set_option maxHeartbeats 8000000
set_option maxRecDepth 100000
set_option linter.unusedSimpArgs false
mutual
def ductusref09_Strong.j0 : Nat → List Int → Int → Int → Bool → Option (Int)
  | 0, _, _, _, _ => none
  | k + 1, x0, x1, x2, x17 => if x17 = true then ((ductusref09_side.f x2).bind fun t482 => (some t482)) else (ductusref09_Strong.l0 k x0 x2 (wrap64 (x1 - 1)))
def ductusref09_Strong.l0 : Nat → List Int → Int → Int → Option (Int)
  | 0, _, _, _ => none
  | k + 1, x0, x2, x7 => if x7 ≥ 0 then (if 0 ≤ x7 then (if x7 < (x0.length : Int) then ((ductusref02_Strong.f (rd x0 x7)).bind fun t484 => (if t484 = true then (some (rd x0 x7)) else (ductusref09_Strong.l0 k x0 x2 (wrap64 (x7 - 1))))) else (none)) else (none)) else ((ductusref09_side.f x2).bind fun t486 => (some t486))
end
def ductusref09_Strong.f (k : Nat) (l0 : List Int) (a1 : Int) (a2 : Int) : Option (Int) := (ductusref09_Plain.f k l0).bind fun t479 => (if a1 < 0 then (ductusref09_Strong.j0 k t479 a1 a2 true) else (ductusref09_Strong.j0 k t479 a1 a2 (decide (a1 > (t479.length : Int)))))
theorem ductusref09_Strong.calls (k : Nat) (A0 : Option Addr) (c0 : Nat) (l0 : List Int) (a1 : Int) (a2 : Int) (r : Int) (w : World) (hr0 : Kd.C (Kd.int .i64) w A0 l0.length l0) (hc0 : l0.length ≤ c0) (h : ductusref09_Strong.f k l0 a1 a2 = some r) :
    Calls Try.prog 79 #[.slice A0 l0.length c0, .int .i64 a1, .int .i64 a2] w fun e w' => e = .returned (.int .i64 r) ∧ Below w.heap.size w w' := by
  have HR0 := Aside0.mk hr0;have HC0 := Aside0.mk hc0;clear hr0 hc0;have HB := Aside0.mk (Below.refl w.heap.size w);unfold ductusref09_Strong.f at h;have H := h;clear h;replace H := Option.bind_eq_some_iff.mp H;obtain ⟨t479, A40, H⟩ := H;have A4 := Aside0.mk A40;clear A40;have HC5 := Aside0.mk H;clear H
  go_enter Try.func79, Try.ntmps79
  go_upto_region 2 with (first | ((with_reducible refine gate_callee (f := 55) rfl ?_); refine gL 9 Try.func55 #[.slice A0 l0.length c0] ?_; (with_reducible refine (ductusref09_Plain.calls k _ _ l0 t479 _ ?side1 ?side2 A4.out).mono ?_); (case side1 => exact uC HR0.out); (case side2 => exact HC0.out); rintro e w6 ⟨v480, rfl, ho0, hb⟩; refine ⟨_, rfl, ?_⟩; have n_ := z2_ (Kd.R_lower ho0 (below_size (uB HB.out))) (below_step (uB HB.out) hb); clear HB; obtain ⟨HO481, HB⟩ := n_; (try clear hb); (try clear ho0)))
  (try simp only [Act.put, List.setIfInBounds_toArray, List.set_cons_zero, List.set_cons_succ])
  go_cut [17] (fun v17 wc => ∃ (kq : Nat) (x17_4 : Bool), v17 = .bool x17_4 ∧ Aside0 (ductusref09_Strong.j0 kq t479 a1 a2 x17_4 = some r) ∧ Aside0 (kq ≤ k) ∧ Aside0 (Kd.R (Kd.int .i64) 3 wc w.heap.size (fun _ => True) v480 t479) ∧ Aside0 (Below w.heap.size w wc))
  case first =>
    have H := HC5.out;clear HC5
    by_cases c7 : a1 < 0
    · rw [if_pos c7] at H
      have c7b0 := decide_eq_true c7;clear c7
      (first | rw [c7b0] | (simp only [i64_w, i32_w]; rw [c7b0]) | skip)
      have H' := Aside0.mk H;clear H;go_wp2;go_meet
      case rel => exact ⟨_, (true), uF, H', ⟨by first | omega | exact Nat.le_refl _⟩, ⟨uR HO481.out⟩, ⟨uB HB.out⟩⟩
    rw [if_neg c7] at H;have c7b0 := decide_eq_false c7;clear c7
    (first | rw [c7b0] | (simp only [i64_w, i32_w]; rw [c7b0]) | skip)
    have H' := Aside0.mk H;clear H;obtain ⟨Ao8, co8, eo8⟩ := Kd.R_slice HO481.out;subst eo8;go_wp2;go_meet
    case rel => exact ⟨_, (decide (a1 > (t479.length : Int))), uF, H', ⟨by first | omega | exact Nat.le_refl _⟩, ⟨uR HO481.out⟩, ⟨uB HB.out⟩⟩
  case rest =>
    clear HC5;(try clear p2);(try clear c5);(try clear c7b0);obtain ⟨kq, x17_4, rfl, HA, HJ4, HO_0, HB⟩ := hcut
    cases kq with
    | zero => exact absurd HA.out (by simp [ductusref09_Strong.j0])
    | succ kj4 =>
      have H := HA.out;clear HA;simp only [ductusref09_Strong.j0] at H
      by_cases c9 : x17_4 = true
      · subst c9
        have H1 : ((ductusref09_side.f a2).bind fun t482 => (some t482)) = some r := by rw [if_pos rfl] at H; exact H
        clear H;have H := H1;clear H1;replace H := Option.bind_eq_some_iff.mp H;obtain ⟨t482, A100, H⟩ := H;have A10 := Aside0.mk A100;clear A100;obtain rfl := Option.some.inj H
        go_wp2_with (first | ((with_reducible refine gate_callee (f := 75) rfl ?_); refine gL 19 Try.func75 #[.int .i64 a2] ?_; (with_reducible refine (ductusref09_side.calls a2 t482 _ A10.out).mono ?_); rintro e w' ⟨rfl, ⟨nd, rfl⟩⟩; refine ⟨_, rfl, ?_⟩))
        go_ret;exact ⟨uE, uB HB.out⟩
      replace c9 := Bool.eq_false_iff.mpr c9;subst c9
      have H1 : (ductusref09_Strong.l0 kj4 t479 a2 (wrap64 (a1 - 1))) = some r := by rw [if_neg (show ¬ (false = true) by decide)] at H; exact H
      clear H;have H := H1;clear H1;have H' := Aside0.mk H;clear H;go_wp2
      go_loopg [7] kj4 (fun kq v7 w' => ∃ (x7_2 : Int), v7 = .int .i64 x7_2 ∧ Aside0 (ductusref09_Strong.l0 kq t479 a2 x7_2 = some r) ∧ Aside0 (kq ≤ kj4) ∧ Aside0 (Kd.R (Kd.int .i64) 3 w' w.heap.size (fun _ => True) v480 t479) ∧ Aside0 (Below w.heap.size w w'))
      case atStart => exact ⟨(wrap64 (a1 - 1)), uF, H', ⟨Nat.le_refl _⟩, ⟨uR HO_0.out⟩, ⟨uB HB.out⟩⟩
      case round =>
        clear H';(try clear p2);(try clear c5);(try clear p6);(try clear c7b0);(try clear c9);(try clear p2);obtain ⟨x7_2, rfl, HA, HK2, HO_0, HB⟩ := hrel
        cases gk with
        | zero => exact absurd HA.out (by simp [ductusref09_Strong.l0])
        | succ k2 =>
          have H := HA.out;clear HA;simp only [ductusref09_Strong.l0] at H
          by_cases c11 : x7_2 ≥ 0
          rotate_left
          · rw [if_neg c11] at H
            have c11b0 : decide (0 ≤ x7_2) = false := decide_eq_false c11;clear c11;replace H := Option.bind_eq_some_iff.mp H;obtain ⟨t486, A180, H⟩ := H;have A18 := Aside0.mk A180;clear A180;obtain rfl := Option.some.inj H
            go_wp2_with (first | ((with_reducible refine gate_callee (f := 75) rfl ?_); refine gL 36 Try.func75 #[.int .i64 a2] ?_; (with_reducible refine (ductusref09_side.calls a2 t486 _ A18.out).mono ?_); rintro e w' ⟨rfl, ⟨nd, rfl⟩⟩; refine ⟨_, rfl, ?_⟩))
            go_ret;exact ⟨uE, uB HB.out⟩
          rw [if_pos c11] at H;have c11b0 : decide (0 ≤ x7_2) = true := decide_eq_true c11;clear c11;replace H := uI H;obtain ⟨c12b0, H⟩ := H;replace H := uI H;obtain ⟨c13b0, H⟩ := H;replace H := Option.bind_eq_some_iff.mp H;obtain ⟨t484, A140, H⟩ := H;have A14 := Aside0.mk A140;clear A140
          by_cases c15 : t484 = true
          rotate_left
          · replace c15 := Bool.eq_false_iff.mpr c15
            subst c15
            have H1 : (ductusref09_Strong.l0 k2 t479 a2 (wrap64 (x7_2 - 1))) = some r := by rw [if_neg (show ¬ (false = true) by decide)] at H; exact H
            clear H;have H := H1;clear H1;have H' := Aside0.mk H;clear H;obtain ⟨Ao17, co17, eo17⟩ := Kd.R_slice HO_0.out;subst eo17;have p483 : 0 ≤ (x7_2 : Int) := uD;have q483 : x7_2 < (t479.length : Int) := uD;obtain ⟨ad483, e483, hx483_0⟩ := Kd.at_int (Kd.R_reads' HO_0.out).2.2 x7_2 p483 q483;cases e483;replace p483 := eq_true p483;replace q483 := eq_true q483
            go_wp2_with (first | ((with_reducible refine gate_callee (f := 90) rfl ?_); refine gL 30 Try.func90 #[.int .i64 (rd t479 x7_2)] ?_; (with_reducible refine (ductusref02_Strong.calls (rd t479 x7_2) false _ A14.out).mono ?_); rintro e w' ⟨rfl, ⟨nd, rfl⟩⟩; refine ⟨_, rfl, ?_⟩))
            go_roundg k2
            case measure => have := HJ4.out; have := HK2.out; omega
            case rel => exact ⟨(wrap64 (x7_2 - 1)), uF, H', ⟨by have := HJ4.out; have := HK2.out; omega⟩, ⟨uR HO_0.out⟩, ⟨uB HB.out⟩⟩
          subst c15
          have H1 : (some (rd t479 x7_2)) = some r := by rw [if_pos rfl] at H; exact H
          clear H;have H := H1;clear H1;obtain rfl := Option.some.inj H;obtain ⟨Ao16, co16, eo16⟩ := Kd.R_slice HO_0.out;subst eo16;have p483 : 0 ≤ (x7_2 : Int) := uD;have q483 : x7_2 < (t479.length : Int) := uD;obtain ⟨ad483, e483, hx483_0⟩ := Kd.at_int (Kd.R_reads' HO_0.out).2.2 x7_2 p483 q483;cases e483;replace p483 := eq_true p483;replace q483 := eq_true q483
          go_wp2_with (first | ((with_reducible refine gate_callee (f := 90) rfl ?_); refine gL 30 Try.func90 #[.int .i64 (rd t479 x7_2)] ?_; (with_reducible refine (ductusref02_Strong.calls (rd t479 x7_2) true _ A14.out).mono ?_); rintro e w' ⟨rfl, ⟨nd, rfl⟩⟩; refine ⟨_, rfl, ?_⟩; have p485 : 0 ≤ (x7_2 : Int) := uD; have q485 : x7_2 < (t479.length : Int) := uD; obtain ⟨ad485, e485, hx485_0⟩ := Kd.at_int (Kd.R_reads' HO_0.out).2.2 x7_2 p485 q485; obtain rfl : ad483 = ad485 := (by injection e485); replace p485 := eq_true p485; replace q485 := eq_true q485))
          go_ret;exact ⟨uE, uB HB.out⟩
mutual
def ductusref09_Rule.j0 : Nat → Int → Int → List Int → List Int → Option (List Int)
  | 0, _, _, _, _ => none
  | k + 1, x1, x2, x7, x8 => ductusref09_Rule.l0 k x1 x2 x7 x8 0
def ductusref09_Rule.l0 : Nat → Int → Int → List Int → List Int → Int → Option (List Int)
  | 0, _, _, _, _, _ => none
  | k + 1, x1, x2, x7, x8, x9 => if x9 < (x7.length : Int) then (if x2 = 2 then (if 0 ≤ x9 then (if (rd x7 x9) = 3 then ((ductusref09_Strong.f k x8 x9 x1).bind fun t498 => (ductusref09_Rule.j2 k x1 x2 x7 x8 x9 (t498 == 2))) else (ductusref09_Rule.j2 k x1 x2 x7 x8 x9 false)) else (none)) else (ductusref09_Rule.j2 k x1 x2 x7 x8 x9 false)) else (some x7)
def ductusref09_Rule.j2 : Nat → Int → Int → List Int → List Int → Int → Bool → Option (List Int)
  | 0, _, _, _, _, _, _ => none
  | k + 1, x1, x2, x7, x8, x9, x36 => if x36 = true then (if 0 ≤ x9 then (if x9 < (x7.length : Int) then (ductusref09_Rule.l0 k x1 x2 (x7.set (x9 : Int).toNat 6) x8 (wrap64 (x9 + 1))) else (none)) else (none)) else (if x2 = 3 then (if 0 ≤ x9 then (if x9 < (x7.length : Int) then (ductusref09_Rule.j3 k x1 x2 x7 x8 x9 ((rd x7 x9) == 2)) else (none)) else (none)) else (ductusref09_Rule.j3 k x1 x2 x7 x8 x9 false))
def ductusref09_Rule.j3 : Nat → Int → Int → List Int → List Int → Int → Bool → Option (List Int)
  | 0, _, _, _, _, _, _ => none
  | k + 1, x1, x2, x7, x8, x9, x56 => if x56 = true then (if 0 ≤ x9 then (if x9 < (x7.length : Int) then (ductusref09_Rule.l0 k x1 x2 (x7.set (x9 : Int).toNat 1) x8 (wrap64 (x9 + 1))) else (none)) else (none)) else (if x2 = 6 then (if 0 ≤ x9 then (if x9 < (x7.length : Int) then (if (rd x7 x9) = 4 then (ductusref09_Rule.j4 k x1 x2 x7 x8 x9 true) else (if (rd x7 x9) = 5 then (ductusref09_Rule.j4 k x1 x2 x7 x8 x9 true) else (ductusref09_Rule.j4 k x1 x2 x7 x8 x9 ((rd x7 x9) == 7)))) else (none)) else (none)) else (ductusref09_Rule.j4 k x1 x2 x7 x8 x9 false))
def ductusref09_Rule.j4 : Nat → Int → Int → List Int → List Int → Int → Bool → Option (List Int)
  | 0, _, _, _, _, _, _ => none
  | k + 1, x1, x2, x7, x8, x9, x69 => if x69 = true then (if 0 ≤ x9 then (if x9 < (x7.length : Int) then (ductusref09_Rule.l0 k x1 x2 (x7.set (x9 : Int).toNat 13) x8 (wrap64 (x9 + 1))) else (none)) else (none)) else (if x2 = 7 then (if 0 ≤ x9 then (if x9 < (x7.length : Int) then (if (rd x7 x9) = 3 then ((ductusref09_Strong.f k x8 x9 x1).bind fun t507 => (if t507 = 0 then (ductusref09_Rule.l0 k x1 x2 (x7.set (x9 : Int).toNat 0) x8 (wrap64 (x9 + 1))) else (ductusref09_Rule.l0 k x1 x2 x7 x8 (wrap64 (x9 + 1))))) else (ductusref09_Rule.l0 k x1 x2 x7 x8 (wrap64 (x9 + 1)))) else (none)) else (none)) else (ductusref09_Rule.l0 k x1 x2 x7 x8 (wrap64 (x9 + 1))))
end
def ductusref09_Rule.f (k : Nat) (l0 : List Int) (a1 : Int) (a2 : Int) : Option (List Int) := (ductusref09_Plain.f k l0).bind fun t487 => ((ductusref09_side.f a1).bind fun t490 => ((ductusref09_Plain.f k l0).bind fun t491 => (if a2 = 1 then ((ductusref09_marks.f k t487 t490).bind fun t494 => (ductusref09_Rule.j0 k t490 a2 t494 t491)) else (if a2 = 4 then ((ductusref09_parts.f k t487).bind fun t495 => (ductusref09_Rule.j0 k t490 a2 t495 t491)) else (if a2 = 5 then ((ductusref09_ends.f k t487).bind fun t496 => (ductusref09_Rule.j0 k t490 a2 t496 t491)) else (ductusref09_Rule.j0 k t490 a2 t487 t491))))))
theorem ductusref09_Rule.calls (k : Nat) (A0 : Option Addr) (c0 : Nat) (l0 : List Int) (a1 : Int) (a2 : Int) (r : List Int) (w : World) (hr0 : Kd.C (Kd.int .i64) w A0 l0.length l0) (hc0 : l0.length ≤ c0) (h : ductusref09_Rule.f k l0 a1 a2 = some r) :
    Calls Try.prog 56 #[.slice A0 l0.length c0, .int .i64 a1, .int .i64 a2] w fun e w' => ∃ v0_ : Value, e = .returned (v0_) ∧ Kd.R (Kd.int .i64) 3 w' w.heap.size (fun _ => True) v0_ r ∧ Below w.heap.size w w' := by
  have HR0 := Aside0.mk hr0;have HC0 := Aside0.mk hc0;clear hr0 hc0;have HB := Aside0.mk (Below.refl w.heap.size w);unfold ductusref09_Rule.f at h;have H := h;clear h;replace H := Option.bind_eq_some_iff.mp H;obtain ⟨t487, A40, H⟩ := H;have A4 := Aside0.mk A40;clear A40;replace H := Option.bind_eq_some_iff.mp H;obtain ⟨t490, A50, H⟩ := H;have A5 := Aside0.mk A50;clear A50;replace H := Option.bind_eq_some_iff.mp H;obtain ⟨t491, A60, H⟩ := H;have A6 := Aside0.mk A60;clear A60;have HC7 := Aside0.mk H;clear H
  go_enter Try.func56, Try.ntmps56
  go_upto_block 0 with (first | ((with_reducible refine gate_callee (f := 55) rfl ?_); refine gL 11 Try.func55 #[.slice A0 l0.length c0] ?_; (with_reducible refine (ductusref09_Plain.calls k _ _ l0 t487 _ ?side1 ?side2 A4.out).mono ?_); (case side1 => exact uC HR0.out); (case side2 => exact HC0.out); rintro e w8 ⟨v488, rfl, ho0, hb⟩; refine ⟨_, rfl, ?_⟩; have n_ := z2_ (Kd.R_lower ho0 (below_size (uB HB.out))) (below_step (uB HB.out) hb); clear HB; obtain ⟨HO489, HB⟩ := n_; (try clear hb); (try clear ho0)) | ((with_reducible refine gate_callee (f := 75) rfl ?_); refine gL 13 Try.func75 #[.int .i64 a1] ?_; (with_reducible refine (ductusref09_side.calls a1 t490 _ A5.out).mono ?_); rintro e w' ⟨rfl, ⟨nd, rfl⟩⟩; refine ⟨_, rfl, ?_⟩) | ((with_reducible refine gate_callee (f := 55) rfl ?_); refine gL 15 Try.func55 #[.slice A0 l0.length c0] ?_; (with_reducible refine (ductusref09_Plain.calls k _ _ l0 t491 _ ?side1 ?side2 A6.out).mono ?_); (case side1 => exact uC (Kd.C_below HR0.out (uB HB.out))); (case side2 => exact HC0.out); rintro e w9 ⟨v492, rfl, ho0, hb⟩; refine ⟨_, rfl, ?_⟩; have n_ := z3_ (Kd.R_elder' (uR HO489.out) (Kd.R_base ho0) hb) (Kd.R_lower (Kd.R_new' ho0 (Kd.R_lt (uR HO489.out))) (below_size (uB HB.out))) (below_step (uB HB.out) hb); clear HO489 HB; obtain ⟨HO489, HO493, HB⟩ := n_; (try clear hb); (try clear ho0)))
  (try simp only [Act.put, List.setIfInBounds_toArray, List.set_cons_zero, List.set_cons_succ])
  go_cut [] (fun wc => ∃ (kq : Nat) (x7_6 : List Int), Aside0 (ductusref09_Rule.j0 kq t490 a2 x7_6 t491 = some r) ∧ Aside0 (kq ≤ k) ∧ Aside0 (Kd.R (Kd.int .i64) 3 wc w.heap.size (fun k_ => some k_ ≠ (v492 : Value).ownBlock) v488 x7_6) ∧ Aside0 (Kd.R (Kd.int .i64) 3 wc w.heap.size (fun k_ => some k_ ≠ (v488 : Value).ownBlock) v492 t491) ∧ Aside0 (Below w.heap.size w wc))
  case first =>
    have H := HC7.out;clear HC7
    by_cases c10 : a2 = 1
    · rw [if_pos c10] at H
      have c10b0 := beq_iff_eq.mpr c10;have c10b1 := bne_eq_false_iff_eq.mpr c10;clear c10
      (first | rw [c10b0] | (simp only [i64_w, i32_w]; rw [c10b0]) | skip)
      replace H := Option.bind_eq_some_iff.mp H;obtain ⟨t494, A110, H⟩ := H;have A11 := Aside0.mk A110;clear A110;have H' := Aside0.mk H;clear H;obtain ⟨Ao12, co12, eo12⟩ := Kd.R_slice HO489.out;subst eo12
      go_wp2_with (first | ((with_reducible refine gate_callee (f := 76) rfl ?_); refine gL 21 Try.func76 #[.slice Ao12 t487.length co12, .int .i64 t490] ?_; (with_reducible refine (ductusref09_marks.calls k (fun k_ => some k_ = (.slice Ao12 t487.length co12 : Value).ownBlock) (.slice Ao12 t487.length co12) t487 t490 t494 w _ ?side1 ?side2 A11.out).mono ?_); (case side1 => exact uB HB.out); (case side2 => exact Kd.R_tight rfl HO489.out); rintro e w13 ⟨rfl, hy0, hb, hkp⟩; refine ⟨_, rfl, ?_⟩; have n_ := z3_ (Kd.R_reok rfl hy0 (fun k_ e_ => HO489.out.1 k_ e_)) (Kd.R_mono (ok' := fun k_ => some k_ ≠ (.slice Ao12 t487.length co12 : Value).ownBlock) (Kd.R_keptB (HO493.out) hkp (fun k_ hk_ hs_ => (hk_.2) hs_)) (fun k_ hk_ => hk_.1.2)) (hb); clear HO489 HO493 HB; obtain ⟨HO489, HO493, HB⟩ := n_; (try clear hb); (try clear hkp); (try clear hy0)))
      go_meet
      case rel => exact ⟨_, (t494), H', ⟨by first | omega | exact Nat.le_refl _⟩, ⟨uT HO489.out (fun _ hk => hk.2)⟩, ⟨uR HO493.out⟩, ⟨uB HB.out⟩⟩
    rw [if_neg c10] at H;have c10b0 := beq_eq_false_iff_ne.mpr c10;have c10b1 := bne_iff_ne.mpr c10
    (first | rw [c10b0] | (simp only [i64_w, i32_w]; rw [c10b0]) | skip)
    by_cases c14 : a2 = 4
    · rw [if_pos c14] at H
      have c14b0 := beq_iff_eq.mpr c14;have c14b1 := bne_eq_false_iff_eq.mpr c14;clear c14;replace H := Option.bind_eq_some_iff.mp H;obtain ⟨t495, A150, H⟩ := H;have A15 := Aside0.mk A150;clear A150;have H' := Aside0.mk H;clear H;obtain ⟨Ao16, co16, eo16⟩ := Kd.R_slice HO489.out;subst eo16
      go_wp2_with (first | ((with_reducible refine gate_callee (f := 77) rfl ?_); refine gL 25 Try.func77 #[.slice Ao16 t487.length co16] ?_; (with_reducible refine (ductusref09_parts.calls k (fun k_ => some k_ = (.slice Ao16 t487.length co16 : Value).ownBlock) (.slice Ao16 t487.length co16) t487 t495 w _ ?side1 ?side2 A15.out).mono ?_); (case side1 => exact uB HB.out); (case side2 => exact Kd.R_tight rfl HO489.out); rintro e w17 ⟨rfl, hy0, hb, hkp⟩; refine ⟨_, rfl, ?_⟩; have n_ := z3_ (Kd.R_reok rfl hy0 (fun k_ e_ => HO489.out.1 k_ e_)) (Kd.R_mono (ok' := fun k_ => some k_ ≠ (.slice Ao16 t487.length co16 : Value).ownBlock) (Kd.R_keptB (HO493.out) hkp (fun k_ hk_ hs_ => (hk_.2) hs_)) (fun k_ hk_ => hk_.1.2)) (hb); clear HO489 HO493 HB; obtain ⟨HO489, HO493, HB⟩ := n_; (try clear hb); (try clear hkp); (try clear hy0)))
      go_meet
      case rel => exact ⟨_, (t495), H', ⟨by first | omega | exact Nat.le_refl _⟩, ⟨uT HO489.out (fun _ hk => hk.2)⟩, ⟨uR HO493.out⟩, ⟨uB HB.out⟩⟩
    rw [if_neg c14] at H;have c14b0 := beq_eq_false_iff_ne.mpr c14;have c14b1 := bne_iff_ne.mpr c14
    by_cases c18 : a2 = 5
    rotate_left
    · rw [if_neg c18] at H
      have c18b0 := beq_eq_false_iff_ne.mpr c18;have c18b1 := bne_iff_ne.mpr c18;have H' := Aside0.mk H;clear H;go_wp2;go_meet
      case rel => exact ⟨_, (t487), H', ⟨by first | omega | exact Nat.le_refl _⟩, ⟨uT HO489.out (fun _ hk => hk.2)⟩, ⟨uT HO493.out (fun _ hk => hk.2)⟩, ⟨uB HB.out⟩⟩
    rw [if_pos c18] at H;have c18b0 := beq_iff_eq.mpr c18;have c18b1 := bne_eq_false_iff_eq.mpr c18;clear c18;replace H := Option.bind_eq_some_iff.mp H;obtain ⟨t496, A190, H⟩ := H;have A19 := Aside0.mk A190;clear A190;have H' := Aside0.mk H;clear H;obtain ⟨Ao20, co20, eo20⟩ := Kd.R_slice HO489.out;subst eo20
    go_wp2_with (first | ((with_reducible refine gate_callee (f := 78) rfl ?_); refine gL 29 Try.func78 #[.slice Ao20 t487.length co20] ?_; (with_reducible refine (ductusref09_ends.calls k (fun k_ => some k_ = (.slice Ao20 t487.length co20 : Value).ownBlock) (.slice Ao20 t487.length co20) t487 t496 w _ ?side1 ?side2 A19.out).mono ?_); (case side1 => exact uB HB.out); (case side2 => exact Kd.R_tight rfl HO489.out); rintro e w21 ⟨rfl, hy0, hb, hkp⟩; refine ⟨_, rfl, ?_⟩; have n_ := z3_ (Kd.R_reok rfl hy0 (fun k_ e_ => HO489.out.1 k_ e_)) (Kd.R_mono (ok' := fun k_ => some k_ ≠ (.slice Ao20 t487.length co20 : Value).ownBlock) (Kd.R_keptB (HO493.out) hkp (fun k_ hk_ hs_ => (hk_.2) hs_)) (fun k_ hk_ => hk_.1.2)) (hb); clear HO489 HO493 HB; obtain ⟨HO489, HO493, HB⟩ := n_; (try clear hb); (try clear hkp); (try clear hy0)))
    go_meet
    case rel => exact ⟨_, (t496), H', ⟨by first | omega | exact Nat.le_refl _⟩, ⟨uT HO489.out (fun _ hk => hk.2)⟩, ⟨uR HO493.out⟩, ⟨uB HB.out⟩⟩
  case rest =>
    clear HC7;(try clear c1);(try clear p2);(try clear c5);(try clear c7);(try clear c10b0);(try clear c10b1);(try clear c14b0);(try clear c14b1);(try clear c18b0);(try clear c18b1);obtain ⟨kq, x7_6, HA, HJ6, HO_7, HO_8, HB⟩ := hcut
    cases kq with
    | zero => exact absurd HA.out (by simp [ductusref09_Rule.j0])
    | succ kj6 =>
      have H := HA.out;clear HA;simp only [ductusref09_Rule.j0] at H;have H' := Aside0.mk H;clear H;go_wp2
      go_loopg [9] kj6 (fun kq v9 w' => ∃ (x7_2 : List Int) (x9_2 : Int), v9 = .int .i64 x9_2 ∧ Aside0 (ductusref09_Rule.l0 kq t490 a2 x7_2 t491 x9_2 = some r) ∧ Aside0 (kq ≤ kj6) ∧ Aside0 (Kd.R (Kd.int .i64) 3 w' w.heap.size (fun k_ => some k_ ≠ (v492 : Value).ownBlock) v488 x7_2) ∧ Aside0 (Kd.R (Kd.int .i64) 3 w' w.heap.size (fun k_ => some k_ ≠ (v488 : Value).ownBlock) v492 t491) ∧ Aside0 (Below w.heap.size w w'))
      case atStart => exact ⟨(x7_6), (0), uF, H', ⟨Nat.le_refl _⟩, ⟨uR HO_7.out⟩, ⟨uR HO_8.out⟩, ⟨uB HB.out⟩⟩
      case round =>
        clear H';(try clear c1);(try clear p2);(try clear c5);(try clear c7);(try clear c10b0);(try clear c10b1);(try clear c14b0);(try clear c14b1);(try clear c18b0);(try clear c18b1);(try clear p2);obtain ⟨x7_2, x9_2, rfl, HA, HK2, HO_7, HO_8, HB⟩ := hrel
        cases gk with
        | zero => exact absurd HA.out (by simp [ductusref09_Rule.l0])
        | succ k2 =>
          have H := HA.out;clear HA;simp only [ductusref09_Rule.l0] at H
          by_cases c22 : x9_2 < (x7_2.length : Int)
          rotate_left
          · rw [if_neg c22] at H
            have c22b0 := decide_eq_false c22;clear c22;obtain rfl := Option.some.inj H;obtain ⟨Ao72, co72, eo72⟩ := Kd.R_slice HO_7.out;subst eo72;go_wp2;go_ret;exact ⟨_, uE, uT HO_7.out (fun _ hk => trivial), uB HB.out⟩
          rw [if_pos c22] at H;have c22b0 := decide_eq_true c22;clear c22;have HC23 := Aside0.mk H;clear H;obtain ⟨Ao24, co24, eo24⟩ := Kd.R_slice HO_7.out;subst eo24
          go_upto_region 14 with (fail)
          go_cut [36] (fun v36 wc => ∃ (kq : Nat) (x36_22 : Bool), v36 = .bool x36_22 ∧ Aside0 (ductusref09_Rule.j2 kq t490 a2 x7_2 t491 x9_2 x36_22 = some r) ∧ Aside0 (kq ≤ k2) ∧ Aside0 (Kd.R (Kd.int .i64) 3 wc w.heap.size (fun k_ => some k_ ≠ (v492 : Value).ownBlock) (.slice Ao24 x7_2.length co24) x7_2) ∧ Aside0 (Kd.R (Kd.int .i64) 3 wc w.heap.size (fun k_ => some k_ ≠ ((.slice Ao24 x7_2.length co24) : Value).ownBlock) v492 t491) ∧ Aside0 (Below w.heap.size w wc))
          case first =>
            have H := HC23.out;clear HC23
            by_cases c25 : a2 = 2
            rotate_left
            · rw [if_neg c25] at H
              have c25b0 := beq_eq_false_iff_ne.mpr c25;have c25b1 := bne_iff_ne.mpr c25
              (first | rw [c25b0] | (simp only [i64_w, i32_w]; rw [c25b0]) | skip)
              have H' := Aside0.mk H;clear H;go_wp2;go_meet
              case rel => exact ⟨_, (false), uF, H', ⟨by have := HJ6.out; have := HK2.out; first | omega | exact Nat.le_refl _⟩, ⟨uR HO_7.out⟩, ⟨uR HO_8.out⟩, ⟨uB HB.out⟩⟩
            rw [if_pos c25] at H;have c25b0 := beq_iff_eq.mpr c25;have c25b1 := bne_eq_false_iff_eq.mpr c25;clear c25
            (first | rw [c25b0] | (simp only [i64_w, i32_w]; rw [c25b0]) | skip)
            replace H := uI H;obtain ⟨c26b0, H⟩ := H
            by_cases c27 : (rd x7_2 x9_2) = 3
            rotate_left
            · rw [if_neg c27] at H
              have c27b0 := beq_eq_false_iff_ne.mpr c27;have c27b1 := bne_iff_ne.mpr c27;have H' := Aside0.mk H;clear H;have p497 : 0 ≤ (x9_2 : Int) := uD;have q497 : x9_2 < (x7_2.length : Int) := uD;obtain ⟨ad497, e497, hx497_0⟩ := Kd.at_int (Kd.R_reads' HO_7.out).2.2 x9_2 p497 q497;cases e497;replace p497 := eq_true p497;replace q497 := eq_true q497;go_wp2;go_meet
              case rel => exact ⟨_, (false), uF, H', ⟨by have := HJ6.out; have := HK2.out; first | omega | exact Nat.le_refl _⟩, ⟨uR HO_7.out⟩, ⟨uR HO_8.out⟩, ⟨uB HB.out⟩⟩
            rw [if_pos c27] at H;have c27b0 := beq_iff_eq.mpr c27;have c27b1 := bne_eq_false_iff_eq.mpr c27;clear c27;replace H := Option.bind_eq_some_iff.mp H;obtain ⟨t498, A280, H⟩ := H;have A28 := Aside0.mk A280;clear A280;have H' := Aside0.mk H;clear H;have p497 : 0 ≤ (x9_2 : Int) := uD;have q497 : x9_2 < (x7_2.length : Int) := uD;obtain ⟨ad497, e497, hx497_0⟩ := Kd.at_int (Kd.R_reads' HO_7.out).2.2 x9_2 p497 q497;cases e497;replace p497 := eq_true p497;replace q497 := eq_true q497;obtain ⟨Ao29, co29, eo29⟩ := Kd.R_slice HO_8.out;subst eo29
            go_wp2_with (first | (go_at_call 79; (with_reducible refine (ductusref09_Strong.calls k2 _ _ t491 x9_2 t490 t498 _ ?side1 ?side2 A28.out).mono ?_); (case side1 => exact uC (Kd.R_reads' HO_8.out).2.2); (case side2 => exact (Kd.R_reads' HO_8.out).2.1); rintro e w30 ⟨rfl, hb⟩; have n_ := z3_ (Kd.R_below (uR HO_7.out) hb) (Kd.R_below (uR HO_8.out) hb) (below_step (uB HB.out) hb); clear HO_7 HO_8 HB; obtain ⟨HO_7, HO_8, HB⟩ := n_; (try clear hb); (try clear hb2); (try clear hk); (try clear hi)))
            go_meet
            case rel => exact ⟨_, ((t498 == 2)), uF, H', ⟨by have := HJ6.out; have := HK2.out; first | omega | exact Nat.le_refl _⟩, ⟨uR HO_7.out⟩, ⟨uR HO_8.out⟩, ⟨uB HB.out⟩⟩
          case rest =>
            clear HC23;(try clear c1);(try clear c2);(try clear p2);(try clear p4);(try clear q4);(try clear hx4);(try clear c5);(try clear c7);(try clear c10b0);(try clear c10b1);(try clear c14b0);(try clear c14b1);(try clear c18b0);(try clear c18b1);(try clear c22b0);(try clear c25b0);(try clear c25b1);(try clear c26b0);(try clear c27b0);(try clear c27b1);(try clear hx497_0);(try clear p2);(try clear p497);(try clear q497);obtain ⟨kq, x36_22, rfl, HA, HJ22, HO_7, HO_8, HB⟩ := hcut
            cases kq with
            | zero => exact absurd HA.out (by simp [ductusref09_Rule.j2])
            | succ kj22 =>
              have H := HA.out;clear HA;simp only [ductusref09_Rule.j2] at H
              by_cases c31 : x36_22 = true
              · subst c31
                have H1 : (if 0 ≤ x9_2 then (if x9_2 < (x7_2.length : Int) then (ductusref09_Rule.l0 kj22 t490 a2 (x7_2.set (x9_2 : Int).toNat 6) t491 (wrap64 (x9_2 + 1))) else (none)) else (none)) = some r := by rw [if_pos rfl] at H; exact H
                clear H;have H := H1;clear H1;replace H := uI H;obtain ⟨c32b0, H⟩ := H;replace H := uI H;obtain ⟨c33b0, H⟩ := H;obtain ⟨y499, hy499⟩ : ∃ y_ : List Int, y_ = (x7_2.set (x9_2 : Int).toNat 6) := ⟨_, rfl⟩;replace H : (ductusref09_Rule.l0 kj22 t490 a2 y499 t491 (wrap64 (x9_2 + 1))) = some r := uH hy499 H;have Ny499 := Aside0.mk hy499;clear hy499;have H' := Aside0.mk H;clear H;have p34 : 0 ≤ (x9_2 : Int) := uD;have q34 : (x9_2 : Int) < ((x7_2.length : Int) : Int) := uD;obtain ⟨go34, co34, eo34, gb34, gl34, cl34, HG34⟩ := Kd.R_form HO_7.out (by omega)
                (first | cases eo34 | (injection eo34 with ea_ en_ ec_; (first | subst ea_ | (injection ea_ with ea_; subst ea_)); subst ec_; clear en_))
                have GB34 := Aside0.mk gb34;have GG34 := Aside0.mk HG34;clear gb34 gl34 HG34;obtain ⟨hx34_0, hf34_0⟩ := Kd.R_celln 0 HO_7.out (x9_2 : Int) p34 q34;replace p34 := eq_true p34;replace q34 := eq_true q34;have HP35 := Kd.R_putg HO_7.out (x9_2 : Int) 6
                go_wp2_with (first | ((with_reducible refine gate_store (t := 3) (p := 55) rfl ?_); refine store_event (t := 3) (p := 55) (v := ?vo_w36) (w1 := (wc.setCell ⟨go34, (x9_2 : Int).toNat, none⟩ (.int .i64 6))) ?hg ?ho ?hn ?hr ?_; (case ho => rfl); (case hg => rfl); (case hn => rfl); (case hr => exact uN); intro w36 hw; have hg : wc.grownBy w36 (some go34) := (by rw [hw]; exact HP35.2); have hp_ : Kd.R (Kd.int .i64) 3 w36 w.heap.size (fun k_ => some k_ ≠ (v492 : Value).ownBlock) (.slice (some ⟨go34, 0, none⟩) x7_2.length co24) y499 := (by rw [hw, Ny499.out]; exact HP35.1); clear HP35; have n_ := z3_ (hp_) (Kd.R_after (v := (.slice (some ⟨go34, 0, none⟩) x7_2.length co24)) (v1 := (.slice (some ⟨go34, 0, none⟩) x7_2.length co24)) (ok := (fun _ => True)) (uT HO_8.out (fun _ hk => ⟨trivial, hk⟩)) hg (.inl rfl)) ((by rw [hw]; exact below_set (HB.out) GB34.out : Below w.heap.size w w36)); clear HO_7 HO_8 HB; obtain ⟨HO_7, HO_8, HB⟩ := n_; clear hg hw hp_))
                go_roundg kj22
                case measure => have := HJ6.out; have := HK2.out; have := HJ22.out; omega
                case rel => exact ⟨(y499), (wrap64 (x9_2 + 1)), uF, H', ⟨by have := HJ6.out; have := HK2.out; have := HJ22.out; omega⟩, ⟨uR HO_7.out⟩, ⟨uT HO_8.out (fun _ hk => hk.2)⟩, ⟨uB HB.out⟩⟩
              replace c31 := Bool.eq_false_iff.mpr c31;subst c31
              have H1 : (if a2 = 3 then (if 0 ≤ x9_2 then (if x9_2 < (x7_2.length : Int) then (ductusref09_Rule.j3 kj22 t490 a2 x7_2 t491 x9_2 ((rd x7_2 x9_2) == 2)) else (none)) else (none)) else (ductusref09_Rule.j3 kj22 t490 a2 x7_2 t491 x9_2 false)) = some r := by rw [if_neg (show ¬ (false = true) by decide)] at H; exact H
              clear H;have H := H1;clear H1;have HC37 := Aside0.mk H;clear H
              go_upto_region 16 with (fail)
              go_cut [56] (fun v56 wc => ∃ (kq : Nat) (x56_36 : Bool), v56 = .bool x56_36 ∧ Aside0 (ductusref09_Rule.j3 kq t490 a2 x7_2 t491 x9_2 x56_36 = some r) ∧ Aside0 (kq ≤ kj22) ∧ Aside0 (Kd.R (Kd.int .i64) 3 wc w.heap.size (fun k_ => some k_ ≠ (v492 : Value).ownBlock) (.slice Ao24 x7_2.length co24) x7_2) ∧ Aside0 (Kd.R (Kd.int .i64) 3 wc w.heap.size (fun k_ => some k_ ≠ ((.slice Ao24 x7_2.length co24) : Value).ownBlock) v492 t491) ∧ Aside0 (Below w.heap.size w wc))
              case first =>
                have H := HC37.out;clear HC37
                by_cases c38 : a2 = 3
                rotate_left
                · rw [if_neg c38] at H
                  have c38b0 := beq_eq_false_iff_ne.mpr c38;have c38b1 := bne_iff_ne.mpr c38
                  (first | rw [c38b0] | (simp only [i64_w, i32_w]; rw [c38b0]) | skip)
                  have H' := Aside0.mk H;clear H;go_wp2;go_meet
                  case rel => exact ⟨_, (false), uF, H', ⟨by have := HJ6.out; have := HK2.out; have := HJ22.out; first | omega | exact Nat.le_refl _⟩, ⟨uR HO_7.out⟩, ⟨uR HO_8.out⟩, ⟨uB HB.out⟩⟩
                rw [if_pos c38] at H;have c38b0 := beq_iff_eq.mpr c38;have c38b1 := bne_eq_false_iff_eq.mpr c38;clear c38
                (first | rw [c38b0] | (simp only [i64_w, i32_w]; rw [c38b0]) | skip)
                replace H := uI H;obtain ⟨c39b0, H⟩ := H;replace H := uI H;obtain ⟨c40b0, H⟩ := H;have H' := Aside0.mk H;clear H;have p500 : 0 ≤ (x9_2 : Int) := uD;have q500 : x9_2 < (x7_2.length : Int) := uD;obtain ⟨ad500, e500, hx500_0⟩ := Kd.at_int (Kd.R_reads' HO_7.out).2.2 x9_2 p500 q500;cases e500;replace p500 := eq_true p500;replace q500 := eq_true q500;go_wp2;go_meet
                case rel => exact ⟨_, (((rd x7_2 x9_2) == 2)), uF, H', ⟨by have := HJ6.out; have := HK2.out; have := HJ22.out; first | omega | exact Nat.le_refl _⟩, ⟨uR HO_7.out⟩, ⟨uR HO_8.out⟩, ⟨uB HB.out⟩⟩
              case rest =>
                clear HC37;(try clear c1);(try clear c2);(try clear p2);(try clear c3);(try clear p3);(try clear q3);(try clear hx3);(try clear hf3);(try clear c4);(try clear p4);(try clear q4);(try clear hx4);(try clear c5);(try clear p5);(try clear q5);(try clear hx5);(try clear p6);(try clear c7);(try clear c10b0);(try clear c10b1);(try clear c14b0);(try clear c14b1);(try clear c18b0);(try clear c18b1);(try clear c22b0);(try clear c25b0);(try clear c25b1);(try clear c26b0);(try clear c27b0);(try clear c27b1);(try clear c31);(try clear c32b0);(try clear c33b0);(try clear p34);(try clear q34);(try clear hx34);(try clear hf34);(try clear c38b0);(try clear c38b1);(try clear c39b0);(try clear c40b0);(try clear hx34_0);(try clear hx497_0);(try clear hx500_0);(try clear p2);(try clear p34);(try clear p4);(try clear p497);(try clear p500);(try clear q34);(try clear q4);(try clear q497);(try clear q500);obtain ⟨kq, x56_36, rfl, HA, HJ36, HO_7, HO_8, HB⟩ := hcut
                cases kq with
                | zero => exact absurd HA.out (by simp [ductusref09_Rule.j3])
                | succ kj36 =>
                  have H := HA.out;clear HA;simp only [ductusref09_Rule.j3] at H
                  by_cases c41 : x56_36 = true
                  · subst c41
                    have H1 : (if 0 ≤ x9_2 then (if x9_2 < (x7_2.length : Int) then (ductusref09_Rule.l0 kj36 t490 a2 (x7_2.set (x9_2 : Int).toNat 1) t491 (wrap64 (x9_2 + 1))) else (none)) else (none)) = some r := by rw [if_pos rfl] at H; exact H
                    clear H;have H := H1;clear H1;replace H := uI H;obtain ⟨c42b0, H⟩ := H;replace H := uI H;obtain ⟨c43b0, H⟩ := H;obtain ⟨y501, hy501⟩ : ∃ y_ : List Int, y_ = (x7_2.set (x9_2 : Int).toNat 1) := ⟨_, rfl⟩;replace H : (ductusref09_Rule.l0 kj36 t490 a2 y501 t491 (wrap64 (x9_2 + 1))) = some r := uH hy501 H;have Ny501 := Aside0.mk hy501;clear hy501;have H' := Aside0.mk H;clear H;have p44 : 0 ≤ (x9_2 : Int) := uD;have q44 : (x9_2 : Int) < ((x7_2.length : Int) : Int) := uD;obtain ⟨go44, co44, eo44, gb44, gl44, cl44, HG44⟩ := Kd.R_form HO_7.out (by omega)
                    (first | cases eo44 | (injection eo44 with ea_ en_ ec_; (first | subst ea_ | (injection ea_ with ea_; subst ea_)); subst ec_; clear en_))
                    have GB44 := Aside0.mk gb44;have GG44 := Aside0.mk HG44;clear gb44 gl44 HG44;obtain ⟨hx44_0, hf44_0⟩ := Kd.R_celln 0 HO_7.out (x9_2 : Int) p44 q44;replace p44 := eq_true p44;replace q44 := eq_true q44;have HP45 := Kd.R_putg HO_7.out (x9_2 : Int) 1
                    go_wp2_with (first | ((with_reducible refine gate_store (t := 3) (p := 68) rfl ?_); refine store_event (t := 3) (p := 68) (v := ?vo_w46) (w1 := (wc.setCell ⟨go44, (x9_2 : Int).toNat, none⟩ (.int .i64 1))) ?hg ?ho ?hn ?hr ?_; (case ho => rfl); (case hg => rfl); (case hn => rfl); (case hr => exact uN); intro w46 hw; have hg : wc.grownBy w46 (some go44) := (by rw [hw]; exact HP45.2); have hp_ : Kd.R (Kd.int .i64) 3 w46 w.heap.size (fun k_ => some k_ ≠ (v492 : Value).ownBlock) (.slice (some ⟨go44, 0, none⟩) x7_2.length co24) y501 := (by rw [hw, Ny501.out]; exact HP45.1); clear HP45; have n_ := z3_ (hp_) (Kd.R_after (v := (.slice (some ⟨go44, 0, none⟩) x7_2.length co24)) (v1 := (.slice (some ⟨go44, 0, none⟩) x7_2.length co24)) (ok := (fun _ => True)) (uT HO_8.out (fun _ hk => ⟨trivial, hk⟩)) hg (.inl rfl)) ((by rw [hw]; exact below_set (HB.out) GB44.out : Below w.heap.size w w46)); clear HO_7 HO_8 HB; obtain ⟨HO_7, HO_8, HB⟩ := n_; clear hg hw hp_))
                    go_roundg kj36
                    case measure => have := HJ6.out; have := HK2.out; have := HJ22.out; have := HJ36.out; omega
                    case rel => exact ⟨(y501), (wrap64 (x9_2 + 1)), uF, H', ⟨by have := HJ6.out; have := HK2.out; have := HJ22.out; have := HJ36.out; omega⟩, ⟨uR HO_7.out⟩, ⟨uT HO_8.out (fun _ hk => hk.2)⟩, ⟨uB HB.out⟩⟩
                  replace c41 := Bool.eq_false_iff.mpr c41;subst c41
                  have H1 : (if a2 = 6 then (if 0 ≤ x9_2 then (if x9_2 < (x7_2.length : Int) then (if (rd x7_2 x9_2) = 4 then (ductusref09_Rule.j4 kj36 t490 a2 x7_2 t491 x9_2 true) else (if (rd x7_2 x9_2) = 5 then (ductusref09_Rule.j4 kj36 t490 a2 x7_2 t491 x9_2 true) else (ductusref09_Rule.j4 kj36 t490 a2 x7_2 t491 x9_2 ((rd x7_2 x9_2) == 7)))) else (none)) else (none)) else (ductusref09_Rule.j4 kj36 t490 a2 x7_2 t491 x9_2 false)) = some r := by rw [if_neg (show ¬ (false = true) by decide)] at H; exact H
                  clear H;have H := H1;clear H1;have HC47 := Aside0.mk H;clear H
                  go_upto_region 18 with (fail)
                  go_cut [69] (fun v69 wc => ∃ (kq : Nat) (x69_46 : Bool), v69 = .bool x69_46 ∧ Aside0 (ductusref09_Rule.j4 kq t490 a2 x7_2 t491 x9_2 x69_46 = some r) ∧ Aside0 (kq ≤ kj36) ∧ Aside0 (Kd.R (Kd.int .i64) 3 wc w.heap.size (fun k_ => some k_ ≠ (v492 : Value).ownBlock) (.slice Ao24 x7_2.length co24) x7_2) ∧ Aside0 (Kd.R (Kd.int .i64) 3 wc w.heap.size (fun k_ => some k_ ≠ ((.slice Ao24 x7_2.length co24) : Value).ownBlock) v492 t491) ∧ Aside0 (Below w.heap.size w wc))
                  case first =>
                    have H := HC47.out;clear HC47
                    by_cases c48 : a2 = 6
                    rotate_left
                    · rw [if_neg c48] at H
                      have c48b0 := beq_eq_false_iff_ne.mpr c48;have c48b1 := bne_iff_ne.mpr c48
                      (first | rw [c48b0] | (simp only [i64_w, i32_w]; rw [c48b0]) | skip)
                      have H' := Aside0.mk H;clear H;go_wp2;go_meet
                      case rel => exact ⟨_, (false), uF, H', ⟨by have := HJ6.out; have := HK2.out; have := HJ22.out; have := HJ36.out; first | omega | exact Nat.le_refl _⟩, ⟨uR HO_7.out⟩, ⟨uR HO_8.out⟩, ⟨uB HB.out⟩⟩
                    rw [if_pos c48] at H;have c48b0 := beq_iff_eq.mpr c48;have c48b1 := bne_eq_false_iff_eq.mpr c48;clear c48
                    (first | rw [c48b0] | (simp only [i64_w, i32_w]; rw [c48b0]) | skip)
                    replace H := uI H;obtain ⟨c49b0, H⟩ := H;replace H := uI H;obtain ⟨c50b0, H⟩ := H
                    by_cases c51 : (rd x7_2 x9_2) = 4
                    · rw [if_pos c51] at H
                      have c51b0 := beq_iff_eq.mpr c51;have c51b1 := bne_eq_false_iff_eq.mpr c51;clear c51;have H' := Aside0.mk H;clear H;have p502 : 0 ≤ (x9_2 : Int) := uD;have q502 : x9_2 < (x7_2.length : Int) := uD;obtain ⟨ad502, e502, hx502_0⟩ := Kd.at_int (Kd.R_reads' HO_7.out).2.2 x9_2 p502 q502;cases e502;replace p502 := eq_true p502;replace q502 := eq_true q502;go_wp2;go_meet
                      case rel => exact ⟨_, (true), uF, H', ⟨by have := HJ6.out; have := HK2.out; have := HJ22.out; have := HJ36.out; first | omega | exact Nat.le_refl _⟩, ⟨uR HO_7.out⟩, ⟨uR HO_8.out⟩, ⟨uB HB.out⟩⟩
                    rw [if_neg c51] at H;have c51b0 := beq_eq_false_iff_ne.mpr c51;have c51b1 := bne_iff_ne.mpr c51
                    by_cases c52 : (rd x7_2 x9_2) = 5
                    · rw [if_pos c52] at H
                      have c52b0 := beq_iff_eq.mpr c52;have c52b1 := bne_eq_false_iff_eq.mpr c52;clear c52;have H' := Aside0.mk H;clear H;have p502 : 0 ≤ (x9_2 : Int) := uD;have q502 : x9_2 < (x7_2.length : Int) := uD;obtain ⟨ad502, e502, hx502_0⟩ := Kd.at_int (Kd.R_reads' HO_7.out).2.2 x9_2 p502 q502;cases e502;replace p502 := eq_true p502;replace q502 := eq_true q502;have p503 : 0 ≤ (x9_2 : Int) := uD;have q503 : x9_2 < (x7_2.length : Int) := uD;obtain ⟨ad503, e503, hx503_0⟩ := Kd.at_int (Kd.R_reads' HO_7.out).2.2 x9_2 p503 q503;obtain rfl : ad502 = ad503 := (by injection e503);replace p503 := eq_true p503;replace q503 := eq_true q503;go_wp2;go_meet
                      case rel => exact ⟨_, (true), uF, H', ⟨by have := HJ6.out; have := HK2.out; have := HJ22.out; have := HJ36.out; first | omega | exact Nat.le_refl _⟩, ⟨uR HO_7.out⟩, ⟨uR HO_8.out⟩, ⟨uB HB.out⟩⟩
                    rw [if_neg c52] at H;have c52b0 := beq_eq_false_iff_ne.mpr c52;have c52b1 := bne_iff_ne.mpr c52;have H' := Aside0.mk H;clear H;have p502 : 0 ≤ (x9_2 : Int) := uD;have q502 : x9_2 < (x7_2.length : Int) := uD;obtain ⟨ad502, e502, hx502_0⟩ := Kd.at_int (Kd.R_reads' HO_7.out).2.2 x9_2 p502 q502;cases e502;replace p502 := eq_true p502;replace q502 := eq_true q502;have p503 : 0 ≤ (x9_2 : Int) := uD;have q503 : x9_2 < (x7_2.length : Int) := uD;obtain ⟨ad503, e503, hx503_0⟩ := Kd.at_int (Kd.R_reads' HO_7.out).2.2 x9_2 p503 q503;obtain rfl : ad502 = ad503 := (by injection e503);replace p503 := eq_true p503;replace q503 := eq_true q503;have p504 : 0 ≤ (x9_2 : Int) := uD;have q504 : x9_2 < (x7_2.length : Int) := uD;obtain ⟨ad504, e504, hx504_0⟩ := Kd.at_int (Kd.R_reads' HO_7.out).2.2 x9_2 p504 q504;obtain rfl : ad502 = ad504 := (by injection e504);replace p504 := eq_true p504;replace q504 := eq_true q504;go_wp2;go_meet
                    case rel => exact ⟨_, (((rd x7_2 x9_2) == 7)), uF, H', ⟨by have := HJ6.out; have := HK2.out; have := HJ22.out; have := HJ36.out; first | omega | exact Nat.le_refl _⟩, ⟨uR HO_7.out⟩, ⟨uR HO_8.out⟩, ⟨uB HB.out⟩⟩
                  case rest =>
                    clear HC47;(try clear c1);(try clear c2);(try clear p2);(try clear c3);(try clear p3);(try clear q3);(try clear hx3);(try clear hf3);(try clear c4);(try clear p4);(try clear q4);(try clear hx4);(try clear hf4);(try clear c5);(try clear p5);(try clear q5);(try clear hx5);(try clear p6);(try clear c7);(try clear c10b0);(try clear c10b1);(try clear c14b0);(try clear c14b1);(try clear c18b0);(try clear c18b1);(try clear c22b0);(try clear c25b0);(try clear c25b1);(try clear c26b0);(try clear c27b0);(try clear c27b1);(try clear c31);(try clear c32b0);(try clear c33b0);(try clear p34);(try clear q34);(try clear hx34);(try clear hf34);(try clear c38b0);(try clear c38b1);(try clear c39b0);(try clear c40b0);(try clear c41);(try clear c42b0);(try clear c43b0);(try clear p44);(try clear q44);(try clear hx44);(try clear hf44);(try clear c48b0);(try clear c48b1);(try clear c49b0);(try clear p49);(try clear q49);(try clear hx49);(try clear c50b0);(try clear p50);(try clear q50);(try clear hx50);(try clear c51b0);(try clear c51b1);(try clear c52b0);(try clear c52b1);(try clear hx34_0);(try clear hx44_0);(try clear hx497_0);(try clear hx500_0);(try clear hx502_0);(try clear hx503_0);(try clear hx504_0);(try clear p2);(try clear p3);(try clear p34);(try clear p4);(try clear p44);(try clear p497);(try clear p5);(try clear p500);(try clear p502);(try clear p503);(try clear p504);(try clear p6);(try clear q3);(try clear q34);(try clear q4);(try clear q44);(try clear q497);(try clear q5);(try clear q500);(try clear q502);(try clear q503);(try clear q504);obtain ⟨kq, x69_46, rfl, HA, HJ46, HO_7, HO_8, HB⟩ := hcut
                    cases kq with
                    | zero => exact absurd HA.out (by simp [ductusref09_Rule.j4])
                    | succ kj46 =>
                      have H := HA.out;clear HA;simp only [ductusref09_Rule.j4] at H
                      by_cases c53 : x69_46 = true
                      · subst c53
                        have H1 : (if 0 ≤ x9_2 then (if x9_2 < (x7_2.length : Int) then (ductusref09_Rule.l0 kj46 t490 a2 (x7_2.set (x9_2 : Int).toNat 13) t491 (wrap64 (x9_2 + 1))) else (none)) else (none)) = some r := by rw [if_pos rfl] at H; exact H
                        clear H;have H := H1;clear H1;replace H := uI H;obtain ⟨c54b0, H⟩ := H;replace H := uI H;obtain ⟨c55b0, H⟩ := H;obtain ⟨y505, hy505⟩ : ∃ y_ : List Int, y_ = (x7_2.set (x9_2 : Int).toNat 13) := ⟨_, rfl⟩;replace H : (ductusref09_Rule.l0 kj46 t490 a2 y505 t491 (wrap64 (x9_2 + 1))) = some r := uH hy505 H;have Ny505 := Aside0.mk hy505;clear hy505;have H' := Aside0.mk H;clear H;have p56 : 0 ≤ (x9_2 : Int) := uD;have q56 : (x9_2 : Int) < ((x7_2.length : Int) : Int) := uD;obtain ⟨go56, co56, eo56, gb56, gl56, cl56, HG56⟩ := Kd.R_form HO_7.out (by omega)
                        (first | cases eo56 | (injection eo56 with ea_ en_ ec_; (first | subst ea_ | (injection ea_ with ea_; subst ea_)); subst ec_; clear en_))
                        have GB56 := Aside0.mk gb56;have GG56 := Aside0.mk HG56;clear gb56 gl56 HG56;obtain ⟨hx56_0, hf56_0⟩ := Kd.R_celln 0 HO_7.out (x9_2 : Int) p56 q56;replace p56 := eq_true p56;replace q56 := eq_true q56;have HP57 := Kd.R_putg HO_7.out (x9_2 : Int) 13
                        go_wp2_with (first | ((with_reducible refine gate_store (t := 3) (p := 95) rfl ?_); refine store_event (t := 3) (p := 95) (v := ?vo_w58) (w1 := (wc.setCell ⟨go56, (x9_2 : Int).toNat, none⟩ (.int .i64 13))) ?hg ?ho ?hn ?hr ?_; (case ho => rfl); (case hg => rfl); (case hn => rfl); (case hr => exact uN); intro w58 hw; have hg : wc.grownBy w58 (some go56) := (by rw [hw]; exact HP57.2); have hp_ : Kd.R (Kd.int .i64) 3 w58 w.heap.size (fun k_ => some k_ ≠ (v492 : Value).ownBlock) (.slice (some ⟨go56, 0, none⟩) x7_2.length co24) y505 := (by rw [hw, Ny505.out]; exact HP57.1); clear HP57; have n_ := z3_ (hp_) (Kd.R_after (v := (.slice (some ⟨go56, 0, none⟩) x7_2.length co24)) (v1 := (.slice (some ⟨go56, 0, none⟩) x7_2.length co24)) (ok := (fun _ => True)) (uT HO_8.out (fun _ hk => ⟨trivial, hk⟩)) hg (.inl rfl)) ((by rw [hw]; exact below_set (HB.out) GB56.out : Below w.heap.size w w58)); clear HO_7 HO_8 HB; obtain ⟨HO_7, HO_8, HB⟩ := n_; clear hg hw hp_))
                        go_roundg kj46
                        case measure => have := HJ6.out; have := HK2.out; have := HJ22.out; have := HJ36.out; have := HJ46.out; omega
                        case rel => exact ⟨(y505), (wrap64 (x9_2 + 1)), uF, H', ⟨by have := HJ6.out; have := HK2.out; have := HJ22.out; have := HJ36.out; have := HJ46.out; omega⟩, ⟨uR HO_7.out⟩, ⟨uT HO_8.out (fun _ hk => hk.2)⟩, ⟨uB HB.out⟩⟩
                      replace c53 := Bool.eq_false_iff.mpr c53;subst c53
                      have H1 : (if a2 = 7 then (if 0 ≤ x9_2 then (if x9_2 < (x7_2.length : Int) then (if (rd x7_2 x9_2) = 3 then ((ductusref09_Strong.f kj46 t491 x9_2 t490).bind fun t507 => (if t507 = 0 then (ductusref09_Rule.l0 kj46 t490 a2 (x7_2.set (x9_2 : Int).toNat 0) t491 (wrap64 (x9_2 + 1))) else (ductusref09_Rule.l0 kj46 t490 a2 x7_2 t491 (wrap64 (x9_2 + 1))))) else (ductusref09_Rule.l0 kj46 t490 a2 x7_2 t491 (wrap64 (x9_2 + 1)))) else (none)) else (none)) else (ductusref09_Rule.l0 kj46 t490 a2 x7_2 t491 (wrap64 (x9_2 + 1)))) = some r := by rw [if_neg (show ¬ (false = true) by decide)] at H; exact H
                      clear H;have H := H1;clear H1
                      by_cases c59 : a2 = 7
                      rotate_left
                      · rw [if_neg c59] at H
                        have c59b0 := beq_eq_false_iff_ne.mpr c59;have c59b1 := bne_iff_ne.mpr c59;have H' := Aside0.mk H;clear H;go_wp2;go_roundg kj46
                        case measure => have := HJ6.out; have := HK2.out; have := HJ22.out; have := HJ36.out; have := HJ46.out; omega
                        case rel => exact ⟨(x7_2), (wrap64 (x9_2 + 1)), uF, H', ⟨by have := HJ6.out; have := HK2.out; have := HJ22.out; have := HJ36.out; have := HJ46.out; omega⟩, ⟨uR HO_7.out⟩, ⟨uR HO_8.out⟩, ⟨uB HB.out⟩⟩
                      rw [if_pos c59] at H;have c59b0 := beq_iff_eq.mpr c59;have c59b1 := bne_eq_false_iff_eq.mpr c59;clear c59;replace H := uI H;obtain ⟨c60b0, H⟩ := H;replace H := uI H;obtain ⟨c61b0, H⟩ := H
                      by_cases c62 : (rd x7_2 x9_2) = 3
                      rotate_left
                      · rw [if_neg c62] at H
                        have c62b0 := beq_eq_false_iff_ne.mpr c62;have c62b1 := bne_iff_ne.mpr c62;have H' := Aside0.mk H;clear H;have p506 : 0 ≤ (x9_2 : Int) := uD;have q506 : x9_2 < (x7_2.length : Int) := uD;obtain ⟨ad506, e506, hx506_0⟩ := Kd.at_int (Kd.R_reads' HO_7.out).2.2 x9_2 p506 q506;cases e506;replace p506 := eq_true p506;replace q506 := eq_true q506;go_wp2;go_roundg kj46
                        case measure => have := HJ6.out; have := HK2.out; have := HJ22.out; have := HJ36.out; have := HJ46.out; omega
                        case rel => exact ⟨(x7_2), (wrap64 (x9_2 + 1)), uF, H', ⟨by have := HJ6.out; have := HK2.out; have := HJ22.out; have := HJ36.out; have := HJ46.out; omega⟩, ⟨uR HO_7.out⟩, ⟨uR HO_8.out⟩, ⟨uB HB.out⟩⟩
                      rw [if_pos c62] at H;have c62b0 := beq_iff_eq.mpr c62;have c62b1 := bne_eq_false_iff_eq.mpr c62;clear c62;replace H := Option.bind_eq_some_iff.mp H;obtain ⟨t507, A630, H⟩ := H;have A63 := Aside0.mk A630;clear A630
                      by_cases c64 : t507 = 0
                      rotate_left
                      · rw [if_neg c64] at H
                        have c64b0 := beq_eq_false_iff_ne.mpr c64;have c64b1 := bne_iff_ne.mpr c64;have H' := Aside0.mk H;clear H;have p506 : 0 ≤ (x9_2 : Int) := uD;have q506 : x9_2 < (x7_2.length : Int) := uD;obtain ⟨ad506, e506, hx506_0⟩ := Kd.at_int (Kd.R_reads' HO_7.out).2.2 x9_2 p506 q506;cases e506;replace p506 := eq_true p506;replace q506 := eq_true q506;obtain ⟨Ao70, co70, eo70⟩ := Kd.R_slice HO_8.out;subst eo70
                        go_wp2_with (first | (go_at_call 79; (with_reducible refine (ductusref09_Strong.calls kj46 _ _ t491 x9_2 t490 t507 _ ?side1 ?side2 A63.out).mono ?_); (case side1 => exact uC (Kd.R_reads' HO_8.out).2.2); (case side2 => exact (Kd.R_reads' HO_8.out).2.1); rintro e w71 ⟨rfl, hb⟩; have n_ := z3_ (Kd.R_below (uR HO_7.out) hb) (Kd.R_below (uR HO_8.out) hb) (below_step (uB HB.out) hb); clear HO_7 HO_8 HB; obtain ⟨HO_7, HO_8, HB⟩ := n_; (try clear hb); (try clear hb2); (try clear hk); (try clear hi)))
                        go_roundg kj46
                        case measure => have := HJ6.out; have := HK2.out; have := HJ22.out; have := HJ36.out; have := HJ46.out; omega
                        case rel => exact ⟨(x7_2), (wrap64 (x9_2 + 1)), uF, H', ⟨by have := HJ6.out; have := HK2.out; have := HJ22.out; have := HJ36.out; have := HJ46.out; omega⟩, ⟨uR HO_7.out⟩, ⟨uR HO_8.out⟩, ⟨uB HB.out⟩⟩
                      rw [if_pos c64] at H;have c64b0 := beq_iff_eq.mpr c64;have c64b1 := bne_eq_false_iff_eq.mpr c64;clear c64;obtain ⟨y508, hy508⟩ : ∃ y_ : List Int, y_ = (x7_2.set (x9_2 : Int).toNat 0) := ⟨_, rfl⟩;replace H : (ductusref09_Rule.l0 kj46 t490 a2 y508 t491 (wrap64 (x9_2 + 1))) = some r := uH hy508 H;have Ny508 := Aside0.mk hy508;clear hy508;have H' := Aside0.mk H;clear H;have p506 : 0 ≤ (x9_2 : Int) := uD;have q506 : x9_2 < (x7_2.length : Int) := uD;obtain ⟨ad506, e506, hx506_0⟩ := Kd.at_int (Kd.R_reads' HO_7.out).2.2 x9_2 p506 q506;cases e506;replace p506 := eq_true p506;replace q506 := eq_true q506;obtain ⟨Ao66, co66, eo66⟩ := Kd.R_slice HO_8.out;subst eo66
                      go_wp2_with (first | (go_at_call 79; (with_reducible refine (ductusref09_Strong.calls kj46 _ _ t491 x9_2 t490 t507 _ ?side1 ?side2 A63.out).mono ?_); (case side1 => exact uC (Kd.R_reads' HO_8.out).2.2); (case side2 => exact (Kd.R_reads' HO_8.out).2.1); rintro e w67 ⟨rfl, hb⟩; have n_ := z3_ (Kd.R_below (uR HO_7.out) hb) (Kd.R_below (uR HO_8.out) hb) (below_step (uB HB.out) hb); clear HO_7 HO_8 HB; obtain ⟨HO_7, HO_8, HB⟩ := n_; (try clear hb); (try clear hb2); (try clear hk); (try clear hi); have p65 : 0 ≤ (x9_2 : Int) := uD; have q65 : (x9_2 : Int) < ((x7_2.length : Int) : Int) := uD; obtain ⟨go65, co65, eo65, gb65, gl65, cl65, HG65⟩ := Kd.R_form HO_7.out (by omega); (first | cases eo65 | (injection eo65 with ea_ en_ ec_; (first | subst ea_ | (injection ea_ with ea_; subst ea_)); subst ec_; clear en_)); have GB65 := Aside0.mk gb65; have GG65 := Aside0.mk HG65; clear gb65 gl65 HG65; (first | simp only [add_plain] at hx506_0 | skip); obtain ⟨hx65_0, hf65_0⟩ := Kd.R_celln 0 HO_7.out (x9_2 : Int) p65 q65; replace p65 := eq_true p65; replace q65 := eq_true q65; obtain ⟨hy68_, hz68_⟩ := Kd.R_celln 0 HO_7.out (x9_2 : Int) (uD) (uD); have HP68 := Kd.R_putg HO_7.out (x9_2 : Int) 0) | ((with_reducible refine gate_store (t := 3) (p := 115) rfl ?_); refine store_event (t := 3) (p := 115) (v := ?vo_w69) (w1 := (w67.setCell ⟨go65, (x9_2 : Int).toNat, none⟩ (.int .i64 0))) ?hg ?ho ?hn ?hr ?_; (case ho => rfl); (case hg => rfl); (case hn => rfl); (case hr => exact uN); intro w69 hw; have hg : w67.grownBy w69 (some go65) := (by rw [hw]; exact HP68.2); have hp_ : Kd.R (Kd.int .i64) 3 w69 w.heap.size (fun k_ => some k_ ≠ (.slice Ao66 t491.length co66 : Value).ownBlock) (.slice (some ⟨go65, 0, none⟩) x7_2.length co24) y508 := (by rw [hw, Ny508.out]; exact HP68.1); clear HP68; have n_ := z3_ (hp_) (Kd.R_after (v := (.slice (some ⟨go65, 0, none⟩) x7_2.length co24)) (v1 := (.slice (some ⟨go65, 0, none⟩) x7_2.length co24)) (ok := (fun _ => True)) (uT HO_8.out (fun _ hk => ⟨trivial, hk⟩)) hg (.inl rfl)) ((by rw [hw]; exact below_set (HB.out) GB65.out : Below w.heap.size w w69)); clear HO_7 HO_8 HB; obtain ⟨HO_7, HO_8, HB⟩ := n_; clear hg hw hp_))
                      go_roundg kj46
                      case measure => have := HJ6.out; have := HK2.out; have := HJ22.out; have := HJ36.out; have := HJ46.out; omega
                      case rel => exact ⟨(y508), (wrap64 (x9_2 + 1)), uF, H', ⟨by have := HJ6.out; have := HK2.out; have := HJ22.out; have := HJ36.out; have := HJ46.out; omega⟩, ⟨uR HO_7.out⟩, ⟨uT HO_8.out (fun _ hk => hk.2)⟩, ⟨uB HB.out⟩⟩
end Go.Proofs.Ytmjipbmpapcboaa.P
