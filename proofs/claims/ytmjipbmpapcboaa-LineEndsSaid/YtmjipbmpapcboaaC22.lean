/- Proved: the theorems below, each under its own conditions. -/
import Derived.Test.YtmjipbmpapcboaaC13
import Derived.Test.YtmjipbmpapcboaaC19
import Derived.Test.YtmjipbmpapcboaaC21
namespace Go.Proofs.Ytmjipbmpapcboaa.P
open Go.RowKit Go.Proofs.YtmjipbmpapcboaaW.PrintWords Go.Proofs.YtmjipbmpapcboaaW.PrintLast Go.Proofs.YtmjipbmpapcboaaW.PrintMore
attribute [local go_sem] max2_int min2_int max_two min_two
set_option linter.unusedVariables false
set_option maxHeartbeats 8000000
set_option maxRecDepth 100000
set_option linter.unusedSimpArgs false
def ductusref09_Of.l0 : Nat → Int → List Int → Int → Option (List Int)
  | 0, _, _, _ => none
  | k + 1, x1, x5, x6 => if x6 ≤ 7 then ((ductusref09_Rule.f k x5 x1 x6).bind fun t512 => (ductusref09_Of.l0 k x1 t512 (wrap64 (x6 + 1)))) else (some x5)
def ductusref09_Of.f (k : Nat) (l0 : List Int) (a1 : Int) : Option (List Int) := (ductusref09_Plain.f k l0).bind fun t509 => (ductusref09_Of.l0 k a1 t509 1)
theorem ductusref09_Of.calls (k : Nat) (A0 : Option Addr) (c0 : Nat) (l0 : List Int) (a1 : Int) (r : List Int) (w : World) (hr0 : Kd.C (Kd.int .i64) w A0 l0.length l0) (hc0 : l0.length ≤ c0) (h : ductusref09_Of.f k l0 a1 = some r) :
    Calls Try.prog 41 #[.slice A0 l0.length c0, .int .i64 a1] w fun e w' => ∃ v0_ : Value, e = .returned (v0_) ∧ Kd.R (Kd.int .i64) 3 w' w.heap.size (fun _ => True) v0_ r ∧ Below w.heap.size w w' := by
  have HR0 := Aside0.mk hr0;have HC0 := Aside0.mk hc0;clear hr0 hc0;have HB := Aside0.mk (Below.refl w.heap.size w);unfold ductusref09_Of.f at h;have H := h;clear h;replace H := Option.bind_eq_some_iff.mp H;obtain ⟨t509, A30, H⟩ := H;have A3 := Aside0.mk A30;clear A30;have H' := Aside0.mk H;clear H
  go_enter Try.func41, Try.ntmps41
  go_wp2_with (first | ((with_reducible refine gate_callee (f := 55) rfl ?_); refine gL 8 Try.func55 #[.slice A0 l0.length c0] ?_; (with_reducible refine (ductusref09_Plain.calls k _ _ l0 t509 _ ?side1 ?side2 A3.out).mono ?_); (case side1 => exact uC HR0.out); (case side2 => exact HC0.out); rintro e w4 ⟨v510, rfl, ho0, hb⟩; refine ⟨_, rfl, ?_⟩; have n_ := z2_ (Kd.R_lower ho0 (below_size (uB HB.out))) (below_step (uB HB.out) hb); clear HB; obtain ⟨HO511, HB⟩ := n_; (try clear hb); (try clear ho0)))
  go_loopg [5, 6] k (fun kq v5 v6 w' => ∃ (x5_1 : List Int) (x6_1 : Int), v6 = .int .i64 x6_1 ∧ Aside0 (ductusref09_Of.l0 kq a1 x5_1 x6_1 = some r) ∧ Aside0 (kq ≤ k) ∧ Aside0 (Kd.R (Kd.int .i64) 3 w' w.heap.size (fun _ => True) v5 x5_1) ∧ Aside0 (Below w.heap.size w w'))
  case atStart => exact ⟨(t509), (1), uF, H', ⟨Nat.le_refl _⟩, ⟨uR HO511.out⟩, ⟨uB HB.out⟩⟩
  case round =>
    clear H';(try clear p2);(try clear c4);obtain ⟨x5_1, x6_1, rfl, HA, HK1, HO_5, HB⟩ := hrel
    cases gk with
    | zero => exact absurd HA.out (by simp [ductusref09_Of.l0])
    | succ k1 =>
      have H := HA.out;clear HA;simp only [ductusref09_Of.l0] at H
      by_cases c5 : x6_1 ≤ 7
      rotate_left
      · rw [if_neg c5] at H
        have c5b0 := decide_eq_false c5;clear c5;obtain rfl := Option.some.inj H;go_wp2;go_ret;exact ⟨_, uE, uR HO_5.out, uB HB.out⟩
      rw [if_pos c5] at H;have c5b0 := decide_eq_true c5;clear c5;replace H := Option.bind_eq_some_iff.mp H;obtain ⟨t512, A60, H⟩ := H;have A6 := Aside0.mk A60;clear A60;have H' := Aside0.mk H;clear H;obtain ⟨Ao7, co7, eo7⟩ := Kd.R_slice HO_5.out;subst eo7
      go_wp2_with (first | ((with_reducible refine gate_callee (f := 56) rfl ?_); refine gL 16 Try.func56 #[.slice Ao7 x5_1.length co7, .int .i64 a1, .int .i64 x6_1] ?_; (with_reducible refine (ductusref09_Rule.calls k1 _ _ x5_1 a1 x6_1 t512 _ ?side1 ?side2 A6.out).mono ?_); (case side1 => exact uC (Kd.R_reads' HO_5.out).2.2); (case side2 => exact (Kd.R_reads' HO_5.out).2.1); rintro e w8 ⟨v513, rfl, ho0, hb⟩; refine ⟨_, rfl, ?_⟩; have n_ := z3_ (Kd.R_elder' (uR HO_5.out) (Kd.R_base ho0) hb) (Kd.R_lower (Kd.R_new' ho0 (Kd.R_lt (uR HO_5.out))) (below_size (uB HB.out))) (below_step (uB HB.out) hb); clear HO_5 HB; obtain ⟨HO_5, HO514, HB⟩ := n_; (try clear hb); (try clear ho0)))
      go_roundg k1
      case measure => have := HK1.out; omega
      case rel => exact ⟨(t512), (wrap64 (x6_1 + 1)), uF, H', ⟨by have := HK1.out; omega⟩, ⟨uT HO514.out (fun _ hk => trivial)⟩, ⟨uB HB.out⟩⟩
def ductusref03_brackets.f  : Option (List Int) := some (([40, 41, 91, 93, 123, 125, 9001, 9002, 12296, 12297, 12298, 12299, 12300, 12301, 12302, 12303, 12304, 12305] : List Int))
theorem ductusref03_brackets.calls  (r : List Int) (w : World) (h : ductusref03_brackets.f  = some r) :
    Calls Try.prog 91 #[] w fun e w' => ∃ v0_ : Value, e = .returned (v0_) ∧ Kd.R (Kd.int .i64) 3 w' w.heap.size (fun _ => True) v0_ r ∧ Below w.heap.size w w' := by
  have HB := Aside0.mk (Below.refl w.heap.size w);have H : (some (([40, 41, 91, 93, 123, 125, 9001, 9002, 12296, 12297, 12298, 12299, 12300, 12301, 12302, 12303, 12304, 12305] : List Int))) = some r := h;clear h;obtain ⟨y515, hy515⟩ : ∃ y_ : List Int, y_ = (([40, 41, 91, 93, 123, 125, 9001, 9002, 12296, 12297, 12298, 12299, 12300, 12301, 12302, 12303, 12304, 12305] : List Int)) := ⟨_, rfl⟩;replace H : (some y515) = some r := uH hy515 H;have Ny515 := Aside0.mk hy515;clear hy515;obtain rfl := Option.some.inj H
  go_enter Try.func91, Try.ntmps91
  go_wp2_with (first | ((with_reducible refine gate_dst (N := 1) rfl ?_); refine Kd.R_lit (Kd.int .i64) _ 3 ?hg (N := 1) ?hd (xs := ([40, 41, 91, 93, 123, 125, 9001, 9002, 12296, 12297, 12298, 12299, 12300, 12301, 12302, 12303, 12304, 12305] : List Int)) (inner := [.int .i64 40, .int .i64 41, .int .i64 91, .int .i64 93, .int .i64 123, .int .i64 125, .int .i64 9001, .int .i64 9002, .int .i64 12296, .int .i64 12297, .int .i64 12298, .int .i64 12299, .int .i64 12300, .int .i64 12301, .int .i64 12302, .int .i64 12303, .int .i64 12304, .int .i64 12305]) (ok := fun _ => True) (okp := fun _ => True) ?hr ?hp (fun _ hk => hk) trivial (Below.refl _ _) (Nat.le_refl _) (by simp) ?_; (case hd => rfl); (case hg => rfl); (case hr => exact uN); (case hp => exact (Reps.one uL (Reps.one uL (Reps.one uL (Reps.one uL (Reps.one uL (Reps.one uL (Reps.one uL (Reps.one uL (Reps.one uL (Reps.one uL (Reps.one uL (Reps.one uL (Reps.one uL (Reps.one uL (Reps.one uL (Reps.one uL (Reps.one uL (Reps.one uL (Reps.none _ _)))))))))))))))))))); intro v516 w1 ho2 hb hg_ hnew_; clear hg_ hnew_; (first | rw [← Ny515.out] at ho2 | (simp only [Int.reduceToNat] at ho2; rw [← Ny515.out] at ho2)); have n_ := z2_ (Kd.R_lower ho2 (below_size (uB HB.out))) (below_step (uB HB.out) hb); clear HB; obtain ⟨HO517, HB⟩ := n_; clear hb ho2))
  go_ret;exact ⟨_, uE, uR HO517.out, uB HB.out⟩
def ductusref03_Other.l0 : Nat → Int → List Int → Int → Option (Int × Bool × Bool)
  | 0, _, _, _ => none
  | k + 1, x0, x5, x6 => if x6 < (x5.length : Int) then (if 0 ≤ x6 then (if (rd x5 x6) = x0 then (if 0 ≤ (wrap64 (x6 + 1)) then (if (wrap64 (x6 + 1)) < (x5.length : Int) then (some (rd x5 (wrap64 (x6 + 1)), true, true)) else (none)) else (none)) else (if 0 ≤ (wrap64 (x6 + 1)) then (if (wrap64 (x6 + 1)) < (x5.length : Int) then (if (rd x5 (wrap64 (x6 + 1))) = x0 then (some (rd x5 x6, false, true)) else (ductusref03_Other.l0 k x0 x5 (wrap64 (x6 + 2)))) else (none)) else (none))) else (none)) else (some (0, false, false))
def ductusref03_Other.f (k : Nat) (a0 : Int) : Option (Int × Bool × Bool) := (ductusref03_brackets.f).bind fun t518 => (ductusref03_Other.l0 k a0 t518 0)
theorem ductusref03_Other.calls (k : Nat) (a0 : Int) (r1 : Int) (r2 : Bool) (r3 : Bool) (w : World) (h : ductusref03_Other.f k a0 = some (r1, r2, r3)) :
    Calls Try.prog 80 #[.int .i64 a0] w fun e w' => e = .returned (.tuple #[.int .i64 r1, .bool r2, .bool r3]) ∧ Below w.heap.size w w' := by
  have HB := Aside0.mk (Below.refl w.heap.size w);unfold ductusref03_Other.f at h;have H := h;clear h;replace H := Option.bind_eq_some_iff.mp H;obtain ⟨t518, A20, H⟩ := H;have A2 := Aside0.mk A20;clear A20;have H' := Aside0.mk H;clear H
  go_enter Try.func80, Try.ntmps80
  go_wp2_with (first | ((with_reducible refine gate_callee (f := 91) rfl ?_); refine gL 7 Try.func91 #[] ?_; (with_reducible refine (ductusref03_brackets.calls  t518 _ A2.out).mono ?_); rintro e w3 ⟨v519, rfl, ho0, hb⟩; refine ⟨_, rfl, ?_⟩; have n_ := z2_ (Kd.R_lower ho0 (below_size (uB HB.out))) (below_step (uB HB.out) hb); clear HB; obtain ⟨HO520, HB⟩ := n_; (try clear hb); (try clear ho0)))
  go_loopg [6] k (fun kq v6 w' => ∃ (x6_1 : Int), v6 = .int .i64 x6_1 ∧ Aside0 (ductusref03_Other.l0 kq a0 t518 x6_1 = some (r1, r2, r3)) ∧ Aside0 (kq ≤ k) ∧ Aside0 (Kd.R (Kd.int .i64) 3 w' w.heap.size (fun _ => True) v519 t518) ∧ Aside0 (Below w.heap.size w w'))
  case atStart => exact ⟨(0), uF, H', ⟨Nat.le_refl _⟩, ⟨uR HO520.out⟩, ⟨uB HB.out⟩⟩
  case round =>
    clear H';(try clear p2);obtain ⟨x6_1, rfl, HA, HK1, HO_5, HB⟩ := hrel
    cases gk with
    | zero => exact absurd HA.out (by simp [ductusref03_Other.l0])
    | succ k1 =>
      have H := HA.out;clear HA;simp only [ductusref03_Other.l0] at H
      by_cases c4 : x6_1 < (t518.length : Int)
      rotate_left
      · rw [if_neg c4] at H
        have c4b0 := decide_eq_false c4;clear c4;simp only [Option.some.injEq, Prod.mk.injEq] at H;obtain ⟨rfl, rfl, rfl⟩ := H;obtain ⟨Ao17, co17, eo17⟩ := Kd.R_slice HO_5.out;subst eo17;go_wp2;go_ret3;exact ⟨uE, uB HB.out⟩
      rw [if_pos c4] at H;have c4b0 := decide_eq_true c4;clear c4;replace H := uI H;obtain ⟨c5b0, H⟩ := H
      by_cases c6 : (rd t518 x6_1) = a0
      · rw [if_pos c6] at H
        have c6b0 := beq_iff_eq.mpr c6;have c6b1 := bne_eq_false_iff_eq.mpr c6;clear c6;obtain ⟨ji7, hji7⟩ : ∃ j_ : Int, (wrap64 (x6_1 + 1)) = j_ := ⟨_, rfl⟩
        replace H : (if 0 ≤ (ji7) then (if (ji7) < (t518.length : Int) then (some (rd t518 (ji7), true, true)) else (none)) else (none)) = some (r1, r2, r3) := by first | (rw [hji7] at H; exact H) | (simp only [hji7] at H ⊢; exact H)
        have hji7w : (IntKind.i64.wrap (x6_1 + 1)) = ji7 := (i64_w _).trans hji7;replace H := uI H;obtain ⟨c8b0, H⟩ := H;replace H := uI H;obtain ⟨c9b0, H⟩ := H;simp only [Option.some.injEq, Prod.mk.injEq] at H;obtain ⟨rfl, rfl, rfl⟩ := H;obtain ⟨Ao10, co10, eo10⟩ := Kd.R_slice HO_5.out;subst eo10;have p521 : 0 ≤ (x6_1 : Int) := uD;have q521 : x6_1 < (t518.length : Int) := uD;obtain ⟨ad521, e521, hx521_0⟩ := Kd.at_int (Kd.R_reads' HO_5.out).2.2 x6_1 p521 q521;cases e521;replace p521 := eq_true p521;replace q521 := eq_true q521;have p522 : 0 ≤ ((ji7) : Int) := uD;have q522 : (ji7) < (t518.length : Int) := uD;obtain ⟨ad522, e522, hx522_0⟩ := Kd.at_int (Kd.R_reads' HO_5.out).2.2 (ji7) p522 q522;obtain rfl : ad521 = ad522 := (by injection e522);replace p522 := eq_true p522;replace q522 := eq_true q522;go_wp2;go_ret3;exact ⟨by first | rfl | (simp [errW_none, errW_some] <;> rfl) | (simp only [← hji7]; first | rfl | (simp [errW_none, errW_some] <;> rfl)) | (simp [*, errW_none, errW_some] <;> rfl), uB HB.out⟩
      rw [if_neg c6] at H;have c6b0 := beq_eq_false_iff_ne.mpr c6;have c6b1 := bne_iff_ne.mpr c6;obtain ⟨ji11, hji11⟩ : ∃ j_ : Int, (wrap64 (x6_1 + 1)) = j_ := ⟨_, rfl⟩
      replace H : (if 0 ≤ (ji11) then (if (ji11) < (t518.length : Int) then (if (rd t518 (ji11)) = a0 then (some (rd t518 x6_1, false, true)) else (ductusref03_Other.l0 k1 a0 t518 (wrap64 (x6_1 + 2)))) else (none)) else (none)) = some (r1, r2, r3) := by first | (rw [hji11] at H; exact H) | (simp only [hji11] at H ⊢; exact H)
      have hji11w : (IntKind.i64.wrap (x6_1 + 1)) = ji11 := (i64_w _).trans hji11;replace H := uI H;obtain ⟨c12b0, H⟩ := H;replace H := uI H;obtain ⟨c13b0, H⟩ := H
      by_cases c14 : (rd t518 (ji11)) = a0
      rotate_left
      · rw [if_neg c14] at H
        have c14b0 := beq_eq_false_iff_ne.mpr c14;have c14b1 := bne_iff_ne.mpr c14;have H' := Aside0.mk H;clear H;obtain ⟨Ao16, co16, eo16⟩ := Kd.R_slice HO_5.out;subst eo16;have p521 : 0 ≤ (x6_1 : Int) := uD;have q521 : x6_1 < (t518.length : Int) := uD;obtain ⟨ad521, e521, hx521_0⟩ := Kd.at_int (Kd.R_reads' HO_5.out).2.2 x6_1 p521 q521;cases e521;replace p521 := eq_true p521;replace q521 := eq_true q521;have p523 : 0 ≤ ((ji11) : Int) := uD;have q523 : (ji11) < (t518.length : Int) := uD;obtain ⟨ad523, e523, hx523_0⟩ := Kd.at_int (Kd.R_reads' HO_5.out).2.2 (ji11) p523 q523;obtain rfl : ad521 = ad523 := (by injection e523);replace p523 := eq_true p523;replace q523 := eq_true q523;go_wp2;go_roundg k1
        case measure => have := HK1.out; omega
        case rel => exact ⟨(wrap64 (x6_1 + 2)), uF, H', ⟨by have := HK1.out; omega⟩, ⟨uR HO_5.out⟩, ⟨uB HB.out⟩⟩
      rw [if_pos c14] at H;have c14b0 := beq_iff_eq.mpr c14;have c14b1 := bne_eq_false_iff_eq.mpr c14;clear c14;simp only [Option.some.injEq, Prod.mk.injEq] at H;obtain ⟨rfl, rfl, rfl⟩ := H;obtain ⟨Ao15, co15, eo15⟩ := Kd.R_slice HO_5.out;subst eo15;have p521 : 0 ≤ (x6_1 : Int) := uD;have q521 : x6_1 < (t518.length : Int) := uD;obtain ⟨ad521, e521, hx521_0⟩ := Kd.at_int (Kd.R_reads' HO_5.out).2.2 x6_1 p521 q521;cases e521;replace p521 := eq_true p521;replace q521 := eq_true q521;have p523 : 0 ≤ ((ji11) : Int) := uD;have q523 : (ji11) < (t518.length : Int) := uD;obtain ⟨ad523, e523, hx523_0⟩ := Kd.at_int (Kd.R_reads' HO_5.out).2.2 (ji11) p523 q523;obtain rfl : ad521 = ad523 := (by injection e523);replace p523 := eq_true p523;replace q523 := eq_true q523;have p524 : 0 ≤ (x6_1 : Int) := uD;have q524 : x6_1 < (t518.length : Int) := uD;obtain ⟨ad524, e524, hx524_0⟩ := Kd.at_int (Kd.R_reads' HO_5.out).2.2 x6_1 p524 q524;obtain rfl : ad521 = ad524 := (by injection e524);replace p524 := eq_true p524;replace q524 := eq_true q524;go_wp2;go_ret3;exact ⟨by first | rfl | (simp [errW_none, errW_some] <;> rfl) | (simp only [← hji11]; first | rfl | (simp [errW_none, errW_some] <;> rfl)) | (simp [*, errW_none, errW_some] <;> rfl), uB HB.out⟩
def ductusref03_As.f (a0 : Int) : Option (Int) := if a0 = 9001 then (some 12296) else (if a0 = 9002 then (some 12297) else (some a0))
theorem ductusref03_As.calls (a0 : Int) (r : Int) (w : World) (h : ductusref03_As.f a0 = some r) :
    Calls Try.prog 92 #[.int .i64 a0] w fun e w' => e = .returned (.int .i64 r) ∧ Drawn0 w w' := by
  unfold ductusref03_As.f at h;have H := h;clear h
  by_cases c2 : a0 = 9001
  · rw [if_pos c2] at H
    have c2b0 := beq_iff_eq.mpr c2;have c2b1 := bne_eq_false_iff_eq.mpr c2;clear c2;obtain rfl := Option.some.inj H
    go_enter Try.func92, Try.ntmps92
    go_wp2;go_ret;exact ⟨uF, uW⟩
  rw [if_neg c2] at H;have c2b0 := beq_eq_false_iff_ne.mpr c2;have c2b1 := bne_iff_ne.mpr c2
  by_cases c3 : a0 = 9002
  rotate_left
  · rw [if_neg c3] at H
    have c3b0 := beq_eq_false_iff_ne.mpr c3;have c3b1 := bne_iff_ne.mpr c3;obtain rfl := Option.some.inj H
    go_enter Try.func92, Try.ntmps92
    go_wp2;go_ret;exact ⟨uF, uW⟩
  rw [if_pos c3] at H;have c3b0 := beq_iff_eq.mpr c3;have c3b1 := bne_eq_false_iff_eq.mpr c3;clear c3;obtain rfl := Option.some.inj H
  go_enter Try.func92, Try.ntmps92
  go_wp2;go_ret;exact ⟨uF, uW⟩
def ductusref03_Same.f (k : Nat) (a0 : Int) (a1 : Int) : Option (Bool) := (ductusref03_Other.f k a0).bind fun bt525 => ((ductusref03_Other.f k a1).bind fun bt528 => (if bt525.2.2 = true then (if bt528.2.2 = true then ((ductusref03_As.f a0).bind fun t531 => ((ductusref03_As.f a1).bind fun t532 => (some (t531 == t532)))) else (some false)) else (some false)))
theorem ductusref03_Same.calls (k : Nat) (a0 : Int) (a1 : Int) (r : Bool) (w : World) (h : ductusref03_Same.f k a0 a1 = some r) :
    Calls Try.prog 81 #[.int .i64 a0, .int .i64 a1] w fun e w' => e = .returned (.bool r) ∧ Below w.heap.size w w' := by
  have HB := Aside0.mk (Below.refl w.heap.size w);unfold ductusref03_Same.f at h;have H := h;clear h;replace H := Option.bind_eq_some_iff.mp H;obtain ⟨⟨t525, t526, t527⟩, A30, H⟩ := H;have A3 := Aside0.mk A30;clear A30;replace H := Option.bind_eq_some_iff.mp H;obtain ⟨⟨t528, t529, t530⟩, A40, H⟩ := H;have A4 := Aside0.mk A40;clear A40
  by_cases c5 : t527 = true
  rotate_left
  · replace c5 := Bool.eq_false_iff.mpr c5
    subst c5
    have H1 : (some false) = some r := by rw [if_neg (show ¬ (false = true) by decide)] at H; exact H
    clear H;have H := H1;clear H1;obtain rfl := Option.some.inj H
    go_enter Try.func81, Try.ntmps81
    go_wp2_with (first | ((with_reducible refine gate_callee (f := 80) rfl ?_); refine gL 13 Try.func80 #[.int .i64 a0] ?_; (with_reducible refine (ductusref03_Other.calls k a0 t525 t526 false _ A3.out).mono ?_); rintro e w13 ⟨rfl, hb⟩; refine ⟨_, rfl, ?_⟩; have n0_ := Aside0.mk (below_step (uB HB.out) hb); clear HB; have HB := n0_; clear n0_; (try clear hb); (try clear hb2); (try clear hk); (try clear hi)) | ((with_reducible refine gate_callee (f := 80) rfl ?_); refine gL 19 Try.func80 #[.int .i64 a1] ?_; (with_reducible refine (ductusref03_Other.calls k a1 t528 t529 t530 _ A4.out).mono ?_); rintro e w14 ⟨rfl, hb⟩; refine ⟨_, rfl, ?_⟩; have n0_ := Aside0.mk (below_step (uB HB.out) hb); clear HB; have HB := n0_; clear n0_; (try clear hb); (try clear hb2); (try clear hk); (try clear hi)))
    go_ret;exact ⟨uE, uB HB.out⟩
  subst c5
  have H1 : (if t530 = true then ((ductusref03_As.f a0).bind fun t531 => ((ductusref03_As.f a1).bind fun t532 => (some (t531 == t532)))) else (some false)) = some r := by rw [if_pos rfl] at H; exact H
  clear H;have H := H1;clear H1
  by_cases c6 : t530 = true
  rotate_left
  · replace c6 := Bool.eq_false_iff.mpr c6
    subst c6
    have H1 : (some false) = some r := by rw [if_neg (show ¬ (false = true) by decide)] at H; exact H
    clear H;have H := H1;clear H1;obtain rfl := Option.some.inj H
    go_enter Try.func81, Try.ntmps81
    go_wp2_with (first | ((with_reducible refine gate_callee (f := 80) rfl ?_); refine gL 13 Try.func80 #[.int .i64 a0] ?_; (with_reducible refine (ductusref03_Other.calls k a0 t525 t526 true _ A3.out).mono ?_); rintro e w11 ⟨rfl, hb⟩; refine ⟨_, rfl, ?_⟩; have n0_ := Aside0.mk (below_step (uB HB.out) hb); clear HB; have HB := n0_; clear n0_; (try clear hb); (try clear hb2); (try clear hk); (try clear hi)) | ((with_reducible refine gate_callee (f := 80) rfl ?_); refine gL 19 Try.func80 #[.int .i64 a1] ?_; (with_reducible refine (ductusref03_Other.calls k a1 t528 t529 false _ A4.out).mono ?_); rintro e w12 ⟨rfl, hb⟩; refine ⟨_, rfl, ?_⟩; have n0_ := Aside0.mk (below_step (uB HB.out) hb); clear HB; have HB := n0_; clear n0_; (try clear hb); (try clear hb2); (try clear hk); (try clear hi)))
    go_ret;exact ⟨uE, uB HB.out⟩
  subst c6
  have H1 : ((ductusref03_As.f a0).bind fun t531 => ((ductusref03_As.f a1).bind fun t532 => (some (t531 == t532)))) = some r := by rw [if_pos rfl] at H; exact H
  clear H;have H := H1;clear H1;replace H := Option.bind_eq_some_iff.mp H;obtain ⟨t531, A70, H⟩ := H;have A7 := Aside0.mk A70;clear A70;replace H := Option.bind_eq_some_iff.mp H;obtain ⟨t532, A80, H⟩ := H;have A8 := Aside0.mk A80;clear A80;obtain rfl := Option.some.inj H
  go_enter Try.func81, Try.ntmps81
  go_wp2_with (first | ((with_reducible refine gate_callee (f := 80) rfl ?_); refine gL 13 Try.func80 #[.int .i64 a0] ?_; (with_reducible refine (ductusref03_Other.calls k a0 t525 t526 true _ A3.out).mono ?_); rintro e w9 ⟨rfl, hb⟩; refine ⟨_, rfl, ?_⟩; have n0_ := Aside0.mk (below_step (uB HB.out) hb); clear HB; have HB := n0_; clear n0_; (try clear hb); (try clear hb2); (try clear hk); (try clear hi)) | ((with_reducible refine gate_callee (f := 80) rfl ?_); refine gL 19 Try.func80 #[.int .i64 a1] ?_; (with_reducible refine (ductusref03_Other.calls k a1 t528 t529 true _ A4.out).mono ?_); rintro e w10 ⟨rfl, hb⟩; refine ⟨_, rfl, ?_⟩; have n0_ := Aside0.mk (below_step (uB HB.out) hb); clear HB; have HB := n0_; clear n0_; (try clear hb); (try clear hb2); (try clear hk); (try clear hi)) | (go_at_call 92; (with_reducible refine (ductusref03_As.calls a0 t531 _ A7.out).mono ?_); rintro e w' ⟨rfl, ⟨nd, rfl⟩⟩) | (go_at_call 92; (with_reducible refine (ductusref03_As.calls a1 t532 _ A8.out).mono ?_); rintro e w' ⟨rfl, ⟨nd, rfl⟩⟩))
  go_ret;exact ⟨uE, uB HB.out⟩
end Go.Proofs.Ytmjipbmpapcboaa.P
