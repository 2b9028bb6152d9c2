/- Texts of this claim put together by a program of its own (Px14, SAlive18, SSize, Px15), what the law does not use left out: each part's statements bear their own conditions. -/
import Derived.Test.YtaphbechnjmlgaaC12
import Derived.Test.YtaphbechnjmlgaaC16
import Derived.Test.YtaphbechnjmlgaaC14
namespace Go.Proofs.Ytaphbechnjmlgaa.P
open Go.RowKit Go.Proofs.YtaphbechnjmlgaaW.PrintWords Go.Proofs.YtaphbechnjmlgaaW.PrintLast Go.Proofs.YtaphbechnjmlgaaW.PrintMore
attribute [local go_sem] max2_int min2_int max_two min_two
set_option linter.unusedVariables false
set_option linter.unusedSimpArgs false

-- BY HAND: function 14 (deriv_Ends)

def ductusref01_Ints.l0 : Nat → List Int → List Int → Int → Option (Bool)
  | 0, _, _, _ => none
  | k + 1, x0, x1, x5 => if x5 < (x0.length : Int) then (if 0 ≤ x5 then (if x5 < (x1.length : Int) then (if (rd x0 x5) = (rd x1 x5) then (ductusref01_Ints.l0 k x0 x1 (wrap64 (x5 + 1))) else (some false)) else (none)) else (none)) else (some true)
def ductusref01_Ints.f (k : Nat) (l0 : List Int) (l1 : List Int) : Option (Bool) := if (l0.length : Int) = (l1.length : Int) then (ductusref01_Ints.l0 k l0 l1 0) else (some false)
set_option maxHeartbeats 8000000 in
set_option maxRecDepth 100000 in
theorem ductusref01_Ints.calls (k : Nat) (A0 : Option Addr) (c0 : Nat) (l0 : List Int) (A1 : Option Addr) (c1 : Nat) (l1 : List Int) (r : Bool) (w : World) (hr0 : Kd.C (Kd.int .i64) w A0 l0.length l0) (hc0 : l0.length ≤ c0) (hr1 : Kd.C (Kd.int .i64) w A1 l1.length l1) (hc1 : l1.length ≤ c1) (h : ductusref01_Ints.f k l0 l1 = some r) :
    Calls Try.prog 15 #[.slice A0 l0.length c0, .slice A1 l1.length c1] w fun e w' => e = .returned (.bool r) ∧ Drawn0 w w' := by
  have HR0 := Aside0.mk hr0
  have HC0 := Aside0.mk hc0
  clear hr0 hc0
  have HR1 := Aside0.mk hr1
  have HC1 := Aside0.mk hc1
  clear hr1 hc1
  have H : (if (l0.length : Int) = (l1.length : Int) then (ductusref01_Ints.l0 k l0 l1 0) else (some false)) = some r := h
  clear h
  by_cases c3 : (l0.length : Int) = (l1.length : Int)
  rotate_left
  · rw [if_neg c3] at H
    have c3b0 : ((l0.length : Int) == (l1.length : Int)) = false := beq_eq_false_iff_ne.mpr c3
    have c3b1 : ((l0.length : Int) != (l1.length : Int)) = true := bne_iff_ne.mpr c3
    have c3b2 : (l0.length == l1.length) = false := by first | simpa using c3 | (simp at c3 ⊢; omega)
    obtain rfl := Option.some.inj H
    go_enter Try.func15, Try.ntmps15
    go_wp2
    repeat (go_quiet (fail); try go_wp2)
    go_ret
    exact ⟨by first | rfl | (simp; done) | (simp [*]; done), by repeat (first | exact Drawn0.refl _ | apply Drawn0.step)⟩
  rw [if_pos c3] at H
  have c3b0 : ((l0.length : Int) == (l1.length : Int)) = true := beq_iff_eq.mpr c3
  have c3b1 : ((l0.length : Int) != (l1.length : Int)) = false := bne_eq_false_iff_eq.mpr c3
  have c3b2 : (l0.length == l1.length) = true := by first | simpa using c3 | (simp at c3 ⊢; omega)
  clear c3
  have H' := Aside0.mk H
  clear H
  go_enter Try.func15, Try.ntmps15
  go_wp2
  repeat (go_quiet (fail); try go_wp2)
  go_loopg [5] k (fun kq v5 w' => ∃ (x5_1 : Int), v5 = .int .i64 x5_1 ∧ Aside0 (ductusref01_Ints.l0 kq l0 l1 x5_1 = some r) ∧ Aside0 (kq ≤ k) ∧ Drawn0 w w')
  case atStart => exact ⟨(0), (by first | rfl | (simp; done) | (simp [*]; done)), H', ⟨Nat.le_refl _⟩, by repeat (first | exact Drawn0.refl _ | apply Drawn0.step)⟩
  case round =>
    clear H'
    try clear c1
    try clear p2
    try clear c3
    try clear c3b0
    try clear c3b1
    try clear c3b2
    obtain ⟨x5_1, rfl, HA, HK1, ⟨m1, rfl⟩⟩ := hrel
    cases gk with
    | zero => exact absurd HA.out (by simp [ductusref01_Ints.l0])
    | succ k1 =>
      have H := HA.out
      clear HA
      simp only [ductusref01_Ints.l0] at H
      by_cases c4 : x5_1 < (l0.length : Int)
      rotate_left
      · rw [if_neg c4] at H
        have c4b0 : decide (x5_1 < (l0.length : Int)) = false := decide_eq_false c4
        clear c4
        obtain rfl := Option.some.inj H
        go_wp2
        repeat (go_quiet (fail); try go_wp2)
        go_ret
        exact ⟨by first | rfl | (simp; done) | (simp [*]; done), by repeat (first | exact Drawn0.refl _ | apply Drawn0.step)⟩
      rw [if_pos c4] at H
      have c4b0 : decide (x5_1 < (l0.length : Int)) = true := decide_eq_true c4
      clear c4
      by_cases c5 : 0 ≤ x5_1
      rotate_left
      · rw [if_neg c5] at H
        exact absurd H (by simp)
      rw [if_pos c5] at H
      have c5b0 : decide (0 ≤ x5_1) = true := decide_eq_true c5
      clear c5
      by_cases c6 : x5_1 < (l1.length : Int)
      rotate_left
      · rw [if_neg c6] at H
        exact absurd H (by simp)
      rw [if_pos c6] at H
      have c6b0 : decide (x5_1 < (l1.length : Int)) = true := decide_eq_true c6
      clear c6
      by_cases c7 : (rd l0 x5_1) = (rd l1 x5_1)
      rotate_left
      · rw [if_neg c7] at H
        have c7b0 : ((rd l0 x5_1) == (rd l1 x5_1)) = false := beq_eq_false_iff_ne.mpr c7
        have c7b1 : ((rd l0 x5_1) != (rd l1 x5_1)) = true := bne_iff_ne.mpr c7
        obtain rfl := Option.some.inj H
        have p182 : 0 ≤ (x5_1 : Int) := of_decide_eq_true (by first | (with_reducible assumption) | assumption)
        have q182 : x5_1 < (l0.length : Int) := of_decide_eq_true (by first | (with_reducible assumption) | assumption)
        obtain ⟨ad182, e182, hx182_0⟩ := Kd.at_int HR0.out x5_1 p182 q182
        cases e182
        replace p182 := eq_true p182
        replace q182 := eq_true q182
        have p183 : 0 ≤ (x5_1 : Int) := of_decide_eq_true (by first | (with_reducible assumption) | assumption)
        have q183 : x5_1 < (l1.length : Int) := of_decide_eq_true (by first | (with_reducible assumption) | assumption)
        obtain ⟨ad183, e183, hx183_0⟩ := Kd.at_int HR1.out x5_1 p183 q183
        cases e183
        replace p183 := eq_true p183
        replace q183 := eq_true q183
        go_wp2
        repeat (go_quiet (fail); try go_wp2)
        go_ret
        exact ⟨by first | rfl | (simp; done) | (simp [*]; done), by repeat (first | exact Drawn0.refl _ | apply Drawn0.step)⟩
      rw [if_pos c7] at H
      have c7b0 : ((rd l0 x5_1) == (rd l1 x5_1)) = true := beq_iff_eq.mpr c7
      have c7b1 : ((rd l0 x5_1) != (rd l1 x5_1)) = false := bne_eq_false_iff_eq.mpr c7
      clear c7
      have H' := Aside0.mk H
      clear H
      have p182 : 0 ≤ (x5_1 : Int) := of_decide_eq_true (by first | (with_reducible assumption) | assumption)
      have q182 : x5_1 < (l0.length : Int) := of_decide_eq_true (by first | (with_reducible assumption) | assumption)
      obtain ⟨ad182, e182, hx182_0⟩ := Kd.at_int HR0.out x5_1 p182 q182
      cases e182
      replace p182 := eq_true p182
      replace q182 := eq_true q182
      have p183 : 0 ≤ (x5_1 : Int) := of_decide_eq_true (by first | (with_reducible assumption) | assumption)
      have q183 : x5_1 < (l1.length : Int) := of_decide_eq_true (by first | (with_reducible assumption) | assumption)
      obtain ⟨ad183, e183, hx183_0⟩ := Kd.at_int HR1.out x5_1 p183 q183
      cases e183
      replace p183 := eq_true p183
      replace q183 := eq_true q183
      go_wp2
      repeat (go_quiet (fail); try go_wp2)
      go_roundg k1
      case measure => have := HK1.out; omega
      case rel => exact ⟨(wrap64 (x5_1 + 1)), (by first | rfl | (simp; done) | (simp [*]; done)), H', ⟨by have := HK1.out; omega⟩, by repeat (first | exact Drawn0.refl _ | apply Drawn0.step)⟩

def slices_Index_int.l0 : Nat → List Int → Int → Int → Int → Option (Int)
  | 0, _, _, _, _ => none
  | k + 1, x0, x1, x7, x8 => if x8 < x7 then (if 0 ≤ x8 then (if x8 < (x0.length : Int) then (if x1 = (rd x0 x8) then (some x8) else (slices_Index_int.l0 k x0 x1 x7 (wrap64 (x8 + 1)))) else (none)) else (none)) else (some (-1))
def slices_Index_int.f (k : Nat) (l0 : List Int) (a1 : Int) : Option (Int) := slices_Index_int.l0 k l0 a1 (l0.length : Int) 0
set_option maxHeartbeats 8000000 in
set_option maxRecDepth 100000 in
theorem slices_Index_int.calls (k : Nat) (A0 : Option Addr) (c0 : Nat) (l0 : List Int) (a1 : Int) (r : Int) (w : World) (hr0 : Kd.C (Kd.int .i64) w A0 l0.length l0) (hc0 : l0.length ≤ c0) (h : slices_Index_int.f k l0 a1 = some r) :
    Calls Try.prog 42 #[.slice A0 l0.length c0, .int .i64 a1] w fun e w' => e = .returned (.int .i64 r) ∧ Drawn0 w w' := by
  have HR0 := Aside0.mk hr0
  have HC0 := Aside0.mk hc0
  clear hr0 hc0
  have H : (slices_Index_int.l0 k l0 a1 (l0.length : Int) 0) = some r := h
  clear h
  have H' := Aside0.mk H
  clear H
  go_enter Try.func42, Try.ntmps42
  go_wp2
  go_loopg [8] k (fun kq v8 w' => ∃ (x8_1 : Int), v8 = .int .i64 x8_1 ∧ Aside0 (slices_Index_int.l0 kq l0 a1 (l0.length : Int) x8_1 = some r) ∧ Aside0 (kq ≤ k) ∧ Drawn0 w w')
  case atStart => exact ⟨(0), (by first | rfl | (simp; done) | (simp [*]; done)), H', ⟨Nat.le_refl _⟩, by repeat (first | exact Drawn0.refl _ | apply Drawn0.step)⟩
  case round =>
    clear H'
    try clear p2
    obtain ⟨x8_1, rfl, HA, HK1, ⟨m1, rfl⟩⟩ := hrel
    cases gk with
    | zero => exact absurd HA.out (by simp [slices_Index_int.l0])
    | succ k1 =>
      have H := HA.out
      clear HA
      simp only [slices_Index_int.l0] at H
      by_cases c3 : x8_1 < (l0.length : Int)
      rotate_left
      · rw [if_neg c3] at H
        have c3b0 : decide (x8_1 < (l0.length : Int)) = false := decide_eq_false c3
        clear c3
        obtain rfl := Option.some.inj H
        go_wp2
        go_ret
        exact ⟨by first | rfl | (simp; done) | (simp [*]; done), by repeat (first | exact Drawn0.refl _ | apply Drawn0.step)⟩
      rw [if_pos c3] at H
      have c3b0 : decide (x8_1 < (l0.length : Int)) = true := decide_eq_true c3
      clear c3
      by_cases c4 : 0 ≤ x8_1
      rotate_left
      · rw [if_neg c4] at H
        exact absurd H (by simp)
      rw [if_pos c4] at H
      have c4b0 : decide (0 ≤ x8_1) = true := decide_eq_true c4
      clear c4
      by_cases c5 : x8_1 < (l0.length : Int)
      rotate_left
      · rw [if_neg c5] at H
        exact absurd H (by simp)
      rw [if_pos c5] at H
      have c5b0 : decide (x8_1 < (l0.length : Int)) = true := decide_eq_true c5
      clear c5
      by_cases c6 : a1 = (rd l0 x8_1)
      · rw [if_pos c6] at H
        have c6b0 : (a1 == (rd l0 x8_1)) = true := beq_iff_eq.mpr c6
        have c6b1 : (a1 != (rd l0 x8_1)) = false := bne_eq_false_iff_eq.mpr c6
        clear c6
        obtain rfl := Option.some.inj H
        have p184 : 0 ≤ (x8_1 : Int) := of_decide_eq_true (by first | (with_reducible assumption) | assumption)
        have q184 : x8_1 < (l0.length : Int) := of_decide_eq_true (by first | (with_reducible assumption) | assumption)
        obtain ⟨ad184, e184, hx184_0⟩ := Kd.at_int HR0.out x8_1 p184 q184
        cases e184
        replace p184 := eq_true p184
        replace q184 := eq_true q184
        go_wp2
        go_ret
        exact ⟨by first | rfl | (simp; done) | (simp [*]; done), by repeat (first | exact Drawn0.refl _ | apply Drawn0.step)⟩
      rw [if_neg c6] at H
      have c6b0 : (a1 == (rd l0 x8_1)) = false := beq_eq_false_iff_ne.mpr c6
      have c6b1 : (a1 != (rd l0 x8_1)) = true := bne_iff_ne.mpr c6
      have H' := Aside0.mk H
      clear H
      have p184 : 0 ≤ (x8_1 : Int) := of_decide_eq_true (by first | (with_reducible assumption) | assumption)
      have q184 : x8_1 < (l0.length : Int) := of_decide_eq_true (by first | (with_reducible assumption) | assumption)
      obtain ⟨ad184, e184, hx184_0⟩ := Kd.at_int HR0.out x8_1 p184 q184
      cases e184
      replace p184 := eq_true p184
      replace q184 := eq_true q184
      go_wp2
      go_roundg k1
      case measure => have := HK1.out; omega
      case rel => exact ⟨(wrap64 (x8_1 + 1)), (by first | rfl | (simp; done) | (simp [*]; done)), H', ⟨by have := HK1.out; omega⟩, by repeat (first | exact Drawn0.refl _ | apply Drawn0.step)⟩

def slices_Contains_int.f (k : Nat) (l0 : List Int) (a1 : Int) : Option (Bool) := (slices_Index_int.f k l0 a1).bind fun t185 => (some (decide (t185 ≥ 0)))
set_option maxHeartbeats 8000000 in
set_option maxRecDepth 100000 in
theorem slices_Contains_int.calls (k : Nat) (A0 : Option Addr) (c0 : Nat) (l0 : List Int) (a1 : Int) (r : Bool) (w : World) (hr0 : Kd.C (Kd.int .i64) w A0 l0.length l0) (hc0 : l0.length ≤ c0) (h : slices_Contains_int.f k l0 a1 = some r) :
    Calls Try.prog 29 #[.slice A0 l0.length c0, .int .i64 a1] w fun e w' => e = .returned (.bool r) ∧ Drawn0 w w' := by
  have HR0 := Aside0.mk hr0
  have HC0 := Aside0.mk hc0
  clear hr0 hc0
  have H : ((slices_Index_int.f k l0 a1).bind fun t185 => (some (decide (t185 ≥ 0)))) = some r := h
  clear h
  replace H := Option.bind_eq_some_iff.mp H
  obtain ⟨t185, A30, H⟩ := H
  replace H : (some (decide (t185 ≥ 0))) = some r := H
  have A3 := Aside0.mk A30
  clear A30
  obtain rfl := Option.some.inj H
  go_enter Try.func29, Try.ntmps29
  go_wp2_with (first | ((with_reducible refine gate_callee (f := 42) rfl ?_); refine goesL_ (some 7) rfl rfl Try.func42 (by kernel_rfl) rfl #[.slice A0 l0.length c0, .int .i64 a1] rfl (by (try simp only [List.map_toArray, List.map_cons, List.map_nil]); first | done | rfl | (simp only [List.length_drop, List.length_take]; rfl)) ?_; (with_reducible refine (slices_Index_int.calls k _ _ l0 a1 t185 _ ?side1 ?side2 A3.out).mono ?_); (case side1 => repeat (first | exact HR0.out | (with_reducible refine Kd.C_alloc ?_ _) | (with_reducible refine Kd.C_drewN ?_ _) | (with_reducible refine Kd.C_drew ?_))); (case side2 => exact HC0.out); rintro e w' ⟨rfl, ⟨nd, rfl⟩⟩; refine ⟨_, rfl, ?_⟩))
  go_ret
  exact ⟨by first | rfl | (simp; done) | (simp [*]; done), by repeat (first | exact Drawn0.refl _ | apply Drawn0.step)⟩

def deriv_Whole.f (k : Nat) (a0_0 : Int) (l0_1 : List (S52)) (a0_2 : Int) (a0_3 : Int) (l0_4 : List (S25)) (l1 : List Int) (a2 : Int) (a3 : Int) : Option (Bool) := (deriv_Ends.f k a0_0 l0_1 a0_2 a0_3 l0_4 l1 a2).bind fun t187 => ((slices_Contains_int.f k t187 a3).bind fun t190 => (some t190))
set_option maxHeartbeats 8000000 in
set_option maxRecDepth 100000 in
theorem deriv_Whole.calls (k : Nat) (a0_0 : Int) (A0_1 : Option Addr) (c0_1 : Nat) (l0_1 : List (S52)) (a0_2 : Int) (a0_3 : Int) (A0_4 : Option Addr) (c0_4 : Nat) (l0_4 : List (S25)) (A1 : Option Addr) (c1 : Nat) (l1 : List Int) (a2 : Int) (a3 : Int) (r : Bool) (w : World) (hr0_1 : Kd.C k52 w A0_1 l0_1.length l0_1) (hc0_1 : l0_1.length ≤ c0_1) (hr0_4 : Kd.C k25 w A0_4 l0_4.length l0_4) (hc0_4 : l0_4.length ≤ c0_4) (hr1 : Kd.C (Kd.int .i64) w A1 l1.length l1) (hc1 : l1.length ≤ c1) (h : deriv_Whole.f k a0_0 l0_1 a0_2 a0_3 l0_4 l1 a2 a3 = some r) :
    Calls Try.prog 16 #[.agg #[.int .i64 a0_0, .slice A0_1 l0_1.length c0_1, .int .i64 a0_2, .int .i64 a0_3, .slice A0_4 l0_4.length c0_4], .slice A1 l1.length c1, .int .i64 a2, .int .i64 a3] w fun e w' => e = .returned (.bool r) ∧ Below w.heap.size w w' := by
  have hu25 := Try.underlying25
  have HR0_1 := Aside0.mk hr0_1
  have HC0_1 := Aside0.mk hc0_1
  clear hr0_1 hc0_1
  have HR0_4 := Aside0.mk hr0_4
  have HC0_4 := Aside0.mk hc0_4
  clear hr0_4 hc0_4
  have HR1 := Aside0.mk hr1
  have HC1 := Aside0.mk hc1
  clear hr1 hc1
  have HB := Aside0.mk (Below.refl w.heap.size w)
  have H : ((deriv_Ends.f k a0_0 l0_1 a0_2 a0_3 l0_4 l1 a2).bind fun t187 => ((slices_Contains_int.f k t187 a3).bind fun t190 => (some t190))) = some r := h
  clear h
  replace H := Option.bind_eq_some_iff.mp H
  obtain ⟨t187, A50, H⟩ := H
  replace H : ((slices_Contains_int.f k t187 a3).bind fun t190 => (some t190)) = some r := H
  have A5 := Aside0.mk A50
  clear A50
  replace H := Option.bind_eq_some_iff.mp H
  obtain ⟨t190, A60, H⟩ := H
  replace H : (some t190) = some r := H
  have A6 := Aside0.mk A60
  clear A60
  obtain rfl := Option.some.inj H
  go_enter Try.func16, Try.ntmps16
  go_wp2_with (first | ((with_reducible refine gate_dst (N := 4) rfl ?_); refine box_event ?hg (N := 4) ?hd (cs := #[.int .i64 a0_0, .slice A0_1 l0_1.length c0_1, .int .i64 a0_2, .int .i64 a0_3, .slice A0_4 l0_4.length c0_4]) (t := 25) ?hr ?_; (case hd => rfl); (case hg => rfl); (case hr => first | (go_simp; done) | (go_simp; rfl)); intro gb186 hg w7 hbox hb; have n0_ := Aside0.mk (below_step (by repeat (first | (with_reducible first | exact HB.out | apply below_alloc | apply pw_below_drewN | apply below_drew1) | exact HB.out)) hb); have n1_ := Aside0.mk (hbox); have n2_ := Aside0.mk ((by rw [hg]; exact (below_size (by repeat (first | (with_reducible first | exact HB.out | apply below_alloc | apply pw_below_drewN | apply below_drew1) | exact HB.out))) : w.heap.size ≤ gb186)); have n3_ := Aside0.mk ((by rw [hg]; exact (below_size (by repeat (first | (with_reducible first | exact HB.out | apply below_alloc | apply pw_below_drewN | apply below_drew1) | exact HB.out))) : w.heap.size ≤ gb186)); clear HB; have HB := n0_; have BK186 := n1_; have GW186 := n2_; have GE186 := n3_; clear n0_ n1_ n2_ n3_; clear hb hbox hg; have hcz8_0 : w7.cell? ⟨gb186, 0, none⟩ = some (.int .i64 a0_0) := (blk_cell BK186.out 0).trans rfl; have hcz8_1 : w7.cell? ⟨gb186, 1, none⟩ = some (.slice A0_1 l0_1.length c0_1) := (blk_cell BK186.out 1).trans rfl; have hcz8_2 : w7.cell? ⟨gb186, 2, none⟩ = some (.int .i64 a0_2) := (blk_cell BK186.out 2).trans rfl; have hcz8_3 : w7.cell? ⟨gb186, 3, none⟩ = some (.int .i64 a0_3) := (blk_cell BK186.out 3).trans rfl; have hcz8_4 : w7.cell? ⟨gb186, 4, none⟩ = some (.slice A0_4 l0_4.length c0_4) := (blk_cell BK186.out 4).trans rfl; have hfz8_0 := blk_frozen BK186.out 0; have hfz8_1 := blk_frozen BK186.out 1; have hfz8_2 := blk_frozen BK186.out 2; have hfz8_3 := blk_frozen BK186.out 3; have hfz8_4 := blk_frozen BK186.out 4) | ((with_reducible refine gate_callee (f := 14) rfl ?_); refine goesL_ (some 12) rfl rfl Try.func14 (by kernel_rfl) rfl #[.agg #[.int .i64 a0_0, .slice A0_1 l0_1.length c0_1, .int .i64 a0_2, .int .i64 a0_3, .slice A0_4 l0_4.length c0_4], .slice A1 l1.length c1, .int .i64 a2] rfl (by (try simp only [List.map_toArray, List.map_cons, List.map_nil]); first | done | rfl | (simp only [List.length_drop, List.length_take]; rfl)) ?_; (with_reducible refine (deriv_Ends.calls k a0_0 _ _ l0_1 a0_2 a0_3 _ _ l0_4 _ _ l1 a2 t187 _ ?side1 ?side2 ?side3 ?side4 ?side5 ?side6 A5.out).mono ?_); (case side1 => repeat (first | exact (Kd.C_below HR0_1.out HB.out) | (with_reducible refine Kd.C_alloc ?_ _) | (with_reducible refine Kd.C_drewN ?_ _) | (with_reducible refine Kd.C_drew ?_))); (case side2 => exact HC0_1.out); (case side3 => repeat (first | exact (Kd.C_below HR0_4.out HB.out) | (with_reducible refine Kd.C_alloc ?_ _) | (with_reducible refine Kd.C_drewN ?_ _) | (with_reducible refine Kd.C_drew ?_))); (case side4 => exact HC0_4.out); (case side5 => repeat (first | exact (Kd.C_below HR1.out HB.out) | (with_reducible refine Kd.C_alloc ?_ _) | (with_reducible refine Kd.C_drewN ?_ _) | (with_reducible refine Kd.C_drew ?_))); (case side6 => exact HC1.out); rintro e w9 ⟨v188, rfl, ho0, hb⟩; refine ⟨_, rfl, ?_⟩; have n0_ := Aside0.mk (Kd.R_lower ho0 (below_size (by repeat (first | (with_reducible first | exact HB.out | apply below_alloc | apply pw_below_drewN | apply below_drew1 | refine below_set ?_ GE186.out) | exact HB.out)))); have n1_ := Aside0.mk (blk_below (g := gb186) (o := .cells #[.int .i64 a0_0, .slice A0_1 l0_1.length c0_1, .int .i64 a0_2, .int .i64 a0_3, .slice A0_4 l0_4.length c0_4] 25 (0, 0)) (by (with_reducible repeat (first | refine blk_drewN ?_ _ | refine blk_drew ?_ | refine blk_alloc ?_ _)); exact BK186.out) hb); have n2_ := Aside0.mk (below_step (by repeat (first | (with_reducible first | exact HB.out | apply below_alloc | apply pw_below_drewN | apply below_drew1 | refine below_set ?_ GE186.out) | exact HB.out)) hb); clear BK186; clear HB; have HO189 := n0_; have BK186 := n1_; have HB := n2_; clear n0_ n1_ n2_; (try clear hb); (try clear hb2); (try clear hk); (try clear hi); (try clear ho0); obtain ⟨Ao10, co10, eo10⟩ := Kd.R_slice HO189.out; subst eo10) | ((with_reducible refine gate_callee (f := 29) rfl ?_); refine goesL_ (some 14) rfl rfl Try.func29 (by kernel_rfl) rfl #[.slice Ao10 t187.length co10, .int .i64 a3] rfl (by (try simp only [List.map_toArray, List.map_cons, List.map_nil]); first | done | rfl | (simp only [List.length_drop, List.length_take]; rfl)) ?_; (with_reducible refine (slices_Contains_int.calls k _ _ t187 a3 t190 _ ?side1 ?side2 A6.out).mono ?_); (case side1 => repeat (first | exact (Kd.R_reads' HO189.out).2.2 | (with_reducible refine Kd.C_alloc ?_ _) | (with_reducible refine Kd.C_drewN ?_ _) | (with_reducible refine Kd.C_drew ?_))); (case side2 => exact (Kd.R_reads' HO189.out).2.1); rintro e w' ⟨rfl, ⟨nd, rfl⟩⟩; refine ⟨_, rfl, ?_⟩))
  go_ret
  exact ⟨by first | rfl | (simp [errW_none, errW_some] <;> rfl) | (simp [*, errW_none, errW_some] <;> rfl), by repeat (first | (with_reducible first | exact HB.out | apply below_alloc | apply pw_below_drewN | apply below_drew1 | refine below_set ?_ GE186.out) | exact HB.out)⟩

def ductuslaw18_set.f (a0 : Int) : Option (Int × (List (S52)) × Int × Int × (List (S25))) := some (2, (([(⟨a0, a0⟩ : S52)] : List (S52))), 0, 0, ([] : List (S25)))
set_option maxHeartbeats 8000000 in
set_option maxRecDepth 100000 in
theorem ductuslaw18_set.calls (a0 : Int) (r1 : Int) (r2 : List (S52)) (r3 : Int) (r4 : Int) (r5 : List (S25)) (w : World) (h : ductuslaw18_set.f a0 = some (r1, r2, r3, r4, r5)) :
    Calls Try.prog 18 #[.int .i64 a0] w fun e w' => ∃ v1_ v4_ : Value, e = .returned (.agg #[.int .i64 r1, v1_, .int .i64 r3, .int .i64 r4, v4_]) ∧ Kd.R k52 52 w' w.heap.size (fun _ => True) v1_ r2 ∧ Kd.R k25 25 w' w.heap.size (fun k_ => some k_ ≠ (v1_ : Value).ownBlock) v4_ r5 ∧ Below w.heap.size w w' := by
  have hu25 := Try.underlying25
  have hu52 := Try.underlying52
  have HB := Aside0.mk (Below.refl w.heap.size w)
  have H : (some (2, (([(⟨a0, a0⟩ : S52)] : List (S52))), 0, 0, ([] : List (S25)))) = some (r1, r2, r3, r4, r5) := h
  clear h
  obtain ⟨y192, hy192⟩ : ∃ y_ : List (S52), y_ = (([(⟨a0, a0⟩ : S52)] : List (S52))) := ⟨_, rfl⟩
  replace H : (some (2, y192, 0, 0, ([] : List (S25)))) = some (r1, r2, r3, r4, r5) := by first | (rw [hy192]; with_reducible exact H) | (have H2_ := (Option.bind_some _ _).symm.trans H; rw [hy192]; with_reducible exact H2_) | (have H2_ := (Option.bind_some _ _).symm.trans H; with_reducible exact H2_) | with_reducible exact H | (rw [hy192]; exact H) | exact H
  have Ny192 := Aside0.mk hy192
  clear hy192
  simp only [Option.some.injEq, Prod.mk.injEq] at H
  obtain ⟨rfl, rfl, rfl, rfl, rfl⟩ := H
  go_enter Try.func18, Try.ntmps18
  go_wp2_with (first | ((with_reducible refine gate_dst (N := 2) rfl ?_); refine box_event ?hg (N := 2) ?hd (cs := #[.int .i64 0, .slice none 0 0, .int .i64 0, .int .i64 0, .slice none 0 0]) (t := 25) ?hr ?_; (case hd => rfl); (case hg => rfl); (case hr => first | (go_simp; done) | (go_simp; rfl)); intro gb191 hg w2 hbox hb; have n0_ := Aside0.mk (below_step (by repeat (first | (with_reducible first | exact HB.out | apply below_alloc | apply pw_below_drewN | apply below_drew1) | exact HB.out)) hb); have n1_ := Aside0.mk (hbox); have n2_ := Aside0.mk ((by rw [hg]; exact (below_size (by repeat (first | (with_reducible first | exact HB.out | apply below_alloc | apply pw_below_drewN | apply below_drew1) | exact HB.out))) : w.heap.size ≤ gb191)); have n3_ := Aside0.mk ((by rw [hg]; exact (below_size (by repeat (first | (with_reducible first | exact HB.out | apply below_alloc | apply pw_below_drewN | apply below_drew1) | exact HB.out))) : w.heap.size ≤ gb191)); clear HB; have HB := n0_; have BK191 := n1_; have GW191 := n2_; have GE191 := n3_; clear n0_ n1_ n2_ n3_; clear hb hbox hg) | ((with_reducible refine gate_dst (N := 6) rfl ?_); refine Kd.R_lit k52 _ 52 ?hg (N := 6) ?hd (xs := ([(⟨a0, a0⟩ : S52)] : List (S52))) (inner := [.int .i64 a0, .int .i64 a0]) (ok := fun _ => True) (okp := fun _ => True) ?hr ?hp (fun _ hk => hk) trivial (Below.refl _ _) (Nat.le_refl _) (by simp) ?_; (case hd => rfl); (case hg => rfl); (case hr => first | (go_simp; done) | (go_simp; rfl)); (case hp => exact (Reps.c2 (show Kd.M k52 _ _ _ (⟨a0, a0⟩ : S52) [.int .i64 a0, .int .i64 a0] from (k52_mkM _ _ _ (⟨a0, a0⟩ : S52) )) (Reps.none _ _))); intro v193 w3 ho4 hb hg_ hnew_; clear hg_ hnew_; (first | rw [← Ny192.out] at ho4 | (simp only [Int.reduceToNat] at ho4; rw [← Ny192.out] at ho4)); have n0_ := Aside0.mk (Kd.R_lower ho4 (below_size (by repeat (first | (with_reducible first | exact HB.out | apply below_alloc | apply pw_below_drewN | apply below_drew1 | refine below_set ?_ GE191.out) | exact HB.out)))); have n1_ := Aside0.mk (blk_below (g := gb191) (o := .cells #[.int .i64 0, .slice none 0 0, .int .i64 0, .int .i64 0, .slice none 0 0] 25 (0, 0)) (by (with_reducible repeat (first | refine blk_drewN ?_ _ | refine blk_drew ?_ | refine blk_alloc ?_ _)); exact BK191.out) hb); have n2_ := Aside0.mk (below_step (by repeat (first | (with_reducible first | exact HB.out | apply below_alloc | apply pw_below_drewN | apply below_drew1 | refine below_set ?_ GE191.out) | exact HB.out)) hb); clear BK191; clear HB; have HO194 := n0_; have BK191 := n1_; have HB := n2_; clear n0_ n1_ n2_; clear hb ho4; obtain ⟨Ao5, co5, eo5⟩ := Kd.R_slice HO194.out; subst eo5; have hcz6_0 : w3.cell? ⟨gb191, 0, none⟩ = some (.int .i64 0) := (blk_cell BK191.out 0).trans rfl; have hcz6_1 : w3.cell? ⟨gb191, 1, none⟩ = some (.slice none 0 0) := (blk_cell BK191.out 1).trans rfl; have hcz6_2 : w3.cell? ⟨gb191, 2, none⟩ = some (.int .i64 0) := (blk_cell BK191.out 2).trans rfl; have hcz6_3 : w3.cell? ⟨gb191, 3, none⟩ = some (.int .i64 0) := (blk_cell BK191.out 3).trans rfl; have hcz6_4 : w3.cell? ⟨gb191, 4, none⟩ = some (.slice none 0 0) := (blk_cell BK191.out 4).trans rfl; have hfz6_0 := blk_frozen BK191.out 0; have hfz6_1 := blk_frozen BK191.out 1; have hfz6_2 := blk_frozen BK191.out 2; have hfz6_3 := blk_frozen BK191.out 3; have hfz6_4 := blk_frozen BK191.out 4))
  refine bodyPost_ret (results_cell_row rfl _ _ gb191 25 #[.int .i64 2, .slice Ao5 y192.length co5, .int .i64 0, .int .i64 0, .slice none 0 0] (0, 0) _ rfl (by (with_reducible repeat (first | refine blk_drewN ?_ _ | refine blk_drew ?_ | refine blk_alloc ?_ _)); refine blk_put (cs := #[.int .i64 2, .slice Ao5 y192.length co5, .int .i64 0, .int .i64 0, .slice none 0 0]) ?_ 4 _ rfl; (with_reducible repeat (first | refine blk_drewN ?_ _ | refine blk_drew ?_ | refine blk_alloc ?_ _)); refine blk_put (cs := #[.int .i64 2, .slice Ao5 y192.length co5, .int .i64 0, .int .i64 0, .slice none 0 0]) ?_ 3 _ rfl; (with_reducible repeat (first | refine blk_drewN ?_ _ | refine blk_drew ?_ | refine blk_alloc ?_ _)); refine blk_put (cs := #[.int .i64 2, .slice Ao5 y192.length co5, .int .i64 0, .int .i64 0, .slice none 0 0]) ?_ 2 _ rfl; (with_reducible repeat (first | refine blk_drewN ?_ _ | refine blk_drew ?_ | refine blk_alloc ?_ _)); refine blk_put (cs := #[.int .i64 2, .slice none 0 0, .int .i64 0, .int .i64 0, .slice none 0 0]) ?_ 1 _ rfl; (with_reducible repeat (first | refine blk_drewN ?_ _ | refine blk_drew ?_ | refine blk_alloc ?_ _)); refine blk_put (cs := #[.int .i64 0, .slice none 0 0, .int .i64 0, .int .i64 0, .slice none 0 0]) ?_ 0 _ rfl; (with_reducible repeat (first | refine blk_drewN ?_ _ | refine blk_drew ?_ | refine blk_alloc ?_ _)); exact BK191.out) Try.underlying25 rfl (by kernel_rfl)) rfl ?_
  exact ⟨_, _, by first | rfl | (simp [errW_none, errW_some] <;> rfl) | (simp [*, errW_none, errW_some] <;> rfl), by (with_reducible repeat (first | apply Kd.R_alloc | apply Kd.R_drewN | apply Kd.R_drew)); exact Kd.R_mono (Kd.R_far (p := ⟨gb191, 4, none⟩) (Kd.R_far (p := ⟨gb191, 3, none⟩) (Kd.R_far (p := ⟨gb191, 2, none⟩) (Kd.R_far (p := ⟨gb191, 1, none⟩) (Kd.R_far (p := ⟨gb191, 0, none⟩) (Kd.R_types HO194.out BK191.out (by decide)) (fun _ hk => hk.2) (.int .i64 2)) (fun _ hk => hk.2) (.slice Ao5 y192.length co5)) (fun _ hk => hk.2) (.int .i64 0)) (fun _ hk => hk.2) (.int .i64 0)) (fun _ hk => hk.2) (.slice none 0 0)) (fun _ hk => trivial), by first | exact Kd.R_nil _ _ _ _ _ | exact Kd.N_nil _ _ _ _ _ | exact Kd.V_nil _ _ _ _ _ | exact Kd.Q_nil _ _ _ _ _ | exact Kd.S_nil _ _ _ _ _, by repeat (first | (with_reducible first | exact HB.out | apply below_alloc | apply pw_below_drewN | apply below_drew1 | refine below_set ?_ GE191.out) | exact HB.out)⟩

end Go.Proofs.Ytaphbechnjmlgaa.P
namespace Go.Proofs.Ytaphbechnjmlgaa.P
open Go.RowKit Go.Proofs.YtaphbechnjmlgaaW.PrintWords Go.Proofs.YtaphbechnjmlgaaW.PrintLast Go.Proofs.YtaphbechnjmlgaaW.PrintMore
set_option linter.unusedVariables false
set_option linter.unusedSimpArgs false

def ductuslaw18_alive.f : Option Bool := some true
def nA : DNode := ⟨2, [⟨97, 97⟩], 0, 0, []⟩
def nB : DNode := ⟨2, [⟨98, 98⟩], 0, 0, []⟩
def nAB : DNode := ⟨3, [], 0, 0, [nA, nB]⟩
def nN : DNode := ⟨5, [], 0, -1, [nAB]⟩
def nM : DNode := ⟨3, [], 0, 0, [nB, nN]⟩
theorem st_1 : stepT 20 nN 97 true = some nM := by kernel_rfl
theorem st_2 : stepT 20 nM 98 false = some nN := by kernel_rfl
theorem st_3 : stepT 20 nN 98 true = some ⟨0, [], 0, 0, []⟩ := by kernel_rfl
theorem en_1 : deriv_Ends.f 20 5 [] 0 (-1) [nAB] [97, 98, 97, 98, 97] 0 = some [0, 2, 4] := by kernel_rfl
theorem in_1 : ductusref01_Ints.f 20 [0, 2, 4] [0, 2, 4] = some true := by kernel_rfl
theorem wh_1 : deriv_Whole.f 20 5 [] 0 (-1) [nAB] [97, 98, 97, 98, 97] 2 4 = some true := by kernel_rfl
theorem wh_2 : deriv_Whole.f 20 5 [] 0 (-1) [nAB] [97, 98, 97, 98, 97] 0 3 = some false := by kernel_rfl
theorem nu_1 : nullS false false 20 nN = some true := by kernel_rfl
theorem nu_2 : nullS false true 20 ⟨0, [], 0, 0, []⟩ = some false := by kernel_rfl
theorem nu_3 : nullS true false 20 ⟨6, [], 0, 0, []⟩ = some true := by kernel_rfl
theorem nu_4 : nullS false true 20 ⟨6, [], 0, 0, []⟩ = some false := by kernel_rfl
theorem F_one {w : World} {P0 : Nat → Prop} {b : Nat} {x : DNode} {cx : List Value} (hb : w.heap[b]? = some (.cells cx.toArray 25 (0, 0))) (hx : Kd.FK k25 w P0 x cx) : Kd.F k25 w (fun k => P0 k ∨ k = b) (some ⟨b, 0, none⟩) 1 [x] := by
  intro W' hW
  have hb' : W'.heap[b]? = some (.cells cx.toArray 25 (0, 0)) := (hW b (.inr rfl) (blk_lt hb)).trans hb
  have h1 : k25.K W' x cx := Kd.FK_now (Kd.FK_step hx fun k hk hl => hW k (.inl hk) hl)
  exact C_of_block (d := k25) (xs := [x]) hb' (by have h3 := (Reps.none (k25.K W') k25.sz).snoc h1 (k25.K_len h1); simpa using h3) (by simp)
abbrev AnyB : Nat → Prop := fun _ => True
set_option maxHeartbeats 8000000 in
set_option maxRecDepth 100000 in
theorem ductuslaw18_alive.calls (r : Bool) (w : World) (h : ductuslaw18_alive.f = some r) : Calls Try.prog 7 #[] w fun e w' => e = .returned (.bool r) ∧ Below w.heap.size w w' := by
  obtain rfl := Option.some.inj h
  clear h
  have hu := Try.underlying25
  have HB0 := Aside0.mk (Below.refl w.heap.size w)
  go_enter Try.func7, Try.ntmps7
  go_upto_region 2 with (first | ((with_reducible refine gate_callee (f := 18) rfl ?_); refine goesL_ (some 5) rfl rfl Try.func18 (by kernel_rfl) rfl #[.int .i64 97] rfl (by (try simp only [List.map_toArray, List.map_cons, List.map_nil]); first | done | rfl) ?_; refine (ductuslaw18_set.calls 97 2 [⟨97, 97⟩] 0 0 [] _ rfl).mono ?_; rintro e_ w1 ⟨v1, v4, rfl, hr1, hr4, hb⟩; refine ⟨_, rfl, ?_⟩; obtain ⟨A1, c1, rfl⟩ := Kd.R_slice hr1; obtain ⟨A4, c4, rfl⟩ := Kd.R_slice hr4; have HB1 := Aside0.mk (below_step HB0.out hb); have HA := Aside0.mk (And.intro (Kd.F_mono (ok' := AnyB) (Kd.R_F hr1) (fun _ _ => trivial)) (Kd.F_mono (ok' := AnyB) (Kd.R_F hr4) (fun _ _ => trivial))); have HLA := Aside0.mk (And.intro (Kd.R_reads' hr1).2.1 (Kd.R_reads' hr4).2.1); clear hr1 hr4 hb) | ((with_reducible refine gate_callee (f := 18) rfl ?_); refine goesL_ (some 6) rfl rfl Try.func18 (by kernel_rfl) rfl #[.int .i64 98] rfl (by (try simp only [List.map_toArray, List.map_cons, List.map_nil]); first | done | rfl) ?_; refine (ductuslaw18_set.calls 98 2 [⟨98, 98⟩] 0 0 [] _ rfl).mono ?_; rintro e_ w2 ⟨v1, v4, rfl, hr1, hr4, hb⟩; refine ⟨_, rfl, ?_⟩; obtain ⟨B1, d1, rfl⟩ := Kd.R_slice hr1; obtain ⟨B4, d4, rfl⟩ := Kd.R_slice hr4; have HB2 := Aside0.mk hb; have HB2w := Aside0.mk (below_step HB1.out hb); have HBN := Aside0.mk (And.intro (Kd.F_mono (ok' := AnyB) (Kd.R_F hr1) (fun _ _ => trivial)) (Kd.F_mono (ok' := AnyB) (Kd.R_F hr4) (fun _ _ => trivial))); have HLB := Aside0.mk (And.intro (Kd.R_reads' hr1).2.1 (Kd.R_reads' hr4).2.1); clear hr1 hr4 hb))
  have HK := Aside0.mk (heap_alloc_new w2 (.cells #[.int .i64 2, .slice A1 1 c1, .int .i64 0, .int .i64 0, .slice A4 0 c4, .int .i64 2, .slice B1 1 d1, .int .i64 0, .int .i64 0, .slice B4 0 d4] 25))
  have HW3 := Aside0.mk (below_alloc (Below.refl w2.heap.size w2) (.cells #[.int .i64 2, .slice A1 1 c1, .int .i64 0, .int .i64 0, .slice A4 0 c4, .int .i64 2, .slice B1 1 d1, .int .i64 0, .int .i64 0, .slice B4 0 d4] 25))
  have HRow := Aside0.mk (Kd.F_mono (ok' := AnyB) (F_two (P0 := AnyB) (x := nA) (y := nB) (cx := [.int .i64 2, .slice A1 1 c1, .int .i64 0, .int .i64 0, .slice A4 0 c4]) (cy := [.int .i64 2, .slice B1 1 d1, .int .i64 0, .int .i64 0, .slice B4 0 d4]) HK.out (k25_mkF _ AnyB nA HLA.out.1 (Kd.F_below HA.out.1 (below_step HB2.out HW3.out)) HLA.out.2 (Kd.F_below HA.out.2 (below_step HB2.out HW3.out))) (k25_mkF _ AnyB nB HLB.out.1 (Kd.F_below HBN.out.1 HW3.out) HLB.out.2 (Kd.F_below HBN.out.2 HW3.out))) (fun _ _ => trivial))
  have HB3 := Aside0.mk (below_step HB2w.out HW3.out)
  have HCK := Aside0.mk (show 2 ≤ 2 from Nat.le_refl _)
  clear HK HW3 HA HBN HB2 HB2w HLA HLB HB0 HB1
  have HG1 := Aside0.mk (heap_alloc_new (w2.alloc (.cells #[.int .i64 2, .slice A1 1 c1, .int .i64 0, .int .i64 0, .slice A4 0 c4, .int .i64 2, .slice B1 1 d1, .int .i64 0, .int .i64 0, .slice B4 0 d4] 25)) (.cells #[.int .i64 3, .slice none 0 0, .int .i64 0, .int .i64 0, .slice (some ⟨w2.heap.size, 0, none⟩) 2 2] 25))
  have HW4 := Aside0.mk (below_alloc (Below.refl (w2.alloc (.cells #[.int .i64 2, .slice A1 1 c1, .int .i64 0, .int .i64 0, .slice A4 0 c4, .int .i64 2, .slice B1 1 d1, .int .i64 0, .int .i64 0, .slice B4 0 d4] 25)).heap.size (w2.alloc (.cells #[.int .i64 2, .slice A1 1 c1, .int .i64 0, .int .i64 0, .slice A4 0 c4, .int .i64 2, .slice B1 1 d1, .int .i64 0, .int .i64 0, .slice B4 0 d4] 25))) (.cells #[.int .i64 3, .slice none 0 0, .int .i64 0, .int .i64 0, .slice (some ⟨w2.heap.size, 0, none⟩) 2 2] 25))
  have HRow4 := Aside0.mk (Kd.F_below HRow.out HW4.out)
  have HB4 := Aside0.mk (below_step HB3.out HW4.out)
  have hsz : (w2.alloc (.cells #[.int .i64 2, .slice A1 1 c1, .int .i64 0, .int .i64 0, .slice A4 0 c4, .int .i64 2, .slice B1 1 d1, .int .i64 0, .int .i64 0, .slice B4 0 d4] 25)).heap.size = w2.heap.size + 1 := by simp
  rw [hsz] at HG1
  clear HRow HB3 HW4 hsz
  generalize (w2.alloc (.cells #[.int .i64 2, .slice A1 1 c1, .int .i64 0, .int .i64 0, .slice A4 0 c4, .int .i64 2, .slice B1 1 d1, .int .i64 0, .int .i64 0, .slice B4 0 d4] 25)).alloc (.cells #[.int .i64 3, .slice none 0 0, .int .i64 0, .int .i64 0, .slice (some ⟨w2.heap.size, 0, none⟩) 2 2] 25) = W4 at HG1 HRow4 HB4 ⊢
  obtain ⟨g1, hg1⟩ : ∃ g, w2.heap.size + 1 = g := ⟨_, rfl⟩
  rw [hg1] at HG1 ⊢
  generalize w2.heap.size = gk at HG1 HRow4 hg1 ⊢
  clear hg1
  have z0 := blk_cell HG1.out 0
  have z1 := blk_cell HG1.out 1
  have z2 := blk_cell HG1.out 2
  have z3 := blk_cell HG1.out 3
  have z4 := blk_cell HG1.out 4
  go_upto_region 3 with (fail)
  clear z0 z1 z2 z3 z4
  have HJ := Aside0.mk (heap_alloc_new W4 (.cells #[.int .i64 3, .slice none 0 0, .int .i64 0, .int .i64 0, .slice (some ⟨gk, 0, none⟩) 2 2] 25))
  have HW5 := Aside0.mk (below_alloc (Below.refl W4.heap.size W4) (.cells #[.int .i64 3, .slice none 0 0, .int .i64 0, .int .i64 0, .slice (some ⟨gk, 0, none⟩) 2 2] 25))
  have HRow5 := Aside0.mk (Kd.F_mono (ok' := AnyB) (F_one (P0 := AnyB) (x := nAB) (cx := [.int .i64 3, .slice none 0 0, .int .i64 0, .int .i64 0, .slice (some ⟨gk, 0, none⟩) 2 2]) HJ.out (k25_mkF _ AnyB nAB (A1 := none) (c1 := 0) (Nat.zero_le _) (F_zero _) (A4 := some ⟨gk, 0, none⟩) (c4 := 2) (Nat.le_refl _) (Kd.F_below HRow4.out HW5.out))) (fun _ _ => trivial))
  have HB5 := Aside0.mk (below_step HB4.out HW5.out)
  have HG2 := Aside0.mk (heap_alloc_new (W4.alloc (.cells #[.int .i64 3, .slice none 0 0, .int .i64 0, .int .i64 0, .slice (some ⟨gk, 0, none⟩) 2 2] 25)) (.cells #[.int .i64 5, .slice none 0 0, .int .i64 0, .int .i64 (-1), .slice (some ⟨W4.heap.size, 0, none⟩) 1 1] 25))
  have HW6 := Aside0.mk (below_alloc (Below.refl (W4.alloc (.cells #[.int .i64 3, .slice none 0 0, .int .i64 0, .int .i64 0, .slice (some ⟨gk, 0, none⟩) 2 2] 25)).heap.size (W4.alloc (.cells #[.int .i64 3, .slice none 0 0, .int .i64 0, .int .i64 0, .slice (some ⟨gk, 0, none⟩) 2 2] 25))) (.cells #[.int .i64 5, .slice none 0 0, .int .i64 0, .int .i64 (-1), .slice (some ⟨W4.heap.size, 0, none⟩) 1 1] 25))
  have HRow6 := Aside0.mk (Kd.F_below HRow5.out HW6.out)
  have HB6 := Aside0.mk (below_step HB5.out HW6.out)
  have hsz : (W4.alloc (.cells #[.int .i64 3, .slice none 0 0, .int .i64 0, .int .i64 0, .slice (some ⟨gk, 0, none⟩) 2 2] 25)).heap.size = W4.heap.size + 1 := by simp
  rw [hsz] at HG2
  clear HJ HW5 HRow5 HB5 HW6 HB4 HRow4 HG1 hsz
  generalize (W4.alloc (.cells #[.int .i64 3, .slice none 0 0, .int .i64 0, .int .i64 0, .slice (some ⟨gk, 0, none⟩) 2 2] 25)).alloc (.cells #[.int .i64 5, .slice none 0 0, .int .i64 0, .int .i64 (-1), .slice (some ⟨W4.heap.size, 0, none⟩) 1 1] 25) = W6 at HG2 HRow6 HB6 ⊢
  obtain ⟨g2, hg2⟩ : ∃ g, W4.heap.size + 1 = g := ⟨_, rfl⟩
  rw [hg2] at HG2 ⊢
  generalize W4.heap.size = gj at HG2 HRow6 hg2 ⊢
  clear hg2
  go_upto_region 4 with (fail)
  have HW7 := Aside0.mk (below_alloc (Below.refl W6.heap.size W6) (.cells #[.int .i64 97, .int .i64 98, .int .i64 97, .int .i64 98, .int .i64 97] 3))
  have HL7 := Aside0.mk (show Kd.C (Kd.int .i64) (W6.alloc (.cells #[.int .i64 97, .int .i64 98, .int .i64 97, .int .i64 98, .int .i64 97] 3)) (some ⟨W6.heap.size, 0, none⟩) 5 [97, 98, 97, 98, 97] from (Kd.R_reads' (setR_of (B := W6.heap.size) (g := W6.heap.size) (cap := 5) (ys := [97, 98, 97, 98, 97]) (Nat.le_refl _) (heap_alloc_new W6 _) (by decide) (by decide) rfl rfl)).2.2)
  have HG27 := Aside0.mk (blk_below HG2.out HW7.out)
  have HRow7 := Aside0.mk (Kd.F_below HRow6.out HW7.out)
  have HB7 := Aside0.mk (below_step HB6.out HW7.out)
  clear HW7 HG2 HRow6 HB6
  generalize W6.alloc (.cells #[.int .i64 97, .int .i64 98, .int .i64 97, .int .i64 98, .int .i64 97] 3) = W7 at HL7 HG27 HRow7 HB7 ⊢
  generalize W6.heap.size = gl at HL7 ⊢
  have z0 := blk_cell HG27.out 0
  have z1 := blk_cell HG27.out 1
  have z2 := blk_cell HG27.out 2
  have z3 := blk_cell HG27.out 3
  have z4 := blk_cell HG27.out 4
  go_upto_region 5 with (first | ((with_reducible refine gate_callee (f := 13) rfl ?_); refine goesL_ (some 14) rfl rfl Try.func13 (by kernel_rfl) rfl #[.agg #[.int .i64 5, .slice none 0 0, .int .i64 0, .int .i64 (-1), .slice (some ⟨gj, 0, none⟩) 1 1], .int .i64 97, .bool true] rfl (by (try simp only [List.map_toArray, List.map_cons, List.map_nil]); first | done | rfl) ?_; refine (stepT_calls 20 97 true AnyB 5 none 0 [] 0 (-1) (some ⟨gj, 0, none⟩) 1 [nAB] _ nM (Nat.zero_le _) (F_zero _) (Nat.le_refl _) HRow7.out st_1).mono ?_; rintro e_ w8 ⟨rv, rfl, hN, hb⟩; refine ⟨_, rfl, ?_⟩; have HB8 := Aside0.mk hb; obtain ⟨D1, i1, D4, i4, rfl, m1, r1, m4, r4⟩ := hN; have HM8 := Aside0.mk (And.intro m1 (And.intro (Kd.F_mono (ok' := AnyB) r1 (fun _ _ => trivial)) (And.intro m4 (Kd.F_mono (ok' := AnyB) r4 (fun _ _ => trivial))))); clear m1 r1 m4 r4 hb) | ((with_reducible refine gate_callee (f := 13) rfl ?_); refine goesL_ (some 15) rfl rfl Try.func13 (by kernel_rfl) rfl #[.agg #[.int .i64 nM.f0, .slice D1 nM.f1.length i1, .int .i64 nM.f2, .int .i64 nM.f3, .slice D4 nM.f4.length i4], .int .i64 98, .bool false] rfl (by (try simp only [List.map_toArray, List.map_cons, List.map_nil]); first | done | rfl) ?_; refine (stepT_calls 20 98 false AnyB nM.f0 D1 i1 nM.f1 nM.f2 nM.f3 D4 i4 nM.f4 _ nN HM8.out.1 HM8.out.2.1 HM8.out.2.2.1 HM8.out.2.2.2 st_2).mono ?_; rintro e_ w9 ⟨rv, rfl, hN, hb⟩; refine ⟨_, rfl, ?_⟩; have HB9 := Aside0.mk (below_step HB8.out hb); have HM9 := Aside0.mk (NodeF.mono (P' := AnyB) hN (fun _ _ => trivial)); obtain ⟨G1, j1, G4, j4, rfl, m1, r1, m4, r4⟩ := hN; clear m1 r1 m4 r4 hb))
  clear z0 z1 z2 z3 z4
  have HW10 := Aside0.mk (below_alloc (Below.refl w9.heap.size w9) (.cells #[.int .i64 nN.f0, .slice G1 nN.f1.length j1, .int .i64 nN.f2, .int .i64 nN.f3, .slice G4 nN.f4.length j4] 25))
  have HG4 := Aside0.mk (heap_alloc_new w9 (.cells #[.int .i64 nN.f0, .slice G1 nN.f1.length j1, .int .i64 nN.f2, .int .i64 nN.f3, .slice G4 nN.f4.length j4] 25))
  have HM10 := Aside0.mk (NodeF.below HM9.out HW10.out)
  have HG10 := Aside0.mk (blk_below HG27.out (below_step HB9.out HW10.out))
  have HL10 := Aside0.mk (Kd.C_below HL7.out (below_step HB9.out HW10.out))
  have HN10 := Aside0.mk (show NodeF (w9.alloc (.cells #[.int .i64 nN.f0, .slice G1 nN.f1.length j1, .int .i64 nN.f2, .int .i64 nN.f3, .slice G4 nN.f4.length j4] 25)) AnyB nN (.agg #[.int .i64 5, .slice none 0 0, .int .i64 0, .int .i64 (-1), .slice (some ⟨gj, 0, none⟩) 1 1]) from ⟨none, 0, some ⟨gj, 0, none⟩, 1, rfl, Nat.zero_le _, F_zero _, Nat.le_refl _, Kd.F_below HRow7.out (below_step HB9.out HW10.out)⟩)
  have HB10 := Aside0.mk (below_step HB7.out (below_step HB9.out HW10.out))
  clear HW10 HM9 HG27 HL7 HRow7 HB7 HB8 HB9 HM8
  generalize w9.alloc (.cells #[.int .i64 nN.f0, .slice G1 nN.f1.length j1, .int .i64 nN.f2, .int .i64 nN.f3, .slice G4 nN.f4.length j4] 25) = W at HG4 HM10 HG10 HL10 HN10 HB10 ⊢
  generalize w9.heap.size = g4 at HG4 ⊢
  -- what each call answers, in any world behind this one
  have cEnds : ∀ W', Below W.heap.size W W' → Calls Try.prog 14 #[.agg #[.int .i64 5, .slice none 0 0, .int .i64 0, .int .i64 (-1), .slice (some ⟨gj, 0, none⟩) 1 1], .slice (some ⟨gl, 0, none⟩) 5 5, .int .i64 0] W' fun e w' => ∃ v0_ : Value, e = .returned (v0_) ∧ SetR w' W'.heap.size [0, 2, 4] v0_ ∧ Below W'.heap.size W' w' := fun W' hb => by
    obtain ⟨a1, b1, a4, b4, e, q1, q2, q3, q4⟩ := (NodeF.below HN10.out hb).now
    cases e
    exact deriv_Ends.calls 20 5 none 0 [] 0 (-1) (some ⟨gj, 0, none⟩) 1 [nAB] (some ⟨gl, 0, none⟩) 5 [97, 98, 97, 98, 97] 0 [0, 2, 4] W' q2 q1 q4 q3 (Kd.C_below HL10.out hb) (Nat.le_refl _) en_1
  have cWhole : ∀ W' a b r, Below W.heap.size W W' → deriv_Whole.f 20 5 [] 0 (-1) [nAB] [97, 98, 97, 98, 97] a b = some r → Calls Try.prog 16 #[.agg #[.int .i64 5, .slice none 0 0, .int .i64 0, .int .i64 (-1), .slice (some ⟨gj, 0, none⟩) 1 1], .slice (some ⟨gl, 0, none⟩) 5 5, .int .i64 a, .int .i64 b] W' fun e w' => e = .returned (.bool r) ∧ Below W'.heap.size W' w' := fun W' a b r hb h => by
    obtain ⟨a1, b1, a4, b4, e, q1, q2, q3, q4⟩ := (NodeF.below HN10.out hb).now
    cases e
    exact deriv_Whole.calls 20 5 none 0 [] 0 (-1) (some ⟨gj, 0, none⟩) 1 [nAB] (some ⟨gl, 0, none⟩) 5 [97, 98, 97, 98, 97] a b r W' q2 q1 q4 q3 (Kd.C_below HL10.out hb) (Nat.le_refl _) h
  have cStep : ∀ W', Below W.heap.size W W' → Calls Try.prog 13 #[.agg #[.int .i64 5, .slice none 0 0, .int .i64 0, .int .i64 (-1), .slice (some ⟨gj, 0, none⟩) 1 1], .int .i64 98, .bool true] W' fun e w' => ∃ rv, e = .returned rv ∧ NodeF w' (fun k => AnyB k ∨ W'.heap.size ≤ k) ⟨0, [], 0, 0, []⟩ rv ∧ Below W'.heap.size W' w' := fun W' hb => by
    obtain ⟨a1, b1, a4, b4, e, q1, q2, q3, q4⟩ := (NodeF.below HN10.out hb)
    cases e
    exact stepT_calls 20 98 true AnyB 5 none 0 [] 0 (-1) (some ⟨gj, 0, none⟩) 1 [nAB] W' _ q1 q2 q3 q4 st_3
  have CE := Aside0.mk cEnds
  have CW := Aside0.mk cWhole
  have CS := Aside0.mk cStep
  clear cEnds cWhole cStep
  have HBR := Aside0.mk (Below.refl W.heap.size W)
  have y0_0 := blk_cell (blk_below HG10.out HBR.out) 0
  have y0_1 := blk_cell (blk_below HG10.out HBR.out) 1
  have y0_2 := blk_cell (blk_below HG10.out HBR.out) 2
  have y0_3 := blk_cell (blk_below HG10.out HBR.out) 3
  have y0_4 := blk_cell (blk_below HG10.out HBR.out) 4
  have x0_0 := blk_cell (blk_below HG4.out HBR.out) 0
  have x0_1 := blk_cell (blk_below HG4.out HBR.out) 1
  have x0_2 := blk_cell (blk_below HG4.out HBR.out) 2
  have x0_3 := blk_cell (blk_below HG4.out HBR.out) 3
  have x0_4 := blk_cell (blk_below HG4.out HBR.out) 4
  go_wp2_with (first 
    | ((with_reducible refine gate_callee (f := 14) rfl ?_); refine goesL_ (some 18) rfl rfl Try.func14 (by kernel_rfl) rfl #[.agg #[.int .i64 5, .slice none 0 0, .int .i64 0, .int .i64 (-1), .slice (some ⟨gj, 0, none⟩) 1 1], .slice (some ⟨gl, 0, none⟩) 5 5, .int .i64 0] rfl (by (try simp only [List.map_toArray, List.map_cons, List.map_nil]); first | done | rfl) ?_; refine (CE.out _ HBR.out).mono ?_; rintro e_ k1 ⟨v0, rfl, hr, hb⟩; refine ⟨_, rfl, ?_⟩; obtain ⟨S1, s1, rfl⟩ := Kd.R_slice hr; have HS1 := Aside0.mk hr; have HB1_ := Aside0.mk hb; clear hr hb)
    | ((with_reducible refine gate_callee (f := 15) rfl ?_); refine goesL_ (some 20) rfl rfl Try.func15 (by kernel_rfl) rfl #[.slice S1 3 s1, .slice (some ⟨k1.heap.size, 0, none⟩) 3 3] rfl (by (try simp only [List.map_toArray, List.map_cons, List.map_nil]); first | done | rfl) ?_; refine (ductusref01_Ints.calls 20 S1 s1 [0, 2, 4] (some ⟨k1.heap.size, 0, none⟩) 3 [0, 2, 4] true _ (Kd.C_below (Kd.R_reads' HS1.out).2.2 (below_alloc (Below.refl _ _) _)) (Kd.R_reads' HS1.out).2.1 (show Kd.C (Kd.int .i64) (k1.alloc (.cells #[.int .i64 0, .int .i64 2, .int .i64 4] 3)) (some ⟨k1.heap.size, 0, none⟩) 3 [0, 2, 4] from (Kd.R_reads' (setR_of (B := k1.heap.size) (g := k1.heap.size) (cap := 3) (ys := [0, 2, 4]) (Nat.le_refl _) (heap_alloc_new k1 _) (by decide) (by decide) rfl rfl)).2.2) (Nat.le_refl _) in_1).mono ?_; rintro e_ k2 ⟨rfl, hd⟩; refine ⟨_, rfl, ?_⟩; have HB2_ := Aside0.mk (below_step HB1_.out (show Below k1.heap.size k1 k2 by obtain ⟨nq, hq⟩ := hd; subst hq; exact pw_below_drewN (below_alloc (Below.refl _ _) _) _)); have y2_0 := blk_cell (blk_below HG10.out HB2_.out) 0; have y2_1 := blk_cell (blk_below HG10.out HB2_.out) 1; have y2_2 := blk_cell (blk_below HG10.out HB2_.out) 2; have y2_3 := blk_cell (blk_below HG10.out HB2_.out) 3; have y2_4 := blk_cell (blk_below HG10.out HB2_.out) 4; have x2_0 := blk_cell (blk_below HG4.out HB2_.out) 0; have x2_1 := blk_cell (blk_below HG4.out HB2_.out) 1; have x2_2 := blk_cell (blk_below HG4.out HB2_.out) 2; have x2_3 := blk_cell (blk_below HG4.out HB2_.out) 3; have x2_4 := blk_cell (blk_below HG4.out HB2_.out) 4; clear hd)
    | ((with_reducible refine gate_callee (f := 16) rfl ?_); (try (refine gate_guard (by rfl) ?_; dsimp only)); refine goesL_ (some 24) rfl rfl Try.func16 (by kernel_rfl) rfl #[.agg #[.int .i64 5, .slice none 0 0, .int .i64 0, .int .i64 (-1), .slice (some ⟨gj, 0, none⟩) 1 1], .slice (some ⟨gl, 0, none⟩) 5 5, .int .i64 2, .int .i64 4] rfl (by (try simp only [List.map_toArray, List.map_cons, List.map_nil]); first | done | rfl) ?_; refine (CW.out _ 2 4 true HB2_.out wh_1).mono ?_; rintro e_ k3 ⟨rfl, hb⟩; refine ⟨_, rfl, ?_⟩; have HB3_ := Aside0.mk (below_step HB2_.out hb); have y3_0 := blk_cell (blk_below HG10.out HB3_.out) 0; have y3_1 := blk_cell (blk_below HG10.out HB3_.out) 1; have y3_2 := blk_cell (blk_below HG10.out HB3_.out) 2; have y3_3 := blk_cell (blk_below HG10.out HB3_.out) 3; have y3_4 := blk_cell (blk_below HG10.out HB3_.out) 4; have x3_0 := blk_cell (blk_below HG4.out HB3_.out) 0; have x3_1 := blk_cell (blk_below HG4.out HB3_.out) 1; have x3_2 := blk_cell (blk_below HG4.out HB3_.out) 2; have x3_3 := blk_cell (blk_below HG4.out HB3_.out) 3; have x3_4 := blk_cell (blk_below HG4.out HB3_.out) 4; clear hb)
    | ((with_reducible refine gate_callee (f := 16) rfl ?_); (try (refine gate_guard (by rfl) ?_; dsimp only)); refine goesL_ (some 29) rfl rfl Try.func16 (by kernel_rfl) rfl #[.agg #[.int .i64 5, .slice none 0 0, .int .i64 0, .int .i64 (-1), .slice (some ⟨gj, 0, none⟩) 1 1], .slice (some ⟨gl, 0, none⟩) 5 5, .int .i64 0, .int .i64 3] rfl (by (try simp only [List.map_toArray, List.map_cons, List.map_nil]); first | done | rfl) ?_; refine (CW.out _ 0 3 false HB3_.out wh_2).mono ?_; rintro e_ k4 ⟨rfl, hb⟩; refine ⟨_, rfl, ?_⟩; have HB4_ := Aside0.mk (below_step HB3_.out hb); have y4_0 := blk_cell (blk_below HG10.out HB4_.out) 0; have y4_1 := blk_cell (blk_below HG10.out HB4_.out) 1; have y4_2 := blk_cell (blk_below HG10.out HB4_.out) 2; have y4_3 := blk_cell (blk_below HG10.out HB4_.out) 3; have y4_4 := blk_cell (blk_below HG10.out HB4_.out) 4; have x4_0 := blk_cell (blk_below HG4.out HB4_.out) 0; have x4_1 := blk_cell (blk_below HG4.out HB4_.out) 1; have x4_2 := blk_cell (blk_below HG4.out HB4_.out) 2; have x4_3 := blk_cell (blk_below HG4.out HB4_.out) 3; have x4_4 := blk_cell (blk_below HG4.out HB4_.out) 4; clear hb)
    | ((with_reducible refine gate_callee (f := 12) rfl ?_); (try (refine gate_guard (by rfl) ?_; dsimp only)); refine goesL_ (some 34) rfl rfl Try.func12 (by kernel_rfl) rfl #[.agg #[.int .i64 5, .slice none 0 0, .int .i64 0, .int .i64 (-1), .slice (some ⟨gj, 0, none⟩) 1 1], .bool false, .bool false] rfl (by (try simp only [List.map_toArray, List.map_cons, List.map_nil]); first | done | rfl) ?_; refine (null_calls false false 20 nN (.agg #[.int .i64 5, .slice none 0 0, .int .i64 0, .int .i64 (-1), .slice (some ⟨gj, 0, none⟩) 1 1]) true _ (NodeF.below HN10.out HB4_.out).now nu_1).mono ?_; rintro e_ k5 ⟨rfl, hb⟩; refine ⟨_, rfl, ?_⟩; have HB5_ := Aside0.mk (below_step HB4_.out hb); have y5_0 := blk_cell (blk_below HG10.out HB5_.out) 0; have y5_1 := blk_cell (blk_below HG10.out HB5_.out) 1; have y5_2 := blk_cell (blk_below HG10.out HB5_.out) 2; have y5_3 := blk_cell (blk_below HG10.out HB5_.out) 3; have y5_4 := blk_cell (blk_below HG10.out HB5_.out) 4; have x5_0 := blk_cell (blk_below HG4.out HB5_.out) 0; have x5_1 := blk_cell (blk_below HG4.out HB5_.out) 1; have x5_2 := blk_cell (blk_below HG4.out HB5_.out) 2; have x5_3 := blk_cell (blk_below HG4.out HB5_.out) 3; have x5_4 := blk_cell (blk_below HG4.out HB5_.out) 4; clear hb)
    | ((with_reducible refine gate_callee (f := 12) rfl ?_); (try (refine gate_guard (by rfl) ?_; dsimp only)); refine goesL_ (some 38) rfl rfl Try.func12 (by kernel_rfl) rfl #[.agg #[.int .i64 nN.f0, .slice G1 nN.f1.length j1, .int .i64 nN.f2, .int .i64 nN.f3, .slice G4 nN.f4.length j4], .bool false, .bool false] rfl (by (try simp only [List.map_toArray, List.map_cons, List.map_nil]); first | done | rfl) ?_; refine (null_calls false false 20 nN (.agg #[.int .i64 nN.f0, .slice G1 nN.f1.length j1, .int .i64 nN.f2, .int .i64 nN.f3, .slice G4 nN.f4.length j4]) true _ (NodeF.below HM10.out HB5_.out).now nu_1).mono ?_; rintro e_ k6 ⟨rfl, hb⟩; refine ⟨_, rfl, ?_⟩; have HB6_ := Aside0.mk (below_step HB5_.out hb); have y6_0 := blk_cell (blk_below HG10.out HB6_.out) 0; have y6_1 := blk_cell (blk_below HG10.out HB6_.out) 1; have y6_2 := blk_cell (blk_below HG10.out HB6_.out) 2; have y6_3 := blk_cell (blk_below HG10.out HB6_.out) 3; have y6_4 := blk_cell (blk_below HG10.out HB6_.out) 4; have x6_0 := blk_cell (blk_below HG4.out HB6_.out) 0; have x6_1 := blk_cell (blk_below HG4.out HB6_.out) 1; have x6_2 := blk_cell (blk_below HG4.out HB6_.out) 2; have x6_3 := blk_cell (blk_below HG4.out HB6_.out) 3; have x6_4 := blk_cell (blk_below HG4.out HB6_.out) 4; clear hb)
    | ((with_reducible refine gate_callee (f := 13) rfl ?_); (try (refine gate_guard (by rfl) ?_; dsimp only)); refine goesL_ (some 42) rfl rfl Try.func13 (by kernel_rfl) rfl #[.agg #[.int .i64 5, .slice none 0 0, .int .i64 0, .int .i64 (-1), .slice (some ⟨gj, 0, none⟩) 1 1], .int .i64 98, .bool true] rfl (by (try simp only [List.map_toArray, List.map_cons, List.map_nil]); first | done | rfl) ?_; refine (CS.out _ HB6_.out).mono ?_; rintro e_ k7 ⟨rv, rfl, hN, hb⟩; refine ⟨_, rfl, ?_⟩; have HB7_ := Aside0.mk (below_step HB6_.out hb); have HZ7 := Aside0.mk hN.now; obtain ⟨P1, p1, P4, p4, rfl, m1, r1, m4, r4⟩ := hN; clear m1 r1 m4 r4 hb)
    | ((with_reducible refine gate_callee (f := 12) rfl ?_); (try (refine gate_guard (by rfl) ?_; dsimp only)); refine goesL_ (some 43) rfl rfl Try.func12 (by kernel_rfl) rfl #[.agg #[.int .i64 0, .slice P1 0 p1, .int .i64 0, .int .i64 0, .slice P4 0 p4], .bool false, .bool true] rfl (by (try simp only [List.map_toArray, List.map_cons, List.map_nil]); first | done | rfl) ?_; refine (null_calls false true 20 ⟨0, [], 0, 0, []⟩ (.agg #[.int .i64 0, .slice P1 0 p1, .int .i64 0, .int .i64 0, .slice P4 0 p4]) false _ HZ7.out nu_2).mono ?_; rintro e_ k8 ⟨rfl, hb⟩; refine ⟨_, rfl, ?_⟩; have HB8_ := Aside0.mk (below_step HB7_.out hb); clear hb)
    | ((with_reducible refine gate_callee (f := 12) rfl ?_); (try (refine gate_guard (by rfl) ?_; dsimp only)); refine goesL_ (some 48) rfl rfl Try.func12 (by kernel_rfl) rfl #[.agg #[.int .i64 6, .slice none 0 0, .int .i64 0, .int .i64 0, .slice none 0 0], .bool true, .bool false] rfl (by (try simp only [List.map_toArray, List.map_cons, List.map_nil]); first | done | rfl) ?_; refine (null_calls true false 20 ⟨6, [], 0, 0, []⟩ (.agg #[.int .i64 6, .slice none 0 0, .int .i64 0, .int .i64 0, .slice none 0 0]) true _ ⟨none, 0, none, 0, rfl, Nat.le_refl _, Kd.C_nil _ _, Nat.le_refl _, Kd.C_nil _ _⟩ nu_3).mono ?_; rintro e_ k9 ⟨rfl, hb⟩; refine ⟨_, rfl, ?_⟩; have HB9_ := Aside0.mk (below_step HB8_.out hb); clear hb)
    | ((with_reducible refine gate_callee (f := 12) rfl ?_); (try (refine gate_guard (by rfl) ?_; dsimp only)); refine goesL_ (some 52) rfl rfl Try.func12 (by kernel_rfl) rfl #[.agg #[.int .i64 6, .slice none 0 0, .int .i64 0, .int .i64 0, .slice none 0 0], .bool false, .bool true] rfl (by (try simp only [List.map_toArray, List.map_cons, List.map_nil]); first | done | rfl) ?_; refine (null_calls false true 20 ⟨6, [], 0, 0, []⟩ (.agg #[.int .i64 6, .slice none 0 0, .int .i64 0, .int .i64 0, .slice none 0 0]) false _ ⟨none, 0, none, 0, rfl, Nat.le_refl _, Kd.C_nil _ _, Nat.le_refl _, Kd.C_nil _ _⟩ nu_4).mono ?_; rintro e_ k10 ⟨rfl, hb⟩; refine ⟨_, rfl, ?_⟩; have HBL := Aside0.mk (below_step HB9_.out hb); clear hb))
  go_ret
  exact ⟨rfl, below_step HB10.out HBL.out⟩
end Go.Proofs.Ytaphbechnjmlgaa.P
namespace Go.Proofs.Ytaphbechnjmlgaa.P
open Go.RowKit Go.Proofs.YtaphbechnjmlgaaW.PrintWords Go.Proofs.YtaphbechnjmlgaaW.PrintLast Go.Proofs.YtaphbechnjmlgaaW.PrintMore
set_option linter.unusedVariables false
set_option linter.unusedSimpArgs false

theorem max2_mx (k k' : IntKind) (x y : Int) : Builtin.max2 (.int k x) (.int k' y) = pure (.int k (mx x y)) := max2_int k k' x y
theorem min2_mn (k k' : IntKind) (x y : Int) : Builtin.min2 (.int k x) (.int k' y) = pure (.int k (mn x y)) := min2_int k k' x y
attribute [local go_sem] max2_mx min2_mn max_two min_two
def multT (f0 f2 f3 : Int) : Int := mn (if f0 = 5 then (if f3 < 0 then mx 1 (mn f2 1000000 + 1) else mx 1 f3) else 1) 1000000
def sizesC (f : S25 → Option Int) (t : Int) : List S25 → Int → Option Int
  | [], s => some s
  | x :: l, s => (f x).bind fun v => if 1 ≤ v ∧ v ≤ 1000000 ∧ 1 ≤ s ∧ s ≤ 1000000 then sizesC f t l (mn 1000000 (s + t * v)) else none
def sizeC : Nat → S25 → Option Int
  | 0, _ => none
  | k + 1, x => if -9223372036854775808 ≤ x.f2 then sizesC (sizeC k) (multT x.f0 x.f2 x.f3) x.f4 1 else none
theorem multT_le (f0 f2 f3 : Int) : 1 ≤ multT f0 f2 f3 ∧ multT f0 f2 f3 ≤ 1000000 := by
  unfold multT
  unfold mn mx
  repeat' split
  all_goals omega
theorem mn_rng (a b : Int) : mn a b ≤ a ∧ mn a b ≤ b := by unfold mn; split <;> omega
def ductusref16_Size.f (k : Nat) (a0_0 : Int) (l0_1 : List (S52)) (a0_2 : Int) (a0_3 : Int) (l0_4 : List (S25)) : Option Int := sizeC k ⟨a0_0, l0_1, a0_2, a0_3, l0_4⟩
abbrev SizeN (f : S25 → Option Int) : Prop := ∀ (x : S25) (v : Value) (r : Int) (w : World), NodeAt w x v → f x = some r → Calls Try.prog 11 #[v] w fun e w' => e = .returned (.int .i64 r) ∧ Below w.heap.size w w'
set_option maxHeartbeats 8000000 in
set_option maxRecDepth 100000 in
theorem size_step (f : S25 → Option Int) (ih : SizeN f) (f0 : Int) (A1 : Option Addr) (n1 c1 : Nat) (f2 f3 : Int) (A4 : Option Addr) (c4 : Nat) (l : List S25) (r : Int) (wo : World) (hc : k25.C wo A4 l.length l) (hf2 : -9223372036854775808 ≤ f2) (h : sizesC f (multT f0 f2 f3) l 1 = some r) :
    Calls Try.prog 11 #[.agg #[.int .i64 f0, .slice A1 n1 c1, .int .i64 f2, .int .i64 f3, .slice A4 l.length c4]] wo fun e w' => e = .returned (.int .i64 r) ∧ Below wo.heap.size wo w' := by
  have hu := Try.underlying25
  obtain ⟨T, hT⟩ : ∃ T, multT f0 f2 f3 = T := ⟨_, rfl⟩
  have hT1 := multT_le f0 f2 f3
  rw [hT] at h hT1
  have HC := Aside0.mk hc
  have HN := Aside0.mk (Kd.C_max hc)
  have HX := Aside0.mk (heap_alloc_new wo (.cells #[.int .i64 f0, .slice A1 n1 c1, .int .i64 f2, .int .i64 f3, .slice A4 l.length c4] 25))
  have HB := Aside0.mk (below_alloc (Below.refl wo.heap.size wo) (.cells #[.int .i64 f0, .slice A1 n1 c1, .int .i64 f2, .int .i64 f3, .slice A4 l.length c4] 25))
  have HH := Aside0.mk h
  have HT := Aside0.mk hT
  have HT1 := Aside0.mk hT1
  have HF2 := Aside0.mk hf2
  clear hc h hT hT1 hf2
  go_enter Try.func11, Try.ntmps11
  go_wp2
  go_loopw [3, 4] (fun s3 s4 wx => ∃ (i : Nat) (s : Int), s3 = .int .i64 s ∧ s4 = .int .i64 (i : Int) ∧ i ≤ l.length ∧ Aside0 (sizesC f T (l.drop i) s = some r) ∧ Aside0 (wx.heap[wo.heap.size]? = some (.cells #[.int .i64 f0, .slice A1 n1 c1, .int .i64 f2, .int .i64 f3, .slice A4 l.length c4] 25 (0, 0))) ∧ Aside0 (Below wo.heap.size wo wx)) (fun _ s4 _ => l.length - (intOf s4).toNat)
  case atStart => exact ⟨0, 1, rfl, rfl, by omega, by simpa using HH, HX, HB⟩
  case round =>
    clear HH HX HB
    obtain ⟨i, s, rfl, rfl, hi, HH, HX, HB⟩ := hrel
    have y0 : wr.cell? ⟨wo.heap.size, 0, none⟩ = some (.int .i64 f0) := blk_cell HX.out 0
    have y2 : wr.cell? ⟨wo.heap.size, 2, none⟩ = some (.int .i64 f2) := blk_cell HX.out 2
    have y3 : wr.cell? ⟨wo.heap.size, 3, none⟩ = some (.int .i64 f3) := blk_cell HX.out 3
    have y4 : wr.cell? ⟨wo.heap.size, 4, none⟩ = some (.slice A4 l.length c4) := blk_cell HX.out 4
    by_cases hlt : i < l.length
    · obtain ⟨ad, B1, d1, B4, d4, e, h0, h1, h2, h3, h4, q1, q2, q3, q4⟩ := at_T25 (Kd.C_below HC.out HB.out) (i : Int) (by omega) (by omega)
      cases e
      rw [Int.toNat_natCast] at h0 h1 h2 h3 h4
      have hx : rd_T25 l (i : Int) = l.getD i z25 := rfl
      have hh := HH.out
      rw [sn_drop z25 l i hlt] at hh
      rw [hx] at h0 h1 h2 h3 h4 q1 q2 q3 q4
      obtain ⟨x, hxx⟩ : ∃ x, l.getD i z25 = x := ⟨_, rfl⟩
      rw [hxx] at h0 h1 h2 h3 h4 q1 q2 q3 q4 hh
      have hNA : NodeAt wr x _ := ⟨B1, d1, B4, d4, rfl, q1, q2, q3, q4⟩
      simp only [sizesC] at hh
      obtain ⟨v, hv, hh2⟩ := Option.bind_eq_some_iff.mp hh
      by_cases hb : 1 ≤ v ∧ v ≤ 1000000 ∧ 1 ≤ s ∧ s ≤ 1000000
      rotate_left
      · rw [if_neg hb] at hh2
        cases hh2
      rw [if_pos hb] at hh2
      have hm1 : T * v ≤ 1000000 * 1000000 := Int.mul_le_mul HT1.out.2 hb.2.1 (by omega) (by omega)
      have hm0 : 0 ≤ T * v := Int.mul_nonneg (by have := HT1.out.1; omega) (by omega)
      obtain ⟨P, hP⟩ : ∃ P, T * v = P := ⟨_, rfl⟩
      rw [hP] at hm1 hm0 hh2
      have i1 : IntKind.i64.wrap P = P := by rw [IntKind.wrap_i64]; omega
      have i2 : IntKind.i64.wrap (s + P) = s + P := by rw [IntKind.wrap_i64]; omega
      have hct := ih x _ v wr hNA hv
      have g1 : decide ((i : Int) < (l.length : Int)) = true := decide_eq_true (by omega)
      have g2 : ((0 : Int) ≤ (i : Int)) = True := eq_true (by omega)
      have g3 : ((i : Int) < (l.length : Int)) = True := eq_true (by omega)
      have hnw : i < 9223372036854775807 := by have := HN.out; omega
      have HH2 := Aside0.mk hh2
      have HLT := Aside0.mk (And.intro hlt hnw)
      have hTT := HT.out
      unfold multT at hTT
      have hi3 : IntKind.i64.wrap (mn f2 1000000 + 1) = mn f2 1000000 + 1 := by
        rw [IntKind.wrap_i64]
        have := (mn_rng f2 1000000).2
        have : -9223372036854775808 ≤ mn f2 1000000 := by have := HF2.out; unfold mn; split <;> omega
        omega
      clear hx hxx q1 q2 q3 q4 hNA hh hh2 hv HH hb hm1 hm0 hnw
      obtain ⟨x0, x1, x2, x3, x4⟩ := x
      dsimp only at h0 h1 h2 h3 h4 hct
      have HCT := Aside0.mk hct
      clear hct
      by_cases c5 : f0 = 5
      · rw [if_pos c5] at hTT
        have k5 : (f0 == 5) = true := beq_iff_eq.mpr c5
        by_cases c3 : f3 < 0
        · rw [if_pos c3] at hTT
          have k3 : decide (f3 < 0) = true := decide_eq_true c3
          clear c5 c3
          go_wp2_with (go_at_call 11; (with_reducible refine HCT.out.mono ?_); rintro e w3 ⟨rfl, hb⟩; have HB3 := Aside0.mk hb; clear hb)
          clear i1 i2 hi3
          have hw := sn_wrap i HLT.out.2
          refine ⟨⟨i + 1, _, rfl, by rw [hw], HLT.out.1, HH2, ⟨blk_below HX.out HB3.out⟩, ⟨below_step HB.out HB3.out⟩⟩, ?_⟩
          rw [hw]
          clear hw
          show l.length - (((i + 1 : Nat) : Int)).toNat < l.length - ((i : Int)).toNat
          simp only [Int.toNat_natCast]
          exact Nat.sub_lt_sub_left HLT.out.1 (Nat.lt_succ_self i)
        · rw [if_neg c3] at hTT
          have k3 : decide (f3 < 0) = false := decide_eq_false c3
          clear c5 c3 hi3
          go_wp2_with (go_at_call 11; (with_reducible refine HCT.out.mono ?_); rintro e w3 ⟨rfl, hb⟩; have HB3 := Aside0.mk hb; clear hb)
          clear i1 i2
          have hw := sn_wrap i HLT.out.2
          refine ⟨⟨i + 1, _, rfl, by rw [hw], HLT.out.1, HH2, ⟨blk_below HX.out HB3.out⟩, ⟨below_step HB.out HB3.out⟩⟩, ?_⟩
          rw [hw]
          clear hw
          show l.length - (((i + 1 : Nat) : Int)).toNat < l.length - ((i : Int)).toNat
          simp only [Int.toNat_natCast]
          exact Nat.sub_lt_sub_left HLT.out.1 (Nat.lt_succ_self i)
      · rw [if_neg c5] at hTT
        have k5 : (f0 == 5) = false := beq_eq_false_iff_ne.mpr c5
        clear c5 hi3
        go_wp2_with (go_at_call 11; (with_reducible refine HCT.out.mono ?_); rintro e w3 ⟨rfl, hb⟩; have HB3 := Aside0.mk hb; clear hb)
        clear i1 i2
        have hw := sn_wrap i HLT.out.2
        refine ⟨⟨i + 1, _, rfl, by rw [hw], HLT.out.1, HH2, ⟨blk_below HX.out HB3.out⟩, ⟨below_step HB.out HB3.out⟩⟩, ?_⟩
        rw [hw]
        clear hw
        show l.length - (((i + 1 : Nat) : Int)).toNat < l.length - ((i : Int)).toNat
        simp only [Int.toNat_natCast]
        exact Nat.sub_lt_sub_left HLT.out.1 (Nat.lt_succ_self i)
    · obtain rfl : i = l.length := by omega
      have hh := HH.out
      rw [List.drop_length] at hh
      simp only [sizesC, Option.some.injEq] at hh
      subst hh
      have g1 : decide ((l.length : Int) < (l.length : Int)) = false := decide_eq_false (by omega)
      clear HH
      go_wp2
      go_ret
      exact ⟨rfl, HB.out⟩
theorem size_calls : ∀ k, SizeN (sizeC k)
  | 0 => fun x v r w _ h => by simp [sizeC] at h
  | k + 1 => by
    intro x v r w hN h
    obtain ⟨A1, c1, A4, c4, rfl, l1, g1, l4, g4⟩ := hN
    rw [sizeC] at h
    by_cases hf : -9223372036854775808 ≤ x.f2
    · rw [if_pos hf] at h
      exact size_step (sizeC k) (size_calls k) x.f0 A1 _ c1 x.f2 x.f3 A4 c4 x.f4 r w g4 hf h
    · rw [if_neg hf] at h
      cases h
theorem ductusref16_Size.calls (k : Nat) (a0_0 : Int) (A0_1 : Option Addr) (c0_1 : Nat) (l0_1 : List (S52)) (a0_2 : Int) (a0_3 : Int) (A0_4 : Option Addr) (c0_4 : Nat) (l0_4 : List (S25)) (r : Int) (w : World) (hr0_1 : Kd.C k52 w A0_1 l0_1.length l0_1) (hc0_1 : l0_1.length ≤ c0_1) (hr0_4 : Kd.C k25 w A0_4 l0_4.length l0_4) (hc0_4 : l0_4.length ≤ c0_4) (h : ductusref16_Size.f k a0_0 l0_1 a0_2 a0_3 l0_4 = some r) :
    Calls Try.prog 11 #[.agg #[.int .i64 a0_0, .slice A0_1 l0_1.length c0_1, .int .i64 a0_2, .int .i64 a0_3, .slice A0_4 l0_4.length c0_4]] w fun e w' => e = .returned (.int .i64 r) ∧ Below w.heap.size w w' :=
  size_calls k ⟨a0_0, l0_1, a0_2, a0_3, l0_4⟩ _ r w ⟨A0_1, c0_1, A0_4, c0_4, rfl, hc0_1, hr0_1, hc0_4, hr0_4⟩ h
end Go.Proofs.Ytaphbechnjmlgaa.P
namespace Go.Proofs.Ytaphbechnjmlgaa.P
open Go.RowKit Go.Proofs.YtaphbechnjmlgaaW.PrintWords Go.Proofs.YtaphbechnjmlgaaW.PrintLast Go.Proofs.YtaphbechnjmlgaaW.PrintMore
attribute [local go_sem] max2_int min2_int max_two min_two
set_option linter.unusedVariables false
set_option linter.unusedSimpArgs false

-- BY HAND: function 7 (ductuslaw18_alive)

mutual
def ductusref16_Weight.l0 : Nat → Int → Int → Int → Int → List (S52) → Int → Int → List (S25) → Option (Int)
  | 0, _, _, _, _, _, _, _, _ => none
  | k + 1, x1, x5, x6, x196000, x196001, x196002, x196003, x196004 => if x6 < (x196004.length : Int) then (if x5 ≤ 2000 then (if 0 ≤ x6 then ((ductusref16_Weight.f k ((rd_T25 x196004 x6).f0) ((rd_T25 x196004 x6).f1) ((rd_T25 x196004 x6).f2) ((rd_T25 x196004 x6).f3) ((rd_T25 x196004 x6).f4) (wrap64 (x1 + 1))).bind fun t197 => (ductusref16_Weight.l0 k x1 (wrap64 (x5 + t197)) (wrap64 (x6 + 1)) x196000 x196001 x196002 x196003 x196004)) else (none)) else (some x5)) else (some x5)
def ductusref16_Weight.f : Nat → Int → List (S52) → Int → Int → List (S25) → Int → Option (Int)
  | 0, _, _, _, _, _, _ => none
  | k + 1, a0_0, l0_1, a0_2, a0_3, l0_4, a1 => if a1 > 100 then (some 3000) else (ductusref16_Weight.l0 k a1 (wrap64 (1 + (l0_1.length : Int))) 0 a0_0 l0_1 a0_2 a0_3 l0_4)
end
set_option maxHeartbeats 8000000 in
set_option maxRecDepth 100000 in
theorem ductusref16_Weight.calls (k : Nat) : ∀ (a0_0 : Int) (A0_1 : Option Addr) (c0_1 : Nat) (l0_1 : List (S52)) (a0_2 : Int) (a0_3 : Int) (A0_4 : Option Addr) (c0_4 : Nat) (l0_4 : List (S25)) (a1 : Int) (r : Int) (w : World) (hr0_1 : Kd.C k52 w A0_1 l0_1.length l0_1) (hc0_1 : l0_1.length ≤ c0_1) (hr0_4 : Kd.C k25 w A0_4 l0_4.length l0_4) (hc0_4 : l0_4.length ≤ c0_4) (h : ductusref16_Weight.f k a0_0 l0_1 a0_2 a0_3 l0_4 a1 = some r),
    Calls Try.prog 10 #[.agg #[.int .i64 a0_0, .slice A0_1 l0_1.length c0_1, .int .i64 a0_2, .int .i64 a0_3, .slice A0_4 l0_4.length c0_4], .int .i64 a1] w fun e w' => e = .returned (.int .i64 r) ∧ Below w.heap.size w w' := by
  induction k using Nat.strongRecOn with
  | _ k ih =>
  intro a0_0 A0_1 c0_1 l0_1 a0_2 a0_3 A0_4 c0_4 l0_4 a1 r w hr0_1 hc0_1 hr0_4 hc0_4 h
  cases k with
  | zero => exact absurd h (by simp [ductusref16_Weight.f])
  | succ k =>
  simp only [ductusref16_Weight.f] at h
  have hu25 := Try.underlying25
  have HR0_1 := Aside0.mk hr0_1
  have HC0_1 := Aside0.mk hc0_1
  clear hr0_1 hc0_1
  have HR0_4 := Aside0.mk hr0_4
  have HC0_4 := Aside0.mk hc0_4
  clear hr0_4 hc0_4
  have HB := Aside0.mk (Below.refl w.heap.size w)
  have H : (if a1 > 100 then (some 3000) else (ductusref16_Weight.l0 k a1 (wrap64 (1 + (l0_1.length : Int))) 0 a0_0 l0_1 a0_2 a0_3 l0_4)) = some r := h
  clear h
  by_cases c3 : a1 > 100
  · rw [if_pos c3] at H
    have c3b0 : decide (100 < a1) = true := decide_eq_true c3
    clear c3
    obtain rfl := Option.some.inj H
    go_enter Try.func10, Try.ntmps10
    go_wp2_with (first | ((with_reducible refine gate_dst (N := 2) rfl ?_); refine box_event ?hg (N := 2) ?hd (cs := #[.int .i64 a0_0, .slice A0_1 l0_1.length c0_1, .int .i64 a0_2, .int .i64 a0_3, .slice A0_4 l0_4.length c0_4]) (t := 25) ?hr ?_; (case hd => rfl); (case hg => rfl); (case hr => first | (go_simp; done) | (go_simp; rfl)); intro gb195 hg w4 hbox hb; have n0_ := Aside0.mk (below_step (by repeat (first | (with_reducible first | exact HB.out | apply below_alloc | apply pw_below_drewN | apply below_drew1) | exact HB.out)) hb); have n1_ := Aside0.mk (hbox); have n2_ := Aside0.mk ((by rw [hg]; exact (below_size (by repeat (first | (with_reducible first | exact HB.out | apply below_alloc | apply pw_below_drewN | apply below_drew1) | exact HB.out))) : w.heap.size ≤ gb195)); have n3_ := Aside0.mk ((by rw [hg]; exact (below_size (by repeat (first | (with_reducible first | exact HB.out | apply below_alloc | apply pw_below_drewN | apply below_drew1) | exact HB.out))) : w.heap.size ≤ gb195)); clear HB; have HB := n0_; have BK195 := n1_; have GW195 := n2_; have GE195 := n3_; clear n0_ n1_ n2_ n3_; clear hb hbox hg; have hcz5_0 : w4.cell? ⟨gb195, 0, none⟩ = some (.int .i64 a0_0) := (blk_cell BK195.out 0).trans rfl; have hcz5_1 : w4.cell? ⟨gb195, 1, none⟩ = some (.slice A0_1 l0_1.length c0_1) := (blk_cell BK195.out 1).trans rfl; have hcz5_2 : w4.cell? ⟨gb195, 2, none⟩ = some (.int .i64 a0_2) := (blk_cell BK195.out 2).trans rfl; have hcz5_3 : w4.cell? ⟨gb195, 3, none⟩ = some (.int .i64 a0_3) := (blk_cell BK195.out 3).trans rfl; have hcz5_4 : w4.cell? ⟨gb195, 4, none⟩ = some (.slice A0_4 l0_4.length c0_4) := (blk_cell BK195.out 4).trans rfl; have hfz5_0 := blk_frozen BK195.out 0; have hfz5_1 := blk_frozen BK195.out 1; have hfz5_2 := blk_frozen BK195.out 2; have hfz5_3 := blk_frozen BK195.out 3; have hfz5_4 := blk_frozen BK195.out 4))
    go_ret
    exact ⟨by first | rfl | (simp [errW_none, errW_some] <;> rfl) | (simp [*, errW_none, errW_some] <;> rfl), by repeat (first | (with_reducible first | exact HB.out | apply below_alloc | apply pw_below_drewN | apply below_drew1 | refine below_set ?_ GE195.out) | exact HB.out)⟩
  rw [if_neg c3] at H
  have c3b0 : decide (100 < a1) = false := decide_eq_false c3
  clear c3
  have H' := Aside0.mk H
  clear H
  go_enter Try.func10, Try.ntmps10
  go_wp2_with (first | ((with_reducible refine gate_dst (N := 2) rfl ?_); refine box_event ?hg (N := 2) ?hd (cs := #[.int .i64 a0_0, .slice A0_1 l0_1.length c0_1, .int .i64 a0_2, .int .i64 a0_3, .slice A0_4 l0_4.length c0_4]) (t := 25) ?hr ?_; (case hd => rfl); (case hg => rfl); (case hr => first | (go_simp; done) | (go_simp; rfl)); intro gb195 hg w6 hbox hb; have n0_ := Aside0.mk (below_step (by repeat (first | (with_reducible first | exact HB.out | apply below_alloc | apply pw_below_drewN | apply below_drew1) | exact HB.out)) hb); have n1_ := Aside0.mk (hbox); have n2_ := Aside0.mk ((by rw [hg]; exact (below_size (by repeat (first | (with_reducible first | exact HB.out | apply below_alloc | apply pw_below_drewN | apply below_drew1) | exact HB.out))) : w.heap.size ≤ gb195)); have n3_ := Aside0.mk ((by rw [hg]; exact (below_size (by repeat (first | (with_reducible first | exact HB.out | apply below_alloc | apply pw_below_drewN | apply below_drew1) | exact HB.out))) : w.heap.size ≤ gb195)); clear HB; have HB := n0_; have BK195 := n1_; have GW195 := n2_; have GE195 := n3_; clear n0_ n1_ n2_ n3_; clear hb hbox hg; have hcz7_0 : w6.cell? ⟨gb195, 0, none⟩ = some (.int .i64 a0_0) := (blk_cell BK195.out 0).trans rfl; have hcz7_1 : w6.cell? ⟨gb195, 1, none⟩ = some (.slice A0_1 l0_1.length c0_1) := (blk_cell BK195.out 1).trans rfl; have hcz7_2 : w6.cell? ⟨gb195, 2, none⟩ = some (.int .i64 a0_2) := (blk_cell BK195.out 2).trans rfl; have hcz7_3 : w6.cell? ⟨gb195, 3, none⟩ = some (.int .i64 a0_3) := (blk_cell BK195.out 3).trans rfl; have hcz7_4 : w6.cell? ⟨gb195, 4, none⟩ = some (.slice A0_4 l0_4.length c0_4) := (blk_cell BK195.out 4).trans rfl; have hfz7_0 := blk_frozen BK195.out 0; have hfz7_1 := blk_frozen BK195.out 1; have hfz7_2 := blk_frozen BK195.out 2; have hfz7_3 := blk_frozen BK195.out 3; have hfz7_4 := blk_frozen BK195.out 4))
  go_loopg [5, 6] k (fun kq v5 v6 w' => ∃ (x5_1 : Int) (x6_1 : Int), v5 = .int .i64 x5_1 ∧ v6 = .int .i64 x6_1 ∧ Aside0 (ductusref16_Weight.l0 kq a1 x5_1 x6_1 a0_0 l0_1 a0_2 a0_3 l0_4 = some r) ∧ Aside0 (kq ≤ k) ∧ Aside0 (w'.heap[gb195]? = some (.cells #[.int .i64 a0_0, (.slice A0_1 l0_1.length c0_1), .int .i64 a0_2, .int .i64 a0_3, (.slice A0_4 l0_4.length c0_4)] 25 (0, 0))) ∧ Aside0 (Below w.heap.size w w'))
  case atStart => exact ⟨(wrap64 (1 + (l0_1.length : Int))), (0), (by first | rfl | (simp; done) | (simp [*]; done)), (by first | rfl | (simp; done) | (simp [*]; done)), H', ⟨Nat.le_refl _⟩, ⟨by (with_reducible repeat (first | refine blk_drewN ?_ _ | refine blk_drew ?_ | refine blk_alloc ?_ _)); exact BK195.out⟩, ⟨by repeat (first | (with_reducible first | exact HB.out | apply below_alloc | apply pw_below_drewN | apply below_drew1 | refine below_set ?_ GE195.out) | exact HB.out)⟩⟩
  case round =>
    clear H'
    try clear c1
    try clear p2
    try clear c3
    try clear c3b0
    try clear p6
    try clear hcz5_0
    try clear hcz5_1
    try clear hcz5_2
    try clear hcz5_3
    try clear hcz5_4
    try clear hcz7_0
    try clear hcz7_1
    try clear hcz7_2
    try clear hcz7_3
    try clear hcz7_4
    try clear hfz5_0
    try clear hfz5_1
    try clear hfz5_2
    try clear hfz5_3
    try clear hfz5_4
    try clear hfz7_0
    try clear hfz7_1
    try clear hfz7_2
    try clear hfz7_3
    try clear hfz7_4
    obtain ⟨x5_1, x6_1, rfl, rfl, HA, HK1, BK195, HB⟩ := hrel
    cases gk with
    | zero => exact absurd HA.out (by simp [ductusref16_Weight.l0])
    | succ k1 =>
      have H := HA.out
      clear HA
      simp only [ductusref16_Weight.l0] at H
      by_cases c8 : x6_1 < (l0_4.length : Int)
      rotate_left
      · rw [if_neg c8] at H
        have c8b0 : decide (x6_1 < (l0_4.length : Int)) = false := decide_eq_false c8
        clear c8
        obtain rfl := Option.some.inj H
        have hcz15_0 : wr.cell? ⟨gb195, 0, none⟩ = some (.int .i64 a0_0) := (blk_cell BK195.out 0).trans rfl
        have hcz15_1 : wr.cell? ⟨gb195, 1, none⟩ = some (.slice A0_1 l0_1.length c0_1) := (blk_cell BK195.out 1).trans rfl
        have hcz15_2 : wr.cell? ⟨gb195, 2, none⟩ = some (.int .i64 a0_2) := (blk_cell BK195.out 2).trans rfl
        have hcz15_3 : wr.cell? ⟨gb195, 3, none⟩ = some (.int .i64 a0_3) := (blk_cell BK195.out 3).trans rfl
        have hcz15_4 : wr.cell? ⟨gb195, 4, none⟩ = some (.slice A0_4 l0_4.length c0_4) := (blk_cell BK195.out 4).trans rfl
        have hfz15_0 := blk_frozen BK195.out 0
        have hfz15_1 := blk_frozen BK195.out 1
        have hfz15_2 := blk_frozen BK195.out 2
        have hfz15_3 := blk_frozen BK195.out 3
        have hfz15_4 := blk_frozen BK195.out 4
        go_wp2
        go_ret
        exact ⟨by first | rfl | (simp [errW_none, errW_some] <;> rfl) | (simp [*, errW_none, errW_some] <;> rfl), by repeat (first | (with_reducible first | exact HB.out | apply below_alloc | apply pw_below_drewN | apply below_drew1 | refine below_set ?_ GE195.out) | exact HB.out)⟩
      rw [if_pos c8] at H
      have c8b0 : decide (x6_1 < (l0_4.length : Int)) = true := decide_eq_true c8
      clear c8
      by_cases c9 : x5_1 ≤ 2000
      rotate_left
      · rw [if_neg c9] at H
        have c9b0 : decide (x5_1 ≤ 2000) = false := decide_eq_false c9
        clear c9
        obtain rfl := Option.some.inj H
        have hcz14_0 : wr.cell? ⟨gb195, 0, none⟩ = some (.int .i64 a0_0) := (blk_cell BK195.out 0).trans rfl
        have hcz14_1 : wr.cell? ⟨gb195, 1, none⟩ = some (.slice A0_1 l0_1.length c0_1) := (blk_cell BK195.out 1).trans rfl
        have hcz14_2 : wr.cell? ⟨gb195, 2, none⟩ = some (.int .i64 a0_2) := (blk_cell BK195.out 2).trans rfl
        have hcz14_3 : wr.cell? ⟨gb195, 3, none⟩ = some (.int .i64 a0_3) := (blk_cell BK195.out 3).trans rfl
        have hcz14_4 : wr.cell? ⟨gb195, 4, none⟩ = some (.slice A0_4 l0_4.length c0_4) := (blk_cell BK195.out 4).trans rfl
        have hfz14_0 := blk_frozen BK195.out 0
        have hfz14_1 := blk_frozen BK195.out 1
        have hfz14_2 := blk_frozen BK195.out 2
        have hfz14_3 := blk_frozen BK195.out 3
        have hfz14_4 := blk_frozen BK195.out 4
        go_wp2
        go_ret
        exact ⟨by first | rfl | (simp [errW_none, errW_some] <;> rfl) | (simp [*, errW_none, errW_some] <;> rfl), by repeat (first | (with_reducible first | exact HB.out | apply below_alloc | apply pw_below_drewN | apply below_drew1 | refine below_set ?_ GE195.out) | exact HB.out)⟩
      rw [if_pos c9] at H
      have c9b0 : decide (x5_1 ≤ 2000) = true := decide_eq_true c9
      clear c9
      by_cases c10 : 0 ≤ x6_1
      rotate_left
      · rw [if_neg c10] at H
        exact absurd H (by simp)
      rw [if_pos c10] at H
      have c10b0 : decide (0 ≤ x6_1) = true := decide_eq_true c10
      clear c10
      replace H := Option.bind_eq_some_iff.mp H
      obtain ⟨t197, A110, H⟩ := H
      replace H : (ductusref16_Weight.l0 k1 a1 (wrap64 (x5_1 + t197)) (wrap64 (x6_1 + 1)) a0_0 l0_1 a0_2 a0_3 l0_4) = some r := H
      have A11 := Aside0.mk A110
      clear A110
      have H' := Aside0.mk H
      clear H
      have hcz12_0 : wr.cell? ⟨gb195, 0, none⟩ = some (.int .i64 a0_0) := (blk_cell BK195.out 0).trans rfl
      have hcz12_1 : wr.cell? ⟨gb195, 1, none⟩ = some (.slice A0_1 l0_1.length c0_1) := (blk_cell BK195.out 1).trans rfl
      have hcz12_2 : wr.cell? ⟨gb195, 2, none⟩ = some (.int .i64 a0_2) := (blk_cell BK195.out 2).trans rfl
      have hcz12_3 : wr.cell? ⟨gb195, 3, none⟩ = some (.int .i64 a0_3) := (blk_cell BK195.out 3).trans rfl
      have hcz12_4 : wr.cell? ⟨gb195, 4, none⟩ = some (.slice A0_4 l0_4.length c0_4) := (blk_cell BK195.out 4).trans rfl
      have hfz12_0 := blk_frozen BK195.out 0
      have hfz12_1 := blk_frozen BK195.out 1
      have hfz12_2 := blk_frozen BK195.out 2
      have hfz12_3 := blk_frozen BK195.out 3
      have hfz12_4 := blk_frozen BK195.out 4
      have p196 : 0 ≤ (x6_1 : Int) := of_decide_eq_true (by first | (with_reducible assumption) | assumption)
      have q196 : x6_1 < (l0_4.length : Int) := of_decide_eq_true (by first | (with_reducible assumption) | assumption)
      obtain ⟨ad196, A196_1, c196_1, A196_4, c196_4, e196, hx196_0, hx196_1, hx196_2, hx196_3, hx196_4, hl196_1, hi196_1, hl196_4, hi196_4⟩ := at_T25 HR0_4.out x6_1 p196 q196
      cases e196
      replace hx196_0 := (HB.out.cell (World.block_lt_of_cell? w _ hx196_0)).trans hx196_0
      replace hx196_1 := (HB.out.cell (World.block_lt_of_cell? w _ hx196_1)).trans hx196_1
      replace hx196_2 := (HB.out.cell (World.block_lt_of_cell? w _ hx196_2)).trans hx196_2
      replace hx196_3 := (HB.out.cell (World.block_lt_of_cell? w _ hx196_3)).trans hx196_3
      replace hx196_4 := (HB.out.cell (World.block_lt_of_cell? w _ hx196_4)).trans hx196_4
      have HR196_1 := Aside0.mk hi196_1
      have HC196_1 := Aside0.mk hl196_1
      clear hi196_1 hl196_1
      have HR196_4 := Aside0.mk hi196_4
      have HC196_4 := Aside0.mk hl196_4
      clear hi196_4 hl196_4
      replace p196 := eq_true p196
      replace q196 := eq_true q196
      go_wp2_with (first | ((with_reducible refine gate_callee (f := 10) rfl ?_); refine goesL_ (some 32) rfl rfl Try.func10 (by kernel_rfl) rfl #[.agg #[.int .i64 ((rd_T25 l0_4 x6_1).f0), .slice A196_1 ((rd_T25 l0_4 x6_1).f1).length c196_1, .int .i64 ((rd_T25 l0_4 x6_1).f2), .int .i64 ((rd_T25 l0_4 x6_1).f3), .slice A196_4 ((rd_T25 l0_4 x6_1).f4).length c196_4], .int .i64 (wrap64 (a1 + 1))] rfl (by (try simp only [List.map_toArray, List.map_cons, List.map_nil]); first | done | rfl | (simp only [List.length_drop, List.length_take]; rfl)) ?_; (with_reducible refine (ih k1 (by have := HK1.out; omega) ((rd_T25 l0_4 x6_1).f0) _ _ ((rd_T25 l0_4 x6_1).f1) ((rd_T25 l0_4 x6_1).f2) ((rd_T25 l0_4 x6_1).f3) _ _ ((rd_T25 l0_4 x6_1).f4) (wrap64 (a1 + 1)) t197 _ ?side1 ?side2 ?side3 ?side4 A11.out).mono ?_); (case side1 => repeat (first | exact (Kd.C_below HR196_1.out HB.out) | (with_reducible refine Kd.C_alloc ?_ _) | (with_reducible refine Kd.C_drewN ?_ _) | (with_reducible refine Kd.C_drew ?_))); (case side2 => exact HC196_1.out); (case side3 => repeat (first | exact (Kd.C_below HR196_4.out HB.out) | (with_reducible refine Kd.C_alloc ?_ _) | (with_reducible refine Kd.C_drewN ?_ _) | (with_reducible refine Kd.C_drew ?_))); (case side4 => exact HC196_4.out); rintro e w13 ⟨rfl, hb⟩; refine ⟨_, rfl, ?_⟩; have n0_ := Aside0.mk (blk_below (g := gb195) (o := .cells #[.int .i64 a0_0, .slice A0_1 l0_1.length c0_1, .int .i64 a0_2, .int .i64 a0_3, .slice (some ad196) l0_4.length c0_4] 25 (0, 0)) (by (with_reducible repeat (first | refine blk_drewN ?_ _ | refine blk_drew ?_ | refine blk_alloc ?_ _)); exact BK195.out) hb); have n1_ := Aside0.mk (below_step (by repeat (first | (with_reducible first | exact HB.out | apply below_alloc | apply pw_below_drewN | apply below_drew1 | refine below_set ?_ GE195.out) | exact HB.out)) hb); clear BK195; clear HB; have BK195 := n0_; have HB := n1_; clear n0_ n1_; (try clear hb); (try clear hb2); (try clear hk); (try clear hi)))
      go_roundg k1
      case measure => have := HK1.out; omega
      case rel => exact ⟨(wrap64 (x5_1 + t197)), (wrap64 (x6_1 + 1)), (by first | rfl | (simp; done) | (simp [*]; done)), (by first | rfl | (simp; done) | (simp [*]; done)), H', ⟨by have := HK1.out; omega⟩, ⟨by (with_reducible repeat (first | refine blk_drewN ?_ _ | refine blk_drew ?_ | refine blk_alloc ?_ _)); exact BK195.out⟩, ⟨by repeat (first | (with_reducible first | exact HB.out | apply below_alloc | apply pw_below_drewN | apply below_drew1 | refine below_set ?_ GE195.out) | exact HB.out)⟩⟩

end Go.Proofs.Ytaphbechnjmlgaa.P
