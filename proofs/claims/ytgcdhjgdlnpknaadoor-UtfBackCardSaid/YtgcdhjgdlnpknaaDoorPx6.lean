/- Printed by a program of this claim's own over the translation: Lean functions of the Go functions, each with its proof; no condition beyond those written. -/
import Derived.Test.YtgcdhjgdlnpknaaDoorPx0
import Derived.Test.YtgcdhjgdlnpknaaDoorPx1
import Derived.Test.YtgcdhjgdlnpknaaDoorPx2
import Derived.Test.YtgcdhjgdlnpknaaDoorPx3
import Derived.Test.YtgcdhjgdlnpknaaDoorSDecU
namespace Go.Proofs.YtgcdhjgdlnpknaaDoor.P
open Go.RowKit Go.Proofs.YtgcdhjgdlnpknaaDoorW.PrintWords Go.Proofs.YtgcdhjgdlnpknaaDoorW.PrintLast Go.Proofs.YtgcdhjgdlnpknaaDoorW.PrintMore
attribute [local go_sem] max2_int min2_int max_two min_two max_three min_three max_four min_four   -- for this text's walks alone
set_option linter.unusedVariables false
set_option linter.unusedSimpArgs false

/-! ### ductuslaw01_UtfBack: function 5 -/
mutual
def ductuslaw01_UtfBack.j0 : Nat → List Int → List Int → Bool → Option (Bool)
  | 0, _, _, _ => none
  | k + 1, x0, x1, x24 => if x24 = true then (some true) else ((utf_Encode.f k x0).bind fun bt290 => (if bt290.2 = 0 then ((utf_Decode.f k bt290.1).bind fun bt294 => (if bt294.2.2 = 0 then ((ductusref01_Ints.f k bt294.1 x0).bind fun t301 => (if t301 = true then ((utf_Valid.f bt290.1).bind fun t302 => (if t302 = true then ((utf_Offset.f bt294.2.1 (x0.length : Int)).bind fun t303 => (if t303 = (bt290.1.length : Int) then (ductuslaw01_UtfBack.j1 k x1) else (none))) else (none))) else (none))) else (none))) else (ductuslaw01_UtfBack.j1 k x1)))
def ductuslaw01_UtfBack.j1 : Nat → List Int → Option (Bool)
  | 0, _ => none
  | k + 1, x1 => (utf_Decode.f k x1).bind fun bt304 => (if bt304.2.2 = 0 then (if (bt304.2.1.length : Int) = (wrap64 ((bt304.1.length : Int) + 1)) then (if 0 < (bt304.2.1.length : Int) then (if (rd bt304.2.1 0) = 0 then (if 0 ≤ (bt304.1.length : Int) then (if (bt304.1.length : Int) < (bt304.2.1.length : Int) then (ductuslaw01_UtfBack.j2 k bt304.1 bt304.2.1 ((rd bt304.2.1 (bt304.1.length : Int)) != (x1.length : Int))) else (none)) else (none)) else (none)) else (none)) else (none)) else (none))
def ductuslaw01_UtfBack.j2 : Nat → List Int → List Int → Bool → Option (Bool)
  | 0, _, _, _ => none
  | k + 1, x10, x11, x91 => if x91 = true then (none) else (ductuslaw01_UtfBack.l0 k x10 x11 0)
def ductuslaw01_UtfBack.l0 : Nat → List Int → List Int → Int → Option (Bool)
  | 0, _, _, _ => none
  | k + 1, x10, x11, x13 => if x13 < (x10.length : Int) then (if 0 ≤ (wrap64 (x13 + 1)) then (if (wrap64 (x13 + 1)) < (x11.length : Int) then (if 0 ≤ x13 then (if x13 < (x11.length : Int) then ((utf_Right.f k (rd x10 x13)).bind fun t316 => (if t316 = true then ((utf_Size.f k (rd x10 x13)).bind fun t318 => (if (wrap64 ((rd x11 (wrap64 (x13 + 1))) - (rd x11 x13))) = t318 then (ductuslaw01_UtfBack.l0 k x10 x11 (wrap64 (x13 + 1))) else (if (wrap64 ((rd x11 (wrap64 (x13 + 1))) - (rd x11 x13))) = 1 then (if (rd x10 x13) = 65533 then (ductuslaw01_UtfBack.l0 k x10 x11 (wrap64 (x13 + 1))) else (none)) else (none)))) else (none))) else (none)) else (none)) else (none)) else (none)) else (some true)
end
def ductuslaw01_UtfBack.f (k : Nat) (l0 : List Int) (l1 : List Int) : Option (Bool) := (ductuslaw01_alive.f k).bind fun t289 => (if t289 = true then (if (l0.length : Int) > 5000 then (ductuslaw01_UtfBack.j0 k l0 l1 true) else (ductuslaw01_UtfBack.j0 k l0 l1 (decide ((l1.length : Int) > 4000)))) else (none))
theorem ductuslaw01_UtfBack.mono_l : ∀ k, (∀ y0 y1 y2, LeO (ductuslaw01_UtfBack.j0 k y0 y1 y2) (ductuslaw01_UtfBack.j0 (k + 1) y0 y1 y2)) ∧ (∀ y0, LeO (ductuslaw01_UtfBack.j1 k y0) (ductuslaw01_UtfBack.j1 (k + 1) y0)) ∧ (∀ y0 y1 y2, LeO (ductuslaw01_UtfBack.j2 k y0 y1 y2) (ductuslaw01_UtfBack.j2 (k + 1) y0 y1 y2)) ∧ (∀ y0 y1 y2, LeO (ductuslaw01_UtfBack.l0 k y0 y1 y2) (ductuslaw01_UtfBack.l0 (k + 1) y0 y1 y2))
  | 0 => ⟨fun _ _ _ r h => by simp [ductuslaw01_UtfBack.j0] at h, fun _ r h => by simp [ductuslaw01_UtfBack.j1] at h, fun _ _ _ r h => by simp [ductuslaw01_UtfBack.j2] at h, fun _ _ _ r h => by simp [ductuslaw01_UtfBack.l0] at h⟩
  | k + 1 => by
    obtain ⟨ih0, ih1, ih2, ih3⟩ := ductuslaw01_UtfBack.mono_l k
    refine ⟨?_, ?_, ?_, ?_⟩
    · intro y0 y1 y2
      unfold ductuslaw01_UtfBack.j0
      repeat' first
      | (with_reducible exact ih0 _ _ _)
      | (with_reducible exact ih1 _)
      | (with_reducible exact ih2 _ _ _)
      | (with_reducible exact ih3 _ _ _)
      | (with_reducible exact ductuslaw01_alive.mono _)
      | (with_reducible exact ductusref01_Ints.mono _ _ _)
      | (with_reducible exact utf_Decode.mono _ _)
      | (with_reducible exact utf_Encode.mono _ _)
      | (with_reducible exact utf_Right.mono _ _)
      | (with_reducible exact utf_Size.mono _ _)
      | (with_reducible exact LeO.refl _)
      | (with_reducible exact LeO.none _)
      | (with_reducible refine LeO.ite ?_ ?_)
      | (with_reducible refine LeO.bind ?_ (fun _ => ?_))
      | exact ih0 _ _ _
      | exact ih1 _
      | exact ih2 _ _ _
      | exact ih3 _ _ _
      | exact ductuslaw01_alive.mono _
      | exact ductusref01_Ints.mono _ _ _
      | exact utf_Decode.mono _ _
      | exact utf_Encode.mono _ _
      | exact utf_Right.mono _ _
      | exact utf_Size.mono _ _
      | exact LeO.none _
      | refine LeO.ite ?_ ?_
      | refine LeO.bind ?_ (fun _ => ?_)
    · intro y0
      unfold ductuslaw01_UtfBack.j1
      repeat' first
      | (with_reducible exact ih0 _ _ _)
      | (with_reducible exact ih1 _)
      | (with_reducible exact ih2 _ _ _)
      | (with_reducible exact ih3 _ _ _)
      | (with_reducible exact ductuslaw01_alive.mono _)
      | (with_reducible exact ductusref01_Ints.mono _ _ _)
      | (with_reducible exact utf_Decode.mono _ _)
      | (with_reducible exact utf_Encode.mono _ _)
      | (with_reducible exact utf_Right.mono _ _)
      | (with_reducible exact utf_Size.mono _ _)
      | (with_reducible exact LeO.refl _)
      | (with_reducible exact LeO.none _)
      | (with_reducible refine LeO.ite ?_ ?_)
      | (with_reducible refine LeO.bind ?_ (fun _ => ?_))
      | exact ih0 _ _ _
      | exact ih1 _
      | exact ih2 _ _ _
      | exact ih3 _ _ _
      | exact ductuslaw01_alive.mono _
      | exact ductusref01_Ints.mono _ _ _
      | exact utf_Decode.mono _ _
      | exact utf_Encode.mono _ _
      | exact utf_Right.mono _ _
      | exact utf_Size.mono _ _
      | exact LeO.none _
      | refine LeO.ite ?_ ?_
      | refine LeO.bind ?_ (fun _ => ?_)
    · intro y0 y1 y2
      unfold ductuslaw01_UtfBack.j2
      repeat' first
      | (with_reducible exact ih0 _ _ _)
      | (with_reducible exact ih1 _)
      | (with_reducible exact ih2 _ _ _)
      | (with_reducible exact ih3 _ _ _)
      | (with_reducible exact ductuslaw01_alive.mono _)
      | (with_reducible exact ductusref01_Ints.mono _ _ _)
      | (with_reducible exact utf_Decode.mono _ _)
      | (with_reducible exact utf_Encode.mono _ _)
      | (with_reducible exact utf_Right.mono _ _)
      | (with_reducible exact utf_Size.mono _ _)
      | (with_reducible exact LeO.refl _)
      | (with_reducible exact LeO.none _)
      | (with_reducible refine LeO.ite ?_ ?_)
      | (with_reducible refine LeO.bind ?_ (fun _ => ?_))
      | exact ih0 _ _ _
      | exact ih1 _
      | exact ih2 _ _ _
      | exact ih3 _ _ _
      | exact ductuslaw01_alive.mono _
      | exact ductusref01_Ints.mono _ _ _
      | exact utf_Decode.mono _ _
      | exact utf_Encode.mono _ _
      | exact utf_Right.mono _ _
      | exact utf_Size.mono _ _
      | exact LeO.none _
      | refine LeO.ite ?_ ?_
      | refine LeO.bind ?_ (fun _ => ?_)
    · intro y0 y1 y2
      unfold ductuslaw01_UtfBack.l0
      repeat' first
      | (with_reducible exact ih0 _ _ _)
      | (with_reducible exact ih1 _)
      | (with_reducible exact ih2 _ _ _)
      | (with_reducible exact ih3 _ _ _)
      | (with_reducible exact ductuslaw01_alive.mono _)
      | (with_reducible exact ductusref01_Ints.mono _ _ _)
      | (with_reducible exact utf_Decode.mono _ _)
      | (with_reducible exact utf_Encode.mono _ _)
      | (with_reducible exact utf_Right.mono _ _)
      | (with_reducible exact utf_Size.mono _ _)
      | (with_reducible exact LeO.refl _)
      | (with_reducible exact LeO.none _)
      | (with_reducible refine LeO.ite ?_ ?_)
      | (with_reducible refine LeO.bind ?_ (fun _ => ?_))
      | exact ih0 _ _ _
      | exact ih1 _
      | exact ih2 _ _ _
      | exact ih3 _ _ _
      | exact ductuslaw01_alive.mono _
      | exact ductusref01_Ints.mono _ _ _
      | exact utf_Decode.mono _ _
      | exact utf_Encode.mono _ _
      | exact utf_Right.mono _ _
      | exact utf_Size.mono _ _
      | exact LeO.none _
      | refine LeO.ite ?_ ?_
      | refine LeO.bind ?_ (fun _ => ?_)
theorem ductuslaw01_UtfBack.mono : ∀ a0 a1 k, LeO (ductuslaw01_UtfBack.f k a0 a1) (ductuslaw01_UtfBack.f (k + 1) a0 a1) := by
  intro a0 a1 k
  obtain ⟨ih0, ih1, ih2, ih3⟩ := ductuslaw01_UtfBack.mono_l k
  unfold ductuslaw01_UtfBack.f
  repeat' first
      | (with_reducible exact ih0 _ _ _)
      | (with_reducible exact ih1 _)
      | (with_reducible exact ih2 _ _ _)
      | (with_reducible exact ih3 _ _ _)
      | (with_reducible exact ductuslaw01_alive.mono _)
      | (with_reducible exact ductusref01_Ints.mono _ _ _)
      | (with_reducible exact utf_Decode.mono _ _)
      | (with_reducible exact utf_Encode.mono _ _)
      | (with_reducible exact utf_Right.mono _ _)
      | (with_reducible exact utf_Size.mono _ _)
      | (with_reducible exact LeO.refl _)
      | (with_reducible exact LeO.none _)
      | (with_reducible refine LeO.ite ?_ ?_)
      | (with_reducible refine LeO.bind ?_ (fun _ => ?_))
      | exact ih0 _ _ _
      | exact ih1 _
      | exact ih2 _ _ _
      | exact ih3 _ _ _
      | exact ductuslaw01_alive.mono _
      | exact ductusref01_Ints.mono _ _ _
      | exact utf_Decode.mono _ _
      | exact utf_Encode.mono _ _
      | exact utf_Right.mono _ _
      | exact utf_Size.mono _ _
      | exact LeO.none _
      | refine LeO.ite ?_ ?_
      | refine LeO.bind ?_ (fun _ => ?_)
set_option maxHeartbeats 8000000 in
set_option maxRecDepth 100000 in
theorem ductuslaw01_UtfBack.calls (k : Nat) (A0 : Option Addr) (c0 : Nat) (l0 : List Int) (A1 : Option Addr) (c1 : Nat) (l1 : List Int) (r : Bool) (w : World) (hr0 : Kd.C (Kd.int .i64) w A0 l0.length l0) (hc0 : l0.length ≤ c0) (hr1 : Kd.C (Kd.int .u8) w A1 l1.length l1) (hc1 : l1.length ≤ c1) (h : ductuslaw01_UtfBack.f k l0 l1 = some r) (hL : U8At w) :
    Calls Tryd.prog 5 #[.slice A0 l0.length c0, .slice A1 l1.length c1] w fun e w' => e = .returned (.bool r) ∧ Below w.heap.size w w' := by
  have HR0 := Aside0.mk hr0
  have HC0 := Aside0.mk hc0
  clear hr0 hc0
  have HR1 := Aside0.mk hr1
  have HC1 := Aside0.mk hc1
  clear hr1 hc1
  have HB := Aside0.mk (Below.refl w.heap.size w)
  have H : ((ductuslaw01_alive.f k).bind fun t289 => (if t289 = true then (if (l0.length : Int) > 5000 then (ductuslaw01_UtfBack.j0 k l0 l1 true) else (ductuslaw01_UtfBack.j0 k l0 l1 (decide ((l1.length : Int) > 4000)))) else (none))) = some r := h
  clear h
  replace H := Option.bind_eq_some_iff.mp H
  obtain ⟨t289, A30, H⟩ := H
  replace H : (if t289 = true then (if (l0.length : Int) > 5000 then (ductuslaw01_UtfBack.j0 k l0 l1 true) else (ductuslaw01_UtfBack.j0 k l0 l1 (decide ((l1.length : Int) > 4000)))) else (none)) = some r := H
  have A3 := Aside0.mk A30
  clear A30
  by_cases c4 : t289 = true
  rotate_left
  · replace c4 := Bool.eq_false_iff.mpr c4
    subst c4
    have H1 : (none) = some r := by rw [if_neg (show ¬ (false = true) by decide)] at H; exact H
    clear H
    have H := H1
    clear H1
    exact absurd H (by simp)
  subst c4
  have H1 : (if (l0.length : Int) > 5000 then (ductuslaw01_UtfBack.j0 k l0 l1 true) else (ductuslaw01_UtfBack.j0 k l0 l1 (decide ((l1.length : Int) > 4000)))) = some r := by rw [if_pos rfl] at H; exact H
  clear H
  have H := H1
  clear H1
  have HC5 := Aside0.mk H
  clear H
  go_enter Tryd.func5, Tryd.ntmps5
  go_upto_region 3 with (first | (go_at_call 8; (with_reducible refine (ductuslaw01_alive.calls k  true _ A3.out ?sideL).mono ?_); (case sideL => exact hL.at (by first | exact Below.refl _ _ | (repeat (first | (with_reducible first | exact HB.out | apply below_alloc | apply pw_below_drewN | apply below_drew1) | exact HB.out | exact Below.refl _ _)))); rintro e w6 ⟨rfl, hb⟩; have n0_ := Aside0.mk (below_step (by repeat (first | (with_reducible first | exact HB.out | apply below_alloc | apply pw_below_drewN | apply below_drew1) | exact HB.out)) hb); clear HB; have HB := n0_; clear n0_; (try clear hb); (try clear hb2); (try clear hk); (try clear hi)))
  repeat (go_quiet (first | (go_at_call 8; (with_reducible refine (ductuslaw01_alive.calls k  true _ A3.out ?sideL).mono ?_); (case sideL => exact hL.at (by first | exact Below.refl _ _ | (repeat (first | (with_reducible first | exact HB.out | apply below_alloc | apply pw_below_drewN | apply below_drew1) | exact HB.out | exact Below.refl _ _)))); rintro e w6 ⟨rfl, hb⟩; have n0_ := Aside0.mk (below_step (by repeat (first | (with_reducible first | exact HB.out | apply below_alloc | apply pw_below_drewN | apply below_drew1) | exact HB.out)) hb); clear HB; have HB := n0_; clear n0_; (try clear hb); (try clear hb2); (try clear hk); (try clear hi))); go_upto_region 3 with (first | (go_at_call 8; (with_reducible refine (ductuslaw01_alive.calls k  true _ A3.out ?sideL).mono ?_); (case sideL => exact hL.at (by first | exact Below.refl _ _ | (repeat (first | (with_reducible first | exact HB.out | apply below_alloc | apply pw_below_drewN | apply below_drew1) | exact HB.out | exact Below.refl _ _)))); rintro e w6 ⟨rfl, hb⟩; have n0_ := Aside0.mk (below_step (by repeat (first | (with_reducible first | exact HB.out | apply below_alloc | apply pw_below_drewN | apply below_drew1) | exact HB.out)) hb); clear HB; have HB := n0_; clear n0_; (try clear hb); (try clear hb2); (try clear hk); (try clear hi))))
  (try simp only [Act.put, List.setIfInBounds_toArray, List.set_cons_zero, List.set_cons_succ])
  go_cut [24] (fun v24 wc => ∃ (kq : Nat) (x24_4 : Bool), v24 = .bool x24_4 ∧ Aside0 (ductuslaw01_UtfBack.j0 kq l0 l1 x24_4 = some r) ∧ Aside0 (kq ≤ k) ∧ Aside0 (Below w.heap.size w wc))
  case first =>
    have H := HC5.out
    clear HC5
    by_cases c7 : (l0.length : Int) > 5000
    · rw [if_pos c7] at H
      have c7b0 : decide (5000 < (l0.length : Int)) = true := decide_eq_true c7
      have c7b1 : decide (5000 < l0.length) = true := decide_eq_true (by omega)
      clear c7
      (first | rw [c7b0] | (simp only [i64_w, i32_w]; rw [c7b0]) | skip)
      have H' := Aside0.mk H
      clear H
      go_wp2
      repeat (go_quiet (fail); try go_wp2)
      go_meet
      case rel => exact ⟨_, (true), (by first | rfl | (simp; done) | (simp [*]; done)), H', ⟨by first | omega | exact Nat.le_refl _⟩, ⟨by repeat (first | (with_reducible first | exact HB.out | apply below_alloc | apply pw_below_drewN | apply below_drew1) | exact HB.out)⟩⟩
    rw [if_neg c7] at H
    have c7b0 : decide (5000 < (l0.length : Int)) = false := decide_eq_false c7
    have c7b1 : decide (5000 < l0.length) = false := decide_eq_false (by omega)
    clear c7
    (first | rw [c7b0] | (simp only [i64_w, i32_w]; rw [c7b0]) | skip)
    have H' := Aside0.mk H
    clear H
    go_wp2
    repeat (go_quiet (fail); try go_wp2)
    go_meet
    case rel => exact ⟨_, (decide ((l1.length : Int) > 4000)), (by first | rfl | (simp; done) | (simp [*]; done)), H', ⟨by first | omega | exact Nat.le_refl _⟩, ⟨by repeat (first | (with_reducible first | exact HB.out | apply below_alloc | apply pw_below_drewN | apply below_drew1) | exact HB.out)⟩⟩
  case rest =>
    clear HC5
    try clear c1
    try clear p2
    try clear c4
    try clear c5
    try clear c7
    try clear c7b0
    try clear c7b1
    obtain ⟨kq, x24_4, rfl, HA, HJ4, HB⟩ := hcut
    cases kq with
    | zero => exact absurd HA.out (by simp [ductuslaw01_UtfBack.j0])
    | succ kj4 =>
      have H := HA.out
      clear HA
      simp only [ductuslaw01_UtfBack.j0] at H
      by_cases c8 : x24_4 = true
      · subst c8
        have H1 : (some true) = some r := by rw [if_pos rfl] at H; exact H
        clear H
        have H := H1
        clear H1
        obtain rfl := Option.some.inj H
        go_wp2
        repeat (go_quiet (fail); try go_wp2)
        go_ret
        exact ⟨by first | rfl | (simp [errW_none, errW_some] <;> rfl) | (simp [*, errW_none, errW_some] <;> rfl), by repeat (first | (with_reducible first | exact HB.out | apply below_alloc | apply pw_below_drewN | apply below_drew1) | exact HB.out)⟩
      replace c8 := Bool.eq_false_iff.mpr c8
      subst c8
      have H1 : ((utf_Encode.f kj4 l0).bind fun bt290 => (if bt290.2 = 0 then ((utf_Decode.f kj4 bt290.1).bind fun bt294 => (if bt294.2.2 = 0 then ((ductusref01_Ints.f kj4 bt294.1 l0).bind fun t301 => (if t301 = true then ((utf_Valid.f bt290.1).bind fun t302 => (if t302 = true then ((utf_Offset.f bt294.2.1 (l0.length : Int)).bind fun t303 => (if t303 = (bt290.1.length : Int) then (ductuslaw01_UtfBack.j1 kj4 l1) else (none))) else (none))) else (none))) else (none))) else (ductuslaw01_UtfBack.j1 kj4 l1))) = some r := by rw [if_neg (show ¬ (false = true) by decide)] at H; exact H
      clear H
      have H := H1
      clear H1
      replace H := Option.bind_eq_some_iff.mp H
      obtain ⟨⟨t290, t291⟩, A90, H⟩ := H
      replace H : (if t291 = 0 then ((utf_Decode.f kj4 t290).bind fun bt294 => (if bt294.2.2 = 0 then ((ductusref01_Ints.f kj4 bt294.1 l0).bind fun t301 => (if t301 = true then ((utf_Valid.f t290).bind fun t302 => (if t302 = true then ((utf_Offset.f bt294.2.1 (l0.length : Int)).bind fun t303 => (if t303 = (t290.length : Int) then (ductuslaw01_UtfBack.j1 kj4 l1) else (none))) else (none))) else (none))) else (none))) else (ductuslaw01_UtfBack.j1 kj4 l1)) = some r := H
      have A9 := Aside0.mk A90
      clear A90
      have HC10 := Aside0.mk H
      clear H
      go_upto_if 31 with (first | (go_at_call 16; (with_reducible refine (utf_Encode.calls kj4 _ _ l0 t290 t291 _ ?side1 ?side2 A9.out).mono ?_); (case side1 => repeat (first | exact (Kd.C_below HR0.out HB.out) | (with_reducible refine Kd.C_alloc ?_ _) | (with_reducible refine Kd.C_drewN ?_ _) | (with_reducible refine Kd.C_drew ?_))); (case side2 => exact HC0.out); rintro e w11 ⟨v292, rfl, ho0, hb⟩; have n0_ := Aside0.mk (Kd.R_lower ho0 (below_size (by repeat (first | (with_reducible first | exact HB.out | apply below_alloc | apply pw_below_drewN | apply below_drew1) | exact HB.out)))); have n1_ := Aside0.mk (below_step (by repeat (first | (with_reducible first | exact HB.out | apply below_alloc | apply pw_below_drewN | apply below_drew1) | exact HB.out)) hb); clear HB; have HO293 := n0_; have HB := n1_; clear n0_ n1_; (try clear hb); (try clear hb2); (try clear hk); (try clear hi); (try clear ho0)))
      repeat (go_quiet (first | (go_at_call 16; (with_reducible refine (utf_Encode.calls kj4 _ _ l0 t290 t291 _ ?side1 ?side2 A9.out).mono ?_); (case side1 => repeat (first | exact (Kd.C_below HR0.out HB.out) | (with_reducible refine Kd.C_alloc ?_ _) | (with_reducible refine Kd.C_drewN ?_ _) | (with_reducible refine Kd.C_drew ?_))); (case side2 => exact HC0.out); rintro e w11 ⟨v292, rfl, ho0, hb⟩; have n0_ := Aside0.mk (Kd.R_lower ho0 (below_size (by repeat (first | (with_reducible first | exact HB.out | apply below_alloc | apply pw_below_drewN | apply below_drew1) | exact HB.out)))); have n1_ := Aside0.mk (below_step (by repeat (first | (with_reducible first | exact HB.out | apply below_alloc | apply pw_below_drewN | apply below_drew1) | exact HB.out)) hb); clear HB; have HO293 := n0_; have HB := n1_; clear n0_ n1_; (try clear hb); (try clear hb2); (try clear hk); (try clear hi); (try clear ho0))); go_upto_if 31 with (first | (go_at_call 16; (with_reducible refine (utf_Encode.calls kj4 _ _ l0 t290 t291 _ ?side1 ?side2 A9.out).mono ?_); (case side1 => repeat (first | exact (Kd.C_below HR0.out HB.out) | (with_reducible refine Kd.C_alloc ?_ _) | (with_reducible refine Kd.C_drewN ?_ _) | (with_reducible refine Kd.C_drew ?_))); (case side2 => exact HC0.out); rintro e w11 ⟨v292, rfl, ho0, hb⟩; have n0_ := Aside0.mk (Kd.R_lower ho0 (below_size (by repeat (first | (with_reducible first | exact HB.out | apply below_alloc | apply pw_below_drewN | apply below_drew1) | exact HB.out)))); have n1_ := Aside0.mk (below_step (by repeat (first | (with_reducible first | exact HB.out | apply below_alloc | apply pw_below_drewN | apply below_drew1) | exact HB.out)) hb); clear HB; have HO293 := n0_; have HB := n1_; clear n0_ n1_; (try clear hb); (try clear hb2); (try clear hk); (try clear hi); (try clear ho0))))
      (try simp only [Act.put, List.setIfInBounds_toArray, List.set_cons_zero, List.set_cons_succ])
      go_cut [] (fun wc => ∃ (kq : Nat), Aside0 (ductuslaw01_UtfBack.j1 kq l1 = some r) ∧ Aside0 (kq ≤ kj4) ∧ Aside0 (Below w.heap.size w wc))
      case first =>
        have H := HC10.out
        clear HC10
        by_cases c12 : t291 = 0
        rotate_left
        · rw [if_neg c12] at H
          have c12b0 : (t291 == 0) = false := beq_eq_false_iff_ne.mpr c12
          have c12b1 : (t291 != 0) = true := bne_iff_ne.mpr c12
          (first | rw [c12b0] | (simp only [i64_w, i32_w]; rw [c12b0]) | skip)
          have H' := Aside0.mk H
          clear H
          go_wp2
          repeat (go_quiet (fail); try go_wp2)
          go_meet
          case rel => exact ⟨_, H', ⟨by have := HJ4.out; first | omega | exact Nat.le_refl _⟩, ⟨by repeat (first | (with_reducible first | exact HB.out | apply below_alloc | apply pw_below_drewN | apply below_drew1) | exact HB.out)⟩⟩
        rw [if_pos c12] at H
        have c12b0 : (t291 == 0) = true := beq_iff_eq.mpr c12
        have c12b1 : (t291 != 0) = false := bne_eq_false_iff_eq.mpr c12
        clear c12
        (first | rw [c12b0] | (simp only [i64_w, i32_w]; rw [c12b0]) | skip)
        replace H := Option.bind_eq_some_iff.mp H
        obtain ⟨⟨t294, t295, t296⟩, A130, H⟩ := H
        replace H : (if t296 = 0 then ((ductusref01_Ints.f kj4 t294 l0).bind fun t301 => (if t301 = true then ((utf_Valid.f t290).bind fun t302 => (if t302 = true then ((utf_Offset.f t295 (l0.length : Int)).bind fun t303 => (if t303 = (t290.length : Int) then (ductuslaw01_UtfBack.j1 kj4 l1) else (none))) else (none))) else (none))) else (none)) = some r := H
        have A13 := Aside0.mk A130
        clear A130
        by_cases c14 : t296 = 0
        rotate_left
        · rw [if_neg c14] at H
          exact absurd H (by simp)
        rw [if_pos c14] at H
        have c14b0 : (t296 == 0) = true := beq_iff_eq.mpr c14
        have c14b1 : (t296 != 0) = false := bne_eq_false_iff_eq.mpr c14
        clear c14
        replace H := Option.bind_eq_some_iff.mp H
        obtain ⟨t301, A150, H⟩ := H
        replace H : (if t301 = true then ((utf_Valid.f t290).bind fun t302 => (if t302 = true then ((utf_Offset.f t295 (l0.length : Int)).bind fun t303 => (if t303 = (t290.length : Int) then (ductuslaw01_UtfBack.j1 kj4 l1) else (none))) else (none))) else (none)) = some r := H
        have A15 := Aside0.mk A150
        clear A150
        by_cases c16 : t301 = true
        rotate_left
        · replace c16 := Bool.eq_false_iff.mpr c16
          subst c16
          have H1 : (none) = some r := by rw [if_neg (show ¬ (false = true) by decide)] at H; exact H
          clear H
          have H := H1
          clear H1
          exact absurd H (by simp)
        subst c16
        have H1 : ((utf_Valid.f t290).bind fun t302 => (if t302 = true then ((utf_Offset.f t295 (l0.length : Int)).bind fun t303 => (if t303 = (t290.length : Int) then (ductuslaw01_UtfBack.j1 kj4 l1) else (none))) else (none))) = some r := by rw [if_pos rfl] at H; exact H
        clear H
        have H := H1
        clear H1
        replace H := Option.bind_eq_some_iff.mp H
        obtain ⟨t302, A170, H⟩ := H
        replace H : (if t302 = true then ((utf_Offset.f t295 (l0.length : Int)).bind fun t303 => (if t303 = (t290.length : Int) then (ductuslaw01_UtfBack.j1 kj4 l1) else (none))) else (none)) = some r := H
        have A17 := Aside0.mk A170
        clear A170
        by_cases c18 : t302 = true
        rotate_left
        · replace c18 := Bool.eq_false_iff.mpr c18
          subst c18
          have H1 : (none) = some r := by rw [if_neg (show ¬ (false = true) by decide)] at H; exact H
          clear H
          have H := H1
          clear H1
          exact absurd H (by simp)
        subst c18
        have H1 : ((utf_Offset.f t295 (l0.length : Int)).bind fun t303 => (if t303 = (t290.length : Int) then (ductuslaw01_UtfBack.j1 kj4 l1) else (none))) = some r := by rw [if_pos rfl] at H; exact H
        clear H
        have H := H1
        clear H1
        replace H := Option.bind_eq_some_iff.mp H
        obtain ⟨t303, A190, H⟩ := H
        replace H : (if t303 = (t290.length : Int) then (ductuslaw01_UtfBack.j1 kj4 l1) else (none)) = some r := H
        have A19 := Aside0.mk A190
        clear A190
        by_cases c20 : t303 = (t290.length : Int)
        rotate_left
        · rw [if_neg c20] at H
          exact absurd H (by simp)
        rw [if_pos c20] at H
        have c20b0 : (t303 == (t290.length : Int)) = true := beq_iff_eq.mpr c20
        have c20b1 : (t303 != (t290.length : Int)) = false := bne_eq_false_iff_eq.mpr c20
        clear c20
        have H' := Aside0.mk H
        clear H
        obtain ⟨Ao21, co21, eo21⟩ := Kd.R_slice HO293.out
        subst eo21
        go_wp2_with (first | (go_at_call 9; (with_reducible refine (utf_Decode.calls kj4 _ _ t290 t294 t295 t296 _ ?side1 ?side2 A13.out).mono ?_); (case side1 => repeat (first | exact (Kd.R_reads' HO293.out).2.2 | (with_reducible refine Kd.C_alloc ?_ _) | (with_reducible refine Kd.C_drewN ?_ _) | (with_reducible refine Kd.C_drew ?_))); (case side2 => exact (Kd.R_reads' HO293.out).2.1); rintro e w22 ⟨v297, v299, rfl, ho0, ho1, hb⟩; have n0_ := Aside0.mk (Kd.R_below (by (with_reducible repeat (first | apply Kd.R_alloc | apply Kd.R_drewN | apply Kd.R_drew)); exact HO293.out) hb); have n1_ := Aside0.mk (Kd.R_lower ho0 (below_size (by repeat (first | (with_reducible first | exact HB.out | apply below_alloc | apply pw_below_drewN | apply below_drew1) | exact HB.out)))); have n2_ := Aside0.mk (Kd.R_lower ho1 (below_size (by repeat (first | (with_reducible first | exact HB.out | apply below_alloc | apply pw_below_drewN | apply below_drew1) | exact HB.out)))); have n3_ := Aside0.mk (below_step (by repeat (first | (with_reducible first | exact HB.out | apply below_alloc | apply pw_below_drewN | apply below_drew1) | exact HB.out)) hb); clear HO293; clear HB; have HO293 := n0_; have HO298 := n1_; have HO300 := n2_; have HB := n3_; clear n0_ n1_ n2_ n3_; (try clear hb); (try clear hb2); (try clear hk); (try clear hi); (try clear ho0); (try clear ho1); obtain ⟨Ao23, co23, eo23⟩ := Kd.R_slice HO298.out; subst eo23) | (go_at_call 11; (with_reducible refine (ductusref01_Ints.calls kj4 _ _ t294 _ _ l0 true _ ?side1 ?side2 ?side3 ?side4 A15.out).mono ?_); (case side1 => repeat (first | exact (Kd.R_reads' HO298.out).2.2 | (with_reducible refine Kd.C_alloc ?_ _) | (with_reducible refine Kd.C_drewN ?_ _) | (with_reducible refine Kd.C_drew ?_))); (case side2 => exact (Kd.R_reads' HO298.out).2.1); (case side3 => repeat (first | exact (Kd.C_below HR0.out HB.out) | (with_reducible refine Kd.C_alloc ?_ _) | (with_reducible refine Kd.C_drewN ?_ _) | (with_reducible refine Kd.C_drew ?_))); (case side4 => exact HC0.out); rintro e w' ⟨rfl, ⟨nd, rfl⟩⟩; (try first | exact ⟨rfl, _, World.drewN_drewN _ _ _⟩ | exact ⟨rfl, _, Eq.trans (World.drewN_drewN _ _ _) (congrArg (World.drewN _) (Nat.add_assoc _ _ _))⟩)) | (go_at_call 12; (with_reducible refine (utf_Valid.calls _ _ t290 true _ ?side1 ?side2 A17.out ?sideL).mono ?_); (case sideL => exact hL.at (by first | exact Below.refl _ _ | (repeat (first | (with_reducible first | exact HB.out | apply below_alloc | apply pw_below_drewN | apply below_drew1) | exact HB.out | exact Below.refl _ _)))); (case side1 => repeat (first | exact (Kd.R_reads' HO293.out).2.2 | (with_reducible refine Kd.C_alloc ?_ _) | (with_reducible refine Kd.C_drewN ?_ _) | (with_reducible refine Kd.C_drew ?_))); (case side2 => exact (Kd.R_reads' HO293.out).2.1); rintro e w24 ⟨rfl, hb⟩; have n0_ := Aside0.mk (Kd.R_below (by (with_reducible repeat (first | apply Kd.R_alloc | apply Kd.R_drewN | apply Kd.R_drew)); exact HO293.out) hb); have n1_ := Aside0.mk (Kd.R_below (by (with_reducible repeat (first | apply Kd.R_alloc | apply Kd.R_drewN | apply Kd.R_drew)); exact HO298.out) hb); have n2_ := Aside0.mk (Kd.R_below (by (with_reducible repeat (first | apply Kd.R_alloc | apply Kd.R_drewN | apply Kd.R_drew)); exact HO300.out) hb); have n3_ := Aside0.mk (below_step (by repeat (first | (with_reducible first | exact HB.out | apply below_alloc | apply pw_below_drewN | apply below_drew1) | exact HB.out)) hb); clear HO293; clear HO298; clear HO300; clear HB; have HO293 := n0_; have HO298 := n1_; have HO300 := n2_; have HB := n3_; clear n0_ n1_ n2_ n3_; (try clear hb); (try clear hb2); (try clear hk); (try clear hi); obtain ⟨Ao25, co25, eo25⟩ := Kd.R_slice HO300.out; subst eo25) | (go_at_call 14; (with_reducible refine (utf_Offset.calls _ _ t295 (l0.length : Int) t303 _ ?side1 ?side2 A19.out).mono ?_); (case side1 => repeat (first | exact (Kd.R_reads' HO300.out).2.2 | (with_reducible refine Kd.C_alloc ?_ _) | (with_reducible refine Kd.C_drewN ?_ _) | (with_reducible refine Kd.C_drew ?_))); (case side2 => exact (Kd.R_reads' HO300.out).2.1); rintro e w' ⟨rfl, ⟨nd, rfl⟩⟩; (try first | exact ⟨rfl, _, World.drewN_drewN _ _ _⟩ | exact ⟨rfl, _, Eq.trans (World.drewN_drewN _ _ _) (congrArg (World.drewN _) (Nat.add_assoc _ _ _))⟩)))
        repeat (go_quiet (first | (go_at_call 9; (with_reducible refine (utf_Decode.calls kj4 _ _ t290 t294 t295 t296 _ ?side1 ?side2 A13.out).mono ?_); (case side1 => repeat (first | exact (Kd.R_reads' HO293.out).2.2 | (with_reducible refine Kd.C_alloc ?_ _) | (with_reducible refine Kd.C_drewN ?_ _) | (with_reducible refine Kd.C_drew ?_))); (case side2 => exact (Kd.R_reads' HO293.out).2.1); rintro e w22 ⟨v297, v299, rfl, ho0, ho1, hb⟩; have n0_ := Aside0.mk (Kd.R_below (by (with_reducible repeat (first | apply Kd.R_alloc | apply Kd.R_drewN | apply Kd.R_drew)); exact HO293.out) hb); have n1_ := Aside0.mk (Kd.R_lower ho0 (below_size (by repeat (first | (with_reducible first | exact HB.out | apply below_alloc | apply pw_below_drewN | apply below_drew1) | exact HB.out)))); have n2_ := Aside0.mk (Kd.R_lower ho1 (below_size (by repeat (first | (with_reducible first | exact HB.out | apply below_alloc | apply pw_below_drewN | apply below_drew1) | exact HB.out)))); have n3_ := Aside0.mk (below_step (by repeat (first | (with_reducible first | exact HB.out | apply below_alloc | apply pw_below_drewN | apply below_drew1) | exact HB.out)) hb); clear HO293; clear HB; have HO293 := n0_; have HO298 := n1_; have HO300 := n2_; have HB := n3_; clear n0_ n1_ n2_ n3_; (try clear hb); (try clear hb2); (try clear hk); (try clear hi); (try clear ho0); (try clear ho1); obtain ⟨Ao23, co23, eo23⟩ := Kd.R_slice HO298.out; subst eo23) | (go_at_call 11; (with_reducible refine (ductusref01_Ints.calls kj4 _ _ t294 _ _ l0 true _ ?side1 ?side2 ?side3 ?side4 A15.out).mono ?_); (case side1 => repeat (first | exact (Kd.R_reads' HO298.out).2.2 | (with_reducible refine Kd.C_alloc ?_ _) | (with_reducible refine Kd.C_drewN ?_ _) | (with_reducible refine Kd.C_drew ?_))); (case side2 => exact (Kd.R_reads' HO298.out).2.1); (case side3 => repeat (first | exact (Kd.C_below HR0.out HB.out) | (with_reducible refine Kd.C_alloc ?_ _) | (with_reducible refine Kd.C_drewN ?_ _) | (with_reducible refine Kd.C_drew ?_))); (case side4 => exact HC0.out); rintro e w' ⟨rfl, ⟨nd, rfl⟩⟩; (try first | exact ⟨rfl, _, World.drewN_drewN _ _ _⟩ | exact ⟨rfl, _, Eq.trans (World.drewN_drewN _ _ _) (congrArg (World.drewN _) (Nat.add_assoc _ _ _))⟩)) | (go_at_call 12; (with_reducible refine (utf_Valid.calls _ _ t290 true _ ?side1 ?side2 A17.out ?sideL).mono ?_); (case sideL => exact hL.at (by first | exact Below.refl _ _ | (repeat (first | (with_reducible first | exact HB.out | apply below_alloc | apply pw_below_drewN | apply below_drew1) | exact HB.out | exact Below.refl _ _)))); (case side1 => repeat (first | exact (Kd.R_reads' HO293.out).2.2 | (with_reducible refine Kd.C_alloc ?_ _) | (with_reducible refine Kd.C_drewN ?_ _) | (with_reducible refine Kd.C_drew ?_))); (case side2 => exact (Kd.R_reads' HO293.out).2.1); rintro e w24 ⟨rfl, hb⟩; have n0_ := Aside0.mk (Kd.R_below (by (with_reducible repeat (first | apply Kd.R_alloc | apply Kd.R_drewN | apply Kd.R_drew)); exact HO293.out) hb); have n1_ := Aside0.mk (Kd.R_below (by (with_reducible repeat (first | apply Kd.R_alloc | apply Kd.R_drewN | apply Kd.R_drew)); exact HO298.out) hb); have n2_ := Aside0.mk (Kd.R_below (by (with_reducible repeat (first | apply Kd.R_alloc | apply Kd.R_drewN | apply Kd.R_drew)); exact HO300.out) hb); have n3_ := Aside0.mk (below_step (by repeat (first | (with_reducible first | exact HB.out | apply below_alloc | apply pw_below_drewN | apply below_drew1) | exact HB.out)) hb); clear HO293; clear HO298; clear HO300; clear HB; have HO293 := n0_; have HO298 := n1_; have HO300 := n2_; have HB := n3_; clear n0_ n1_ n2_ n3_; (try clear hb); (try clear hb2); (try clear hk); (try clear hi); obtain ⟨Ao25, co25, eo25⟩ := Kd.R_slice HO300.out; subst eo25) | (go_at_call 14; (with_reducible refine (utf_Offset.calls _ _ t295 (l0.length : Int) t303 _ ?side1 ?side2 A19.out).mono ?_); (case side1 => repeat (first | exact (Kd.R_reads' HO300.out).2.2 | (with_reducible refine Kd.C_alloc ?_ _) | (with_reducible refine Kd.C_drewN ?_ _) | (with_reducible refine Kd.C_drew ?_))); (case side2 => exact (Kd.R_reads' HO300.out).2.1); rintro e w' ⟨rfl, ⟨nd, rfl⟩⟩; (try first | exact ⟨rfl, _, World.drewN_drewN _ _ _⟩ | exact ⟨rfl, _, Eq.trans (World.drewN_drewN _ _ _) (congrArg (World.drewN _) (Nat.add_assoc _ _ _))⟩))); try go_wp2_with (first | (go_at_call 9; (with_reducible refine (utf_Decode.calls kj4 _ _ t290 t294 t295 t296 _ ?side1 ?side2 A13.out).mono ?_); (case side1 => repeat (first | exact (Kd.R_reads' HO293.out).2.2 | (with_reducible refine Kd.C_alloc ?_ _) | (with_reducible refine Kd.C_drewN ?_ _) | (with_reducible refine Kd.C_drew ?_))); (case side2 => exact (Kd.R_reads' HO293.out).2.1); rintro e w22 ⟨v297, v299, rfl, ho0, ho1, hb⟩; have n0_ := Aside0.mk (Kd.R_below (by (with_reducible repeat (first | apply Kd.R_alloc | apply Kd.R_drewN | apply Kd.R_drew)); exact HO293.out) hb); have n1_ := Aside0.mk (Kd.R_lower ho0 (below_size (by repeat (first | (with_reducible first | exact HB.out | apply below_alloc | apply pw_below_drewN | apply below_drew1) | exact HB.out)))); have n2_ := Aside0.mk (Kd.R_lower ho1 (below_size (by repeat (first | (with_reducible first | exact HB.out | apply below_alloc | apply pw_below_drewN | apply below_drew1) | exact HB.out)))); have n3_ := Aside0.mk (below_step (by repeat (first | (with_reducible first | exact HB.out | apply below_alloc | apply pw_below_drewN | apply below_drew1) | exact HB.out)) hb); clear HO293; clear HB; have HO293 := n0_; have HO298 := n1_; have HO300 := n2_; have HB := n3_; clear n0_ n1_ n2_ n3_; (try clear hb); (try clear hb2); (try clear hk); (try clear hi); (try clear ho0); (try clear ho1); obtain ⟨Ao23, co23, eo23⟩ := Kd.R_slice HO298.out; subst eo23) | (go_at_call 11; (with_reducible refine (ductusref01_Ints.calls kj4 _ _ t294 _ _ l0 true _ ?side1 ?side2 ?side3 ?side4 A15.out).mono ?_); (case side1 => repeat (first | exact (Kd.R_reads' HO298.out).2.2 | (with_reducible refine Kd.C_alloc ?_ _) | (with_reducible refine Kd.C_drewN ?_ _) | (with_reducible refine Kd.C_drew ?_))); (case side2 => exact (Kd.R_reads' HO298.out).2.1); (case side3 => repeat (first | exact (Kd.C_below HR0.out HB.out) | (with_reducible refine Kd.C_alloc ?_ _) | (with_reducible refine Kd.C_drewN ?_ _) | (with_reducible refine Kd.C_drew ?_))); (case side4 => exact HC0.out); rintro e w' ⟨rfl, ⟨nd, rfl⟩⟩; (try first | exact ⟨rfl, _, World.drewN_drewN _ _ _⟩ | exact ⟨rfl, _, Eq.trans (World.drewN_drewN _ _ _) (congrArg (World.drewN _) (Nat.add_assoc _ _ _))⟩)) | (go_at_call 12; (with_reducible refine (utf_Valid.calls _ _ t290 true _ ?side1 ?side2 A17.out ?sideL).mono ?_); (case sideL => exact hL.at (by first | exact Below.refl _ _ | (repeat (first | (with_reducible first | exact HB.out | apply below_alloc | apply pw_below_drewN | apply below_drew1) | exact HB.out | exact Below.refl _ _)))); (case side1 => repeat (first | exact (Kd.R_reads' HO293.out).2.2 | (with_reducible refine Kd.C_alloc ?_ _) | (with_reducible refine Kd.C_drewN ?_ _) | (with_reducible refine Kd.C_drew ?_))); (case side2 => exact (Kd.R_reads' HO293.out).2.1); rintro e w24 ⟨rfl, hb⟩; have n0_ := Aside0.mk (Kd.R_below (by (with_reducible repeat (first | apply Kd.R_alloc | apply Kd.R_drewN | apply Kd.R_drew)); exact HO293.out) hb); have n1_ := Aside0.mk (Kd.R_below (by (with_reducible repeat (first | apply Kd.R_alloc | apply Kd.R_drewN | apply Kd.R_drew)); exact HO298.out) hb); have n2_ := Aside0.mk (Kd.R_below (by (with_reducible repeat (first | apply Kd.R_alloc | apply Kd.R_drewN | apply Kd.R_drew)); exact HO300.out) hb); have n3_ := Aside0.mk (below_step (by repeat (first | (with_reducible first | exact HB.out | apply below_alloc | apply pw_below_drewN | apply below_drew1) | exact HB.out)) hb); clear HO293; clear HO298; clear HO300; clear HB; have HO293 := n0_; have HO298 := n1_; have HO300 := n2_; have HB := n3_; clear n0_ n1_ n2_ n3_; (try clear hb); (try clear hb2); (try clear hk); (try clear hi); obtain ⟨Ao25, co25, eo25⟩ := Kd.R_slice HO300.out; subst eo25) | (go_at_call 14; (with_reducible refine (utf_Offset.calls _ _ t295 (l0.length : Int) t303 _ ?side1 ?side2 A19.out).mono ?_); (case side1 => repeat (first | exact (Kd.R_reads' HO300.out).2.2 | (with_reducible refine Kd.C_alloc ?_ _) | (with_reducible refine Kd.C_drewN ?_ _) | (with_reducible refine Kd.C_drew ?_))); (case side2 => exact (Kd.R_reads' HO300.out).2.1); rintro e w' ⟨rfl, ⟨nd, rfl⟩⟩; (try first | exact ⟨rfl, _, World.drewN_drewN _ _ _⟩ | exact ⟨rfl, _, Eq.trans (World.drewN_drewN _ _ _) (congrArg (World.drewN _) (Nat.add_assoc _ _ _))⟩))))
        go_meet
        case rel => exact ⟨_, H', ⟨by have := HJ4.out; first | omega | exact Nat.le_refl _⟩, ⟨by repeat (first | (with_reducible first | exact HB.out | apply below_alloc | apply pw_below_drewN | apply below_drew1) | exact HB.out)⟩⟩
      case rest =>
        clear HC10
        try clear c1
        try clear c2
        try clear p2
        try clear c4
        try clear c5
        try clear c7
        try clear c7b0
        try clear c7b1
        try clear c8
        try clear c12
        try clear c12b0
        try clear c12b1
        try clear c14
        try clear c14b0
        try clear c14b1
        try clear c16
        try clear c18
        try clear c20
        try clear c20b0
        try clear c20b1
        try clear p2
        obtain ⟨kq, HA, HJ9, HB⟩ := hcut
        cases kq with
        | zero => exact absurd HA.out (by simp [ductuslaw01_UtfBack.j1])
        | succ kj9 =>
          have H := HA.out
          clear HA
          simp only [ductuslaw01_UtfBack.j1] at H
          replace H := Option.bind_eq_some_iff.mp H
          obtain ⟨⟨t304, t305, t306⟩, A260, H⟩ := H
          replace H : (if t306 = 0 then (if (t305.length : Int) = (wrap64 ((t304.length : Int) + 1)) then (if 0 < (t305.length : Int) then (if (rd t305 0) = 0 then (if 0 ≤ (t304.length : Int) then (if (t304.length : Int) < (t305.length : Int) then (ductuslaw01_UtfBack.j2 kj9 t304 t305 ((rd t305 (t304.length : Int)) != (l1.length : Int))) else (none)) else (none)) else (none)) else (none)) else (none)) else (none)) = some r := H
          have A26 := Aside0.mk A260
          clear A260
          have HC27 := Aside0.mk H
          clear H
          go_upto_region 11 with (first | (go_at_call 9; (with_reducible refine (utf_Decode.calls kj9 _ _ l1 t304 t305 t306 _ ?side1 ?side2 A26.out).mono ?_); (case side1 => repeat (first | exact (Kd.C_below HR1.out HB.out) | (with_reducible refine Kd.C_alloc ?_ _) | (with_reducible refine Kd.C_drewN ?_ _) | (with_reducible refine Kd.C_drew ?_))); (case side2 => exact HC1.out); rintro e w28 ⟨v307, v309, rfl, ho0, ho1, hb⟩; have n0_ := Aside0.mk (Kd.R_lower ho0 (below_size (by repeat (first | (with_reducible first | exact HB.out | apply below_alloc | apply pw_below_drewN | apply below_drew1) | exact HB.out)))); have n1_ := Aside0.mk (Kd.R_lower ho1 (below_size (by repeat (first | (with_reducible first | exact HB.out | apply below_alloc | apply pw_below_drewN | apply below_drew1) | exact HB.out)))); have n2_ := Aside0.mk (below_step (by repeat (first | (with_reducible first | exact HB.out | apply below_alloc | apply pw_below_drewN | apply below_drew1) | exact HB.out)) hb); clear HB; have HO308 := n0_; have HO310 := n1_; have HB := n2_; clear n0_ n1_ n2_; (try clear hb); (try clear hb2); (try clear hk); (try clear hi); (try clear ho0); (try clear ho1)))
          repeat (go_quiet (first | (go_at_call 9; (with_reducible refine (utf_Decode.calls kj9 _ _ l1 t304 t305 t306 _ ?side1 ?side2 A26.out).mono ?_); (case side1 => repeat (first | exact (Kd.C_below HR1.out HB.out) | (with_reducible refine Kd.C_alloc ?_ _) | (with_reducible refine Kd.C_drewN ?_ _) | (with_reducible refine Kd.C_drew ?_))); (case side2 => exact HC1.out); rintro e w28 ⟨v307, v309, rfl, ho0, ho1, hb⟩; have n0_ := Aside0.mk (Kd.R_lower ho0 (below_size (by repeat (first | (with_reducible first | exact HB.out | apply below_alloc | apply pw_below_drewN | apply below_drew1) | exact HB.out)))); have n1_ := Aside0.mk (Kd.R_lower ho1 (below_size (by repeat (first | (with_reducible first | exact HB.out | apply below_alloc | apply pw_below_drewN | apply below_drew1) | exact HB.out)))); have n2_ := Aside0.mk (below_step (by repeat (first | (with_reducible first | exact HB.out | apply below_alloc | apply pw_below_drewN | apply below_drew1) | exact HB.out)) hb); clear HB; have HO308 := n0_; have HO310 := n1_; have HB := n2_; clear n0_ n1_ n2_; (try clear hb); (try clear hb2); (try clear hk); (try clear hi); (try clear ho0); (try clear ho1))); go_upto_region 11 with (first | (go_at_call 9; (with_reducible refine (utf_Decode.calls kj9 _ _ l1 t304 t305 t306 _ ?side1 ?side2 A26.out).mono ?_); (case side1 => repeat (first | exact (Kd.C_below HR1.out HB.out) | (with_reducible refine Kd.C_alloc ?_ _) | (with_reducible refine Kd.C_drewN ?_ _) | (with_reducible refine Kd.C_drew ?_))); (case side2 => exact HC1.out); rintro e w28 ⟨v307, v309, rfl, ho0, ho1, hb⟩; have n0_ := Aside0.mk (Kd.R_lower ho0 (below_size (by repeat (first | (with_reducible first | exact HB.out | apply below_alloc | apply pw_below_drewN | apply below_drew1) | exact HB.out)))); have n1_ := Aside0.mk (Kd.R_lower ho1 (below_size (by repeat (first | (with_reducible first | exact HB.out | apply below_alloc | apply pw_below_drewN | apply below_drew1) | exact HB.out)))); have n2_ := Aside0.mk (below_step (by repeat (first | (with_reducible first | exact HB.out | apply below_alloc | apply pw_below_drewN | apply below_drew1) | exact HB.out)) hb); clear HB; have HO308 := n0_; have HO310 := n1_; have HB := n2_; clear n0_ n1_ n2_; (try clear hb); (try clear hb2); (try clear hk); (try clear hi); (try clear ho0); (try clear ho1))))
          (try simp only [Act.put, List.setIfInBounds_toArray, List.set_cons_zero, List.set_cons_succ])
          go_cut [91] (fun v91 wc => ∃ (kq : Nat) (x91_26 : Bool), v91 = .bool x91_26 ∧ Aside0 (ductuslaw01_UtfBack.j2 kq t304 t305 x91_26 = some r) ∧ Aside0 (kq ≤ kj9) ∧ Aside0 (Kd.R (Kd.int .i64) 3 wc w.heap.size (fun k_ => some k_ ≠ (v309 : Value).ownBlock) v307 t304) ∧ Aside0 (Kd.R (Kd.int .i64) 3 wc w.heap.size (fun k_ => some k_ ≠ (v307 : Value).ownBlock) v309 t305) ∧ Aside0 (Below w.heap.size w wc))
          case first =>
            have H := HC27.out
            clear HC27
            by_cases c29 : t306 = 0
            rotate_left
            · rw [if_neg c29] at H
              exact absurd H (by simp)
            rw [if_pos c29] at H
            have c29b0 : (t306 == 0) = true := beq_iff_eq.mpr c29
            have c29b1 : (t306 != 0) = false := bne_eq_false_iff_eq.mpr c29
            clear c29
            (first | rw [c29b0] | (simp only [i64_w, i32_w]; rw [c29b0]) | skip)
            by_cases c30 : (t305.length : Int) = (wrap64 ((t304.length : Int) + 1))
            rotate_left
            · rw [if_neg c30] at H
              exact absurd H (by simp)
            rw [if_pos c30] at H
            have c30b0 : ((t305.length : Int) == (wrap64 ((t304.length : Int) + 1))) = true := beq_iff_eq.mpr c30
            have c30b1 : ((t305.length : Int) != (wrap64 ((t304.length : Int) + 1))) = false := bne_eq_false_iff_eq.mpr c30
            clear c30
            by_cases c31 : 0 < (t305.length : Int)
            rotate_left
            · rw [if_neg c31] at H
              exact absurd H (by simp)
            rw [if_pos c31] at H
            have c31b0 : decide (0 < (t305.length : Int)) = true := decide_eq_true c31
            have c31b1 : decide (0 < t305.length) = true := decide_eq_true (by omega)
            clear c31
            by_cases c32 : (rd t305 0) = 0
            rotate_left
            · rw [if_neg c32] at H
              exact absurd H (by simp)
            rw [if_pos c32] at H
            have c32b0 : ((rd t305 0) == 0) = true := beq_iff_eq.mpr c32
            have c32b1 : ((rd t305 0) != 0) = false := bne_eq_false_iff_eq.mpr c32
            clear c32
            by_cases c33 : 0 ≤ (t304.length : Int)
            rotate_left
            · rw [if_neg c33] at H
              exact absurd H (by simp)
            rw [if_pos c33] at H
            have c33b0 : decide (0 ≤ (t304.length : Int)) = true := decide_eq_true c33
            have c33b1 : decide (0 ≤ t304.length) = true := decide_eq_true (by omega)
            clear c33
            by_cases c34 : (t304.length : Int) < (t305.length : Int)
            rotate_left
            · rw [if_neg c34] at H
              exact absurd H (by simp)
            rw [if_pos c34] at H
            have c34b0 : decide ((t304.length : Int) < (t305.length : Int)) = true := decide_eq_true c34
            have c34b1 : decide (t304.length < t305.length) = true := decide_eq_true (Int.ofNat_lt.mp c34)
            clear c34
            have H' := Aside0.mk H
            clear H
            obtain ⟨Ao35, co35, eo35⟩ := Kd.R_slice HO310.out
            subst eo35
            obtain ⟨Ao36, co36, eo36⟩ := Kd.R_slice HO308.out
            subst eo36
            have p311 : 0 ≤ (0 : Int) := (by omega)
            have q311 : 0 < (t305.length : Int) := of_decide_eq_true (by first | (with_reducible assumption) | assumption)
            obtain ⟨ad311, e311, hx311_0⟩ := Kd.at_int (Kd.R_reads' HO310.out).2.2 0 p311 q311
            cases e311
            have qi311 : (0 < t305.length) = True := eq_true (by omega)
            (try rw [show ((0 : Int)).toNat = 0 from rfl] at hx311_0)
            (try rw [Addr.add_zero'] at hx311_0)
            replace p311 := eq_true p311
            replace q311 := eq_true q311
            have p312 : 0 ≤ ((t304.length : Int) : Int) := of_decide_eq_true (by first | (with_reducible assumption) | assumption)
            have q312 : (t304.length : Int) < (t305.length : Int) := of_decide_eq_true (by first | (with_reducible assumption) | assumption)
            obtain ⟨ad312, e312, hx312_0⟩ := Kd.at_int (Kd.R_reads' HO310.out).2.2 (t304.length : Int) p312 q312
            obtain rfl : ad311 = ad312 := (by injection e312)
            (try simp only [Go.IntWalk.toNatUp] at hx312_0)
            replace p312 := eq_true p312
            replace q312 := eq_true q312
            go_wp2
            repeat (go_quiet (fail); try go_wp2)
            go_meet
            case rel => exact ⟨_, (((rd t305 (t304.length : Int)) != (l1.length : Int))), (by first | rfl | (simp; done) | (simp [*]; done)), H', ⟨by have := HJ4.out; have := HJ9.out; first | omega | exact Nat.le_refl _⟩, ⟨by (with_reducible repeat (first | apply Kd.R_alloc | apply Kd.R_drewN | apply Kd.R_drew)); exact HO308.out⟩, ⟨by (with_reducible repeat (first | apply Kd.R_alloc | apply Kd.R_drewN | apply Kd.R_drew)); exact HO310.out⟩, ⟨by repeat (first | (with_reducible first | exact HB.out | apply below_alloc | apply pw_below_drewN | apply below_drew1) | exact HB.out)⟩⟩
          case rest =>
            clear HC27
            try clear c1
            try clear c2
            try clear p2
            try clear c3
            try clear p3
            try clear q3
            try clear hx3
            try clear qi3
            try clear c4
            try clear c5
            try clear p6
            try clear c7
            try clear c7b0
            try clear c7b1
            try clear c8
            try clear c12
            try clear c12b0
            try clear c12b1
            try clear c14
            try clear c14b0
            try clear c14b1
            try clear c16
            try clear c18
            try clear c20
            try clear c20b0
            try clear c20b1
            try clear c29
            try clear c29b0
            try clear c29b1
            try clear c30
            try clear c30b0
            try clear c30b1
            try clear c31
            try clear c31b0
            try clear c31b1
            try clear p31
            try clear q31
            try clear hx31
            try clear qi31
            try clear c32
            try clear c32b0
            try clear c32b1
            try clear c33
            try clear c33b0
            try clear c33b1
            try clear c34
            try clear c34b0
            try clear c34b1
            try clear hx311_0
            try clear hx312_0
            try clear p2
            try clear p311
            try clear p312
            try clear q311
            try clear q312
            obtain ⟨kq, x91_26, rfl, HA, HJ26, HO_10, HO_11, HB⟩ := hcut
            cases kq with
            | zero => exact absurd HA.out (by simp [ductuslaw01_UtfBack.j2])
            | succ kj26 =>
              have H := HA.out
              clear HA
              simp only [ductuslaw01_UtfBack.j2] at H
              by_cases c37 : x91_26 = true
              · subst c37
                have H1 : (none) = some r := by rw [if_pos rfl] at H; exact H
                clear H
                have H := H1
                clear H1
                exact absurd H (by simp)
              replace c37 := Bool.eq_false_iff.mpr c37
              subst c37
              have H1 : (ductuslaw01_UtfBack.l0 kj26 t304 t305 0) = some r := by rw [if_neg (show ¬ (false = true) by decide)] at H; exact H
              clear H
              have H := H1
              clear H1
              have H' := Aside0.mk H
              clear H
              go_wp2
              repeat (go_quiet (fail); try go_wp2)
              go_loopg [13] kj26 (fun kq v13 w' => ∃ (x13_4 : Int), v13 = .int .i64 x13_4 ∧ Aside0 (ductuslaw01_UtfBack.l0 kq t304 t305 x13_4 = some r) ∧ Aside0 (kq ≤ kj26) ∧ Aside0 (Kd.R (Kd.int .i64) 3 w' w.heap.size (fun k_ => some k_ ≠ (v309 : Value).ownBlock) v307 t304) ∧ Aside0 (Kd.R (Kd.int .i64) 3 w' w.heap.size (fun k_ => some k_ ≠ (v307 : Value).ownBlock) v309 t305) ∧ Aside0 (Below w.heap.size w w'))
              case atStart => exact ⟨(0), (by first | rfl | (simp; done) | (simp [*]; done)), H', ⟨Nat.le_refl _⟩, ⟨by (with_reducible repeat (first | apply Kd.R_alloc | apply Kd.R_drewN | apply Kd.R_drew)); exact HO_10.out⟩, ⟨by (with_reducible repeat (first | apply Kd.R_alloc | apply Kd.R_drewN | apply Kd.R_drew)); exact HO_11.out⟩, ⟨by repeat (first | (with_reducible first | exact HB.out | apply below_alloc | apply pw_below_drewN | apply below_drew1) | exact HB.out)⟩⟩
              case round =>
                clear H'
                try clear c1
                try clear c2
                try clear p2
                try clear c3
                try clear p3
                try clear q3
                try clear hx3
                try clear qi3
                try clear c4
                try clear c5
                try clear p6
                try clear c7
                try clear c7b0
                try clear c7b1
                try clear c8
                try clear c12
                try clear c12b0
                try clear c12b1
                try clear c14
                try clear c14b0
                try clear c14b1
                try clear c16
                try clear c18
                try clear c20
                try clear c20b0
                try clear c20b1
                try clear c29
                try clear c29b0
                try clear c29b1
                try clear c30
                try clear c30b0
                try clear c30b1
                try clear c31
                try clear c31b0
                try clear c31b1
                try clear p31
                try clear q31
                try clear hx31
                try clear qi31
                try clear c32
                try clear c32b0
                try clear c32b1
                try clear c33
                try clear c33b0
                try clear c33b1
                try clear c34
                try clear c34b0
                try clear c34b1
                try clear c37
                try clear hx311_0
                try clear hx312_0
                try clear p2
                try clear p3
                try clear p31
                try clear p311
                try clear p312
                try clear p6
                try clear q3
                try clear q31
                try clear q311
                try clear q312
                obtain ⟨x13_4, rfl, HA, HK4, HO_10, HO_11, HB⟩ := hrel
                cases gk with
                | zero => exact absurd HA.out (by simp [ductuslaw01_UtfBack.l0])
                | succ k4 =>
                  have H := HA.out
                  clear HA
                  simp only [ductuslaw01_UtfBack.l0] at H
                  by_cases c38 : x13_4 < (t304.length : Int)
                  rotate_left
                  · rw [if_neg c38] at H
                    have c38b0 : decide (x13_4 < (t304.length : Int)) = false := decide_eq_false c38
                    clear c38
                    obtain rfl := Option.some.inj H
                    obtain ⟨Ao54, co54, eo54⟩ := Kd.R_slice HO_10.out
                    subst eo54
                    go_wp2
                    repeat (go_quiet (fail); try go_wp2)
                    go_ret
                    exact ⟨by first | rfl | (simp [errW_none, errW_some] <;> rfl) | (simp [*, errW_none, errW_some] <;> rfl), by repeat (first | (with_reducible first | exact HB.out | apply below_alloc | apply pw_below_drewN | apply below_drew1) | exact HB.out)⟩
                  rw [if_pos c38] at H
                  have c38b0 : decide (x13_4 < (t304.length : Int)) = true := decide_eq_true c38
                  clear c38
                  obtain ⟨ji39, hji39⟩ : ∃ j_ : Int, (wrap64 (x13_4 + 1)) = j_ := ⟨_, rfl⟩
                  replace H : (if 0 ≤ (ji39) then (if (ji39) < (t305.length : Int) then (if 0 ≤ x13_4 then (if x13_4 < (t305.length : Int) then ((utf_Right.f k4 (rd t304 x13_4)).bind fun t316 => (if t316 = true then ((utf_Size.f k4 (rd t304 x13_4)).bind fun t318 => (if (wrap64 ((rd t305 (ji39)) - (rd t305 x13_4))) = t318 then (ductuslaw01_UtfBack.l0 k4 t304 t305 ji39) else (if (wrap64 ((rd t305 (ji39)) - (rd t305 x13_4))) = 1 then (if (rd t304 x13_4) = 65533 then (ductuslaw01_UtfBack.l0 k4 t304 t305 ji39) else (none)) else (none)))) else (none))) else (none)) else (none)) else (none)) else (none)) = some r := by first | (rw [hji39] at H; exact H) | (simp only [hji39] at H ⊢; exact H)
                  have hji39w : (IntKind.i64.wrap (x13_4 + 1)) = ji39 := (i64_w _).trans hji39
                  by_cases c40 : 0 ≤ (ji39)
                  rotate_left
                  · rw [if_neg c40] at H
                    exact absurd H (by simp)
                  rw [if_pos c40] at H
                  have c40b0 : decide (0 ≤ (ji39)) = true := decide_eq_true c40
                  clear c40
                  by_cases c41 : (ji39) < (t305.length : Int)
                  rotate_left
                  · rw [if_neg c41] at H
                    exact absurd H (by simp)
                  rw [if_pos c41] at H
                  have c41b0 : decide ((ji39) < (t305.length : Int)) = true := decide_eq_true c41
                  clear c41
                  by_cases c42 : 0 ≤ x13_4
                  rotate_left
                  · rw [if_neg c42] at H
                    exact absurd H (by simp)
                  rw [if_pos c42] at H
                  have c42b0 : decide (0 ≤ x13_4) = true := decide_eq_true c42
                  clear c42
                  by_cases c43 : x13_4 < (t305.length : Int)
                  rotate_left
                  · rw [if_neg c43] at H
                    exact absurd H (by simp)
                  rw [if_pos c43] at H
                  have c43b0 : decide (x13_4 < (t305.length : Int)) = true := decide_eq_true c43
                  clear c43
                  replace H := Option.bind_eq_some_iff.mp H
                  obtain ⟨t316, A440, H⟩ := H
                  replace H : (if t316 = true then ((utf_Size.f k4 (rd t304 x13_4)).bind fun t318 => (if (wrap64 ((rd t305 (ji39)) - (rd t305 x13_4))) = t318 then (ductuslaw01_UtfBack.l0 k4 t304 t305 ji39) else (if (wrap64 ((rd t305 (ji39)) - (rd t305 x13_4))) = 1 then (if (rd t304 x13_4) = 65533 then (ductuslaw01_UtfBack.l0 k4 t304 t305 ji39) else (none)) else (none)))) else (none)) = some r := H
                  have A44 := Aside0.mk A440
                  clear A440
                  by_cases c45 : t316 = true
                  rotate_left
                  · replace c45 := Bool.eq_false_iff.mpr c45
                    subst c45
                    have H1 : (none) = some r := by rw [if_neg (show ¬ (false = true) by decide)] at H; exact H
                    clear H
                    have H := H1
                    clear H1
                    exact absurd H (by simp)
                  subst c45
                  have H1 : ((utf_Size.f k4 (rd t304 x13_4)).bind fun t318 => (if (wrap64 ((rd t305 (ji39)) - (rd t305 x13_4))) = t318 then (ductuslaw01_UtfBack.l0 k4 t304 t305 ji39) else (if (wrap64 ((rd t305 (ji39)) - (rd t305 x13_4))) = 1 then (if (rd t304 x13_4) = 65533 then (ductuslaw01_UtfBack.l0 k4 t304 t305 ji39) else (none)) else (none)))) = some r := by rw [if_pos rfl] at H; exact H
                  clear H
                  have H := H1
                  clear H1
                  replace H := Option.bind_eq_some_iff.mp H
                  obtain ⟨t318, A460, H⟩ := H
                  replace H : (if (wrap64 ((rd t305 (ji39)) - (rd t305 x13_4))) = t318 then (ductuslaw01_UtfBack.l0 k4 t304 t305 ji39) else (if (wrap64 ((rd t305 (ji39)) - (rd t305 x13_4))) = 1 then (if (rd t304 x13_4) = 65533 then (ductuslaw01_UtfBack.l0 k4 t304 t305 ji39) else (none)) else (none))) = some r := H
                  have A46 := Aside0.mk A460
                  clear A460
                  by_cases c47 : (wrap64 ((rd t305 (ji39)) - (rd t305 x13_4))) = t318
                  · rw [if_pos c47] at H
                    have c47b0 : ((wrap64 ((rd t305 (ji39)) - (rd t305 x13_4))) == t318) = true := beq_iff_eq.mpr c47
                    have c47b1 : ((wrap64 ((rd t305 (ji39)) - (rd t305 x13_4))) != t318) = false := bne_eq_false_iff_eq.mpr c47
                    clear c47
                    have H' := Aside0.mk H
                    clear H
                    obtain ⟨Ao48, co48, eo48⟩ := Kd.R_slice HO_10.out
                    subst eo48
                    obtain ⟨Ao49, co49, eo49⟩ := Kd.R_slice HO_11.out
                    subst eo49
                    have p313 : 0 ≤ ((ji39) : Int) := of_decide_eq_true (by first | (with_reducible assumption) | assumption)
                    have q313 : (ji39) < (t305.length : Int) := of_decide_eq_true (by first | (with_reducible assumption) | assumption)
                    obtain ⟨ad313, e313, hx313_0⟩ := Kd.at_int (Kd.R_reads' HO_11.out).2.2 (ji39) p313 q313
                    cases e313
                    replace p313 := eq_true p313
                    replace q313 := eq_true q313
                    have p314 : 0 ≤ (x13_4 : Int) := of_decide_eq_true (by first | (with_reducible assumption) | assumption)
                    have q314 : x13_4 < (t305.length : Int) := of_decide_eq_true (by first | (with_reducible assumption) | assumption)
                    obtain ⟨ad314, e314, hx314_0⟩ := Kd.at_int (Kd.R_reads' HO_11.out).2.2 x13_4 p314 q314
                    obtain rfl : ad313 = ad314 := (by injection e314)
                    replace p314 := eq_true p314
                    replace q314 := eq_true q314
                    have p315 : 0 ≤ (x13_4 : Int) := of_decide_eq_true (by first | (with_reducible assumption) | assumption)
                    have q315 : x13_4 < (t304.length : Int) := of_decide_eq_true (by first | (with_reducible assumption) | assumption)
                    obtain ⟨ad315, e315, hx315_0⟩ := Kd.at_int (Kd.R_reads' HO_10.out).2.2 x13_4 p315 q315
                    cases e315
                    replace p315 := eq_true p315
                    replace q315 := eq_true q315
                    go_wp2_with (first | (go_at_call 18; (with_reducible refine (utf_Right.calls k4 (rd t304 x13_4) true _ A44.out).mono ?_); rintro e w' ⟨rfl, ⟨nd, rfl⟩⟩; (try first | exact ⟨rfl, _, World.drewN_drewN _ _ _⟩ | exact ⟨rfl, _, Eq.trans (World.drewN_drewN _ _ _) (congrArg (World.drewN _) (Nat.add_assoc _ _ _))⟩); have p317 : 0 ≤ (x13_4 : Int) := of_decide_eq_true (by first | (with_reducible assumption) | assumption); have q317 : x13_4 < (t304.length : Int) := of_decide_eq_true (by first | (with_reducible assumption) | assumption); obtain ⟨ad317, e317, hx317_0⟩ := Kd.at_int (Kd.R_reads' HO_10.out).2.2 x13_4 p317 q317; obtain rfl : ad315 = ad317 := (by injection e317); replace p317 := eq_true p317; replace q317 := eq_true q317) | (go_at_call 20; (with_reducible refine (utf_Size.calls k4 (rd t304 x13_4) t318 _ A46.out).mono ?_); rintro e w' ⟨rfl, ⟨nd, rfl⟩⟩; (try first | exact ⟨rfl, _, World.drewN_drewN _ _ _⟩ | exact ⟨rfl, _, Eq.trans (World.drewN_drewN _ _ _) (congrArg (World.drewN _) (Nat.add_assoc _ _ _))⟩)))
                    repeat (go_quiet (first | (go_at_call 18; (with_reducible refine (utf_Right.calls k4 (rd t304 x13_4) true _ A44.out).mono ?_); rintro e w' ⟨rfl, ⟨nd, rfl⟩⟩; (try first | exact ⟨rfl, _, World.drewN_drewN _ _ _⟩ | exact ⟨rfl, _, Eq.trans (World.drewN_drewN _ _ _) (congrArg (World.drewN _) (Nat.add_assoc _ _ _))⟩); have p317 : 0 ≤ (x13_4 : Int) := of_decide_eq_true (by first | (with_reducible assumption) | assumption); have q317 : x13_4 < (t304.length : Int) := of_decide_eq_true (by first | (with_reducible assumption) | assumption); obtain ⟨ad317, e317, hx317_0⟩ := Kd.at_int (Kd.R_reads' HO_10.out).2.2 x13_4 p317 q317; obtain rfl : ad315 = ad317 := (by injection e317); replace p317 := eq_true p317; replace q317 := eq_true q317) | (go_at_call 20; (with_reducible refine (utf_Size.calls k4 (rd t304 x13_4) t318 _ A46.out).mono ?_); rintro e w' ⟨rfl, ⟨nd, rfl⟩⟩; (try first | exact ⟨rfl, _, World.drewN_drewN _ _ _⟩ | exact ⟨rfl, _, Eq.trans (World.drewN_drewN _ _ _) (congrArg (World.drewN _) (Nat.add_assoc _ _ _))⟩))); try go_wp2_with (first | (go_at_call 18; (with_reducible refine (utf_Right.calls k4 (rd t304 x13_4) true _ A44.out).mono ?_); rintro e w' ⟨rfl, ⟨nd, rfl⟩⟩; (try first | exact ⟨rfl, _, World.drewN_drewN _ _ _⟩ | exact ⟨rfl, _, Eq.trans (World.drewN_drewN _ _ _) (congrArg (World.drewN _) (Nat.add_assoc _ _ _))⟩); have p317 : 0 ≤ (x13_4 : Int) := of_decide_eq_true (by first | (with_reducible assumption) | assumption); have q317 : x13_4 < (t304.length : Int) := of_decide_eq_true (by first | (with_reducible assumption) | assumption); obtain ⟨ad317, e317, hx317_0⟩ := Kd.at_int (Kd.R_reads' HO_10.out).2.2 x13_4 p317 q317; obtain rfl : ad315 = ad317 := (by injection e317); replace p317 := eq_true p317; replace q317 := eq_true q317) | (go_at_call 20; (with_reducible refine (utf_Size.calls k4 (rd t304 x13_4) t318 _ A46.out).mono ?_); rintro e w' ⟨rfl, ⟨nd, rfl⟩⟩; (try first | exact ⟨rfl, _, World.drewN_drewN _ _ _⟩ | exact ⟨rfl, _, Eq.trans (World.drewN_drewN _ _ _) (congrArg (World.drewN _) (Nat.add_assoc _ _ _))⟩))))
                    go_roundg k4
                    case measure => have := HJ4.out; have := HJ9.out; have := HJ26.out; have := HK4.out; omega
                    case rel => exact ⟨(ji39), (by first | rfl | (simp; done) | (simp only [← hji39] <;> (first | rfl | simp)) | (simp [*]; done)), H', ⟨by have := HJ4.out; have := HJ9.out; have := HJ26.out; have := HK4.out; omega⟩, ⟨by (with_reducible repeat (first | apply Kd.R_alloc | apply Kd.R_drewN | apply Kd.R_drew)); exact HO_10.out⟩, ⟨by (with_reducible repeat (first | apply Kd.R_alloc | apply Kd.R_drewN | apply Kd.R_drew)); exact HO_11.out⟩, ⟨by repeat (first | (with_reducible first | exact HB.out | apply below_alloc | apply pw_below_drewN | apply below_drew1) | exact HB.out)⟩⟩
                  rw [if_neg c47] at H
                  have c47b0 : ((wrap64 ((rd t305 (ji39)) - (rd t305 x13_4))) == t318) = false := beq_eq_false_iff_ne.mpr c47
                  have c47b1 : ((wrap64 ((rd t305 (ji39)) - (rd t305 x13_4))) != t318) = true := bne_iff_ne.mpr c47
                  by_cases c50 : (wrap64 ((rd t305 (ji39)) - (rd t305 x13_4))) = 1
                  rotate_left
                  · rw [if_neg c50] at H
                    exact absurd H (by simp)
                  rw [if_pos c50] at H
                  have c50b0 : ((wrap64 ((rd t305 (ji39)) - (rd t305 x13_4))) == 1) = true := beq_iff_eq.mpr c50
                  have c50b1 : ((wrap64 ((rd t305 (ji39)) - (rd t305 x13_4))) != 1) = false := bne_eq_false_iff_eq.mpr c50
                  clear c50
                  by_cases c51 : (rd t304 x13_4) = 65533
                  rotate_left
                  · rw [if_neg c51] at H
                    exact absurd H (by simp)
                  rw [if_pos c51] at H
                  have c51b0 : ((rd t304 x13_4) == 65533) = true := beq_iff_eq.mpr c51
                  have c51b1 : ((rd t304 x13_4) != 65533) = false := bne_eq_false_iff_eq.mpr c51
                  clear c51
                  have H' := Aside0.mk H
                  clear H
                  obtain ⟨Ao52, co52, eo52⟩ := Kd.R_slice HO_10.out
                  subst eo52
                  obtain ⟨Ao53, co53, eo53⟩ := Kd.R_slice HO_11.out
                  subst eo53
                  have p313 : 0 ≤ ((ji39) : Int) := of_decide_eq_true (by first | (with_reducible assumption) | assumption)
                  have q313 : (ji39) < (t305.length : Int) := of_decide_eq_true (by first | (with_reducible assumption) | assumption)
                  obtain ⟨ad313, e313, hx313_0⟩ := Kd.at_int (Kd.R_reads' HO_11.out).2.2 (ji39) p313 q313
                  cases e313
                  replace p313 := eq_true p313
                  replace q313 := eq_true q313
                  have p314 : 0 ≤ (x13_4 : Int) := of_decide_eq_true (by first | (with_reducible assumption) | assumption)
                  have q314 : x13_4 < (t305.length : Int) := of_decide_eq_true (by first | (with_reducible assumption) | assumption)
                  obtain ⟨ad314, e314, hx314_0⟩ := Kd.at_int (Kd.R_reads' HO_11.out).2.2 x13_4 p314 q314
                  obtain rfl : ad313 = ad314 := (by injection e314)
                  replace p314 := eq_true p314
                  replace q314 := eq_true q314
                  have p315 : 0 ≤ (x13_4 : Int) := of_decide_eq_true (by first | (with_reducible assumption) | assumption)
                  have q315 : x13_4 < (t304.length : Int) := of_decide_eq_true (by first | (with_reducible assumption) | assumption)
                  obtain ⟨ad315, e315, hx315_0⟩ := Kd.at_int (Kd.R_reads' HO_10.out).2.2 x13_4 p315 q315
                  cases e315
                  replace p315 := eq_true p315
                  replace q315 := eq_true q315
                  go_wp2_with (first | (go_at_call 18; (with_reducible refine (utf_Right.calls k4 (rd t304 x13_4) true _ A44.out).mono ?_); rintro e w' ⟨rfl, ⟨nd, rfl⟩⟩; (try first | exact ⟨rfl, _, World.drewN_drewN _ _ _⟩ | exact ⟨rfl, _, Eq.trans (World.drewN_drewN _ _ _) (congrArg (World.drewN _) (Nat.add_assoc _ _ _))⟩); have p317 : 0 ≤ (x13_4 : Int) := of_decide_eq_true (by first | (with_reducible assumption) | assumption); have q317 : x13_4 < (t304.length : Int) := of_decide_eq_true (by first | (with_reducible assumption) | assumption); obtain ⟨ad317, e317, hx317_0⟩ := Kd.at_int (Kd.R_reads' HO_10.out).2.2 x13_4 p317 q317; obtain rfl : ad315 = ad317 := (by injection e317); replace p317 := eq_true p317; replace q317 := eq_true q317) | (go_at_call 20; (with_reducible refine (utf_Size.calls k4 (rd t304 x13_4) t318 _ A46.out).mono ?_); rintro e w' ⟨rfl, ⟨nd, rfl⟩⟩; (try first | exact ⟨rfl, _, World.drewN_drewN _ _ _⟩ | exact ⟨rfl, _, Eq.trans (World.drewN_drewN _ _ _) (congrArg (World.drewN _) (Nat.add_assoc _ _ _))⟩); have p319 : 0 ≤ (x13_4 : Int) := of_decide_eq_true (by first | (with_reducible assumption) | assumption); have q319 : x13_4 < (t304.length : Int) := of_decide_eq_true (by first | (with_reducible assumption) | assumption); obtain ⟨ad319, e319, hx319_0⟩ := Kd.at_int (Kd.R_reads' HO_10.out).2.2 x13_4 p319 q319; obtain rfl : ad315 = ad319 := (by injection e319); replace p319 := eq_true p319; replace q319 := eq_true q319))
                  repeat (go_quiet (first | (go_at_call 18; (with_reducible refine (utf_Right.calls k4 (rd t304 x13_4) true _ A44.out).mono ?_); rintro e w' ⟨rfl, ⟨nd, rfl⟩⟩; (try first | exact ⟨rfl, _, World.drewN_drewN _ _ _⟩ | exact ⟨rfl, _, Eq.trans (World.drewN_drewN _ _ _) (congrArg (World.drewN _) (Nat.add_assoc _ _ _))⟩); have p317 : 0 ≤ (x13_4 : Int) := of_decide_eq_true (by first | (with_reducible assumption) | assumption); have q317 : x13_4 < (t304.length : Int) := of_decide_eq_true (by first | (with_reducible assumption) | assumption); obtain ⟨ad317, e317, hx317_0⟩ := Kd.at_int (Kd.R_reads' HO_10.out).2.2 x13_4 p317 q317; obtain rfl : ad315 = ad317 := (by injection e317); replace p317 := eq_true p317; replace q317 := eq_true q317) | (go_at_call 20; (with_reducible refine (utf_Size.calls k4 (rd t304 x13_4) t318 _ A46.out).mono ?_); rintro e w' ⟨rfl, ⟨nd, rfl⟩⟩; (try first | exact ⟨rfl, _, World.drewN_drewN _ _ _⟩ | exact ⟨rfl, _, Eq.trans (World.drewN_drewN _ _ _) (congrArg (World.drewN _) (Nat.add_assoc _ _ _))⟩); have p319 : 0 ≤ (x13_4 : Int) := of_decide_eq_true (by first | (with_reducible assumption) | assumption); have q319 : x13_4 < (t304.length : Int) := of_decide_eq_true (by first | (with_reducible assumption) | assumption); obtain ⟨ad319, e319, hx319_0⟩ := Kd.at_int (Kd.R_reads' HO_10.out).2.2 x13_4 p319 q319; obtain rfl : ad315 = ad319 := (by injection e319); replace p319 := eq_true p319; replace q319 := eq_true q319)); try go_wp2_with (first | (go_at_call 18; (with_reducible refine (utf_Right.calls k4 (rd t304 x13_4) true _ A44.out).mono ?_); rintro e w' ⟨rfl, ⟨nd, rfl⟩⟩; (try first | exact ⟨rfl, _, World.drewN_drewN _ _ _⟩ | exact ⟨rfl, _, Eq.trans (World.drewN_drewN _ _ _) (congrArg (World.drewN _) (Nat.add_assoc _ _ _))⟩); have p317 : 0 ≤ (x13_4 : Int) := of_decide_eq_true (by first | (with_reducible assumption) | assumption); have q317 : x13_4 < (t304.length : Int) := of_decide_eq_true (by first | (with_reducible assumption) | assumption); obtain ⟨ad317, e317, hx317_0⟩ := Kd.at_int (Kd.R_reads' HO_10.out).2.2 x13_4 p317 q317; obtain rfl : ad315 = ad317 := (by injection e317); replace p317 := eq_true p317; replace q317 := eq_true q317) | (go_at_call 20; (with_reducible refine (utf_Size.calls k4 (rd t304 x13_4) t318 _ A46.out).mono ?_); rintro e w' ⟨rfl, ⟨nd, rfl⟩⟩; (try first | exact ⟨rfl, _, World.drewN_drewN _ _ _⟩ | exact ⟨rfl, _, Eq.trans (World.drewN_drewN _ _ _) (congrArg (World.drewN _) (Nat.add_assoc _ _ _))⟩); have p319 : 0 ≤ (x13_4 : Int) := of_decide_eq_true (by first | (with_reducible assumption) | assumption); have q319 : x13_4 < (t304.length : Int) := of_decide_eq_true (by first | (with_reducible assumption) | assumption); obtain ⟨ad319, e319, hx319_0⟩ := Kd.at_int (Kd.R_reads' HO_10.out).2.2 x13_4 p319 q319; obtain rfl : ad315 = ad319 := (by injection e319); replace p319 := eq_true p319; replace q319 := eq_true q319)))
                  go_roundg k4
                  case measure => have := HJ4.out; have := HJ9.out; have := HJ26.out; have := HK4.out; omega
                  case rel => exact ⟨(ji39), (by first | rfl | (simp; done) | (simp only [← hji39] <;> (first | rfl | simp)) | (simp [*]; done)), H', ⟨by have := HJ4.out; have := HJ9.out; have := HJ26.out; have := HK4.out; omega⟩, ⟨by (with_reducible repeat (first | apply Kd.R_alloc | apply Kd.R_drewN | apply Kd.R_drew)); exact HO_10.out⟩, ⟨by (with_reducible repeat (first | apply Kd.R_alloc | apply Kd.R_drewN | apply Kd.R_drew)); exact HO_11.out⟩, ⟨by repeat (first | (with_reducible first | exact HB.out | apply below_alloc | apply pw_below_drewN | apply below_drew1) | exact HB.out)⟩⟩

/-- THE ONE PURE STATEMENT of ductuslaw01_UtfBack: yours. -/
def ductuslaw01_UtfBack.Pure : Prop := ∀ (l0 : List Int) (l1 : List Int), l0.length ≤ maxLen → l0.length * 8 ≤ 140737488351232 → (∀ x ∈ l0, (Lit.int .i64 x).wf = true) → l1.length ≤ maxLen → l1.length * 1 ≤ 140737488351232 → (∀ x ∈ l1, (Lit.int .u8 x).wf = true) → ∃ k, ductuslaw01_UtfBack.f k l0 l1 = some true
theorem ductuslaw01_UtfBack.walk (P : ductuslaw01_UtfBack.Pure) (a0 : Option Addr) (len0 cap0 : Nat) (z0 : List Int) (a1 : Option Addr) (len1 cap1 : Nat) (z1 : List Int) (w : World) (w0 : (a0 = none ∧ len0 = 0 ∧ cap0 = 0 ∧ z0 = []) ∨ ∃ x, a0 = some x ∧ len0 ≤ cap0 ∧ cap0 ≤ maxLen ∧ z0.length = cap0 ∧ (∀ i, i < z0.length → w.cell? (x.add i) = some (.int .i64 (z0.getD i 0))) ∧ ∀ n ∈ z0, (Lit.int .i64 n).wf = true) (y0 : len0 * 8 ≤ 140737488351232) (w1 : (a1 = none ∧ len1 = 0 ∧ cap1 = 0 ∧ z1 = []) ∨ ∃ x, a1 = some x ∧ len1 ≤ cap1 ∧ cap1 ≤ maxLen ∧ z1.length = cap1 ∧ (∀ i, i < z1.length → w.cell? (x.add i) = some (.int .u8 (z1.getD i 0))) ∧ ∀ n ∈ z1, (Lit.int .u8 n).wf = true) (y1 : len1 * 1 ≤ 140737488351232) (hL : U8At w) :
    Calls Tryd.prog 5 #[.slice a0 len0 cap0, .slice a1 len1 cap1] w fun e w' => e = .returned (.bool true) ∧ Below w.heap.size w w' := by
  obtain ⟨l0, rfl, hr0, hm0, hw0, hc0⟩ := ReadsInt.ofRowC w0
  obtain ⟨l1, rfl, hr1, hm1, hw1, hc1⟩ := ReadsInt.ofRowC w1
  obtain ⟨k, h⟩ := P l0 l1 hm0 y0 hw0 hm1 y1 hw1
  refine (ductuslaw01_UtfBack.calls k _ _ l0 _ _ l1 true w (Kd.C_of_reads (d := (0 : Int)) (h1 := fun _ => rfl) hr0) hc0 (Kd.C_of_reads (d := (0 : Int)) (h1 := fun _ => rfl) hr1) hc1 h hL).mono ?_
  rintro e w' ⟨rfl, hd⟩
  exact ⟨rfl, hd⟩

end Go.Proofs.YtgcdhjgdlnpknaaDoor.P
