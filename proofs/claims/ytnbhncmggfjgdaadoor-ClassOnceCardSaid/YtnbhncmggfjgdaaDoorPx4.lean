/- Printed by a program of this claim's own over the translation: Lean functions of the Go functions, each with its proof; no condition beyond those written. -/
import Derived.Test.YtnbhncmggfjgdaaDoorPx0
import Derived.Test.YtnbhncmggfjgdaaDoorPx1
import Derived.Test.YtnbhncmggfjgdaaDoorPx2
import Derived.Test.YtnbhncmggfjgdaaDoorSWord
namespace Go.Proofs.YtnbhncmggfjgdaaDoor.P
open Go.RowKit Go.Proofs.YtnbhncmggfjgdaaDoorW.PrintWords Go.Proofs.YtnbhncmggfjgdaaDoorW.PrintLast Go.Proofs.YtnbhncmggfjgdaaDoorW.PrintMore
attribute [local go_sem] max2_int min2_int max_two min_two max_three min_three max_four min_four   -- for this text's walks alone
set_option linter.unusedVariables false
set_option linter.unusedSimpArgs false

/-! ### ductuslaw02_ClassOnce: function 5 -/
def ductuslaw02_ClassOnce.l0 : Nat → Int → Int → Int → Int → Option (Bool)
  | 0, _, _, _, _ => none
  | k + 1, x0, x3, x4, x5 => if x5 < 3 then ((class_Strong.f k x3).bind fun t209 => ((class_Out.f k x3).bind fun t210 => ((class_Neutral.f k x3).bind fun t211 => ((some (([t209, t210, t211] : List Bool) : List Bool)).bind fun y212 => (if 0 ≤ x5 then (if x5 < (y212.length : Int) then (if rdOf false y212 x5 = true then (ductuslaw02_ClassOnce.l0 k x0 x3 (wrap64 (x4 + 1)) (wrap64 (x5 + 1))) else (ductuslaw02_ClassOnce.l0 k x0 x3 x4 (wrap64 (x5 + 1)))) else (none)) else (none)))))) else (if x3 ≥ 3 then (if x3 ≥ 0 then (if x3 < 23 then ((class_Word.f x3).bind fun t203 => (if t203.toList = ([] : List UInt8) then (none) else (if x4 ≤ 1 then (if ((x4 == 0) == (decide (x3 ≤ 8))) = true then ((class_Opens.f k x3).bind fun t204 => (if t204 = true then ((class_Neutral.f k x3).bind fun t205 => (if t205 = true then (if x0 ≥ 0 then (if x0 ≤ 1114111 then (some true) else (some (x3 == 0))) else (some (x3 == 0))) else (none))) else (if x0 ≥ 0 then (if x0 ≤ 1114111 then (some true) else (some (x3 == 0))) else (some (x3 == 0))))) else (none)) else (none)))) else (none)) else (none)) else (if x3 ≥ 0 then (if x3 < 23 then ((class_Word.f x3).bind fun t206 => (if t206.toList = ([] : List UInt8) then (none) else (if x4 ≤ 1 then (if ((x4 == 0) == false) = true then ((class_Opens.f k x3).bind fun t207 => (if t207 = true then ((class_Neutral.f k x3).bind fun t208 => (if t208 = true then (if x0 ≥ 0 then (if x0 ≤ 1114111 then (some true) else (some (x3 == 0))) else (some (x3 == 0))) else (none))) else (if x0 ≥ 0 then (if x0 ≤ 1114111 then (some true) else (some (x3 == 0))) else (some (x3 == 0))))) else (none)) else (none)))) else (none)) else (none)))
def ductuslaw02_ClassOnce.f (k : Nat) (a0 : Int) : Option (Bool) := (ductuslaw02_alive.f k).bind fun t201 => (if t201 = true then ((class_Of.f k a0).bind fun t202 => (ductuslaw02_ClassOnce.l0 k a0 t202 0 0)) else (none))
theorem ductuslaw02_ClassOnce.mono_l : ∀ k, (∀ y0 y1 y2 y3, LeO (ductuslaw02_ClassOnce.l0 k y0 y1 y2 y3) (ductuslaw02_ClassOnce.l0 (k + 1) y0 y1 y2 y3))
  | 0 => fun _ _ _ _ r h => by simp [ductuslaw02_ClassOnce.l0] at h
  | k + 1 => by
    have ih0 := ductuslaw02_ClassOnce.mono_l k
    · intro y0 y1 y2 y3
      unfold ductuslaw02_ClassOnce.l0
      repeat' first
      | (with_reducible exact ih0 _ _ _ _)
      | (with_reducible exact class_Neutral.mono _ _)
      | (with_reducible exact class_Of.mono _ _)
      | (with_reducible exact class_Opens.mono _ _)
      | (with_reducible exact class_Out.mono _ _)
      | (with_reducible exact class_Strong.mono _ _)
      | (with_reducible exact ductuslaw02_alive.mono _)
      | (with_reducible exact LeO.refl _)
      | (with_reducible exact LeO.none _)
      | (with_reducible refine LeO.ite ?_ ?_)
      | (with_reducible refine LeO.bind ?_ (fun _ => ?_))
      | exact ih0 _ _ _ _
      | exact class_Neutral.mono _ _
      | exact class_Of.mono _ _
      | exact class_Opens.mono _ _
      | exact class_Out.mono _ _
      | exact class_Strong.mono _ _
      | exact ductuslaw02_alive.mono _
      | exact LeO.none _
      | refine LeO.ite ?_ ?_
      | refine LeO.bind ?_ (fun _ => ?_)
theorem ductuslaw02_ClassOnce.mono : ∀ a0 k, LeO (ductuslaw02_ClassOnce.f k a0) (ductuslaw02_ClassOnce.f (k + 1) a0) := by
  intro a0 k
  have ih0 := ductuslaw02_ClassOnce.mono_l k
  unfold ductuslaw02_ClassOnce.f
  repeat' first
      | (with_reducible exact ih0 _ _ _ _)
      | (with_reducible exact class_Neutral.mono _ _)
      | (with_reducible exact class_Of.mono _ _)
      | (with_reducible exact class_Opens.mono _ _)
      | (with_reducible exact class_Out.mono _ _)
      | (with_reducible exact class_Strong.mono _ _)
      | (with_reducible exact ductuslaw02_alive.mono _)
      | (with_reducible exact LeO.refl _)
      | (with_reducible exact LeO.none _)
      | (with_reducible refine LeO.ite ?_ ?_)
      | (with_reducible refine LeO.bind ?_ (fun _ => ?_))
      | exact ih0 _ _ _ _
      | exact class_Neutral.mono _ _
      | exact class_Of.mono _ _
      | exact class_Opens.mono _ _
      | exact class_Out.mono _ _
      | exact class_Strong.mono _ _
      | exact ductuslaw02_alive.mono _
      | exact LeO.none _
      | refine LeO.ite ?_ ?_
      | refine LeO.bind ?_ (fun _ => ?_)
set_option maxHeartbeats 8000000 in
set_option maxRecDepth 100000 in
theorem ductuslaw02_ClassOnce.calls (k : Nat) (a0 : Int) (r : Bool) (w : World) (h : ductuslaw02_ClassOnce.f k a0 = some r) (hL : WordsAt w) :
    Calls Tryd.prog 5 #[.int .i64 a0] w fun e w' => e = .returned (.bool r) ∧ Below w.heap.size w w' := by
  have HB := Aside0.mk (Below.refl w.heap.size w)
  have H : ((ductuslaw02_alive.f k).bind fun t201 => (if t201 = true then ((class_Of.f k a0).bind fun t202 => (ductuslaw02_ClassOnce.l0 k a0 t202 0 0)) else (none))) = some r := h
  clear h
  replace H := Option.bind_eq_some_iff.mp H
  obtain ⟨t201, A20, H⟩ := H
  replace H : (if t201 = true then ((class_Of.f k a0).bind fun t202 => (ductuslaw02_ClassOnce.l0 k a0 t202 0 0)) else (none)) = some r := H
  have A2 := Aside0.mk A20
  clear A20
  by_cases c3 : t201 = true
  rotate_left
  · replace c3 := Bool.eq_false_iff.mpr c3
    subst c3
    have H1 : (none) = some r := by rw [if_neg (show ¬ (false = true) by decide)] at H; exact H
    clear H
    have H := H1
    clear H1
    exact absurd H (by simp)
  subst c3
  have H1 : ((class_Of.f k a0).bind fun t202 => (ductuslaw02_ClassOnce.l0 k a0 t202 0 0)) = some r := by rw [if_pos rfl] at H; exact H
  clear H
  have H := H1
  clear H1
  replace H := Option.bind_eq_some_iff.mp H
  obtain ⟨t202, A40, H⟩ := H
  replace H : (ductuslaw02_ClassOnce.l0 k a0 t202 0 0) = some r := H
  have A4 := Aside0.mk A40
  clear A40
  have H' := Aside0.mk H
  clear H
  go_enter Tryd.func5, Tryd.ntmps5
  go_wp2_with (first | ((with_reducible refine gate_callee (f := 7) rfl ?_); refine goesL_ (some 7) rfl rfl Tryd.func7 (by kernel_rfl) rfl #[] rfl (by (try simp only [List.map_toArray, List.map_cons, List.map_nil]); first | done | rfl | (simp only [List.length_drop, List.length_take]; rfl)) ?_; (with_reducible refine (ductuslaw02_alive.calls k  true _ A2.out ?sideL).mono ?_); (case sideL => exact hL.at (by first | exact Below.refl _ _ | (repeat (first | (with_reducible first | exact HB.out | apply below_alloc | apply pw_below_drewN | apply below_drew1) | exact HB.out | exact Below.refl _ _)))); rintro e w5 ⟨rfl, hb⟩; refine ⟨_, rfl, ?_⟩; have n0_ := Aside0.mk (below_step (by repeat (first | (with_reducible first | exact HB.out | apply below_alloc | apply pw_below_drewN | apply below_drew1) | exact HB.out)) hb); clear HB; have HB := n0_; clear n0_; (try clear hb); (try clear hb2); (try clear hk); (try clear hi)) | ((with_reducible refine gate_callee (f := 13) rfl ?_); refine goesL_ (some 10) rfl rfl Tryd.func13 (by kernel_rfl) rfl #[.int .i64 a0] rfl (by (try simp only [List.map_toArray, List.map_cons, List.map_nil]); first | done | rfl | (simp only [List.length_drop, List.length_take]; rfl)) ?_; (with_reducible refine (class_Of.calls k a0 t202 _ A4.out).mono ?_); rintro e w6 ⟨rfl, hb⟩; refine ⟨_, rfl, ?_⟩; have n0_ := Aside0.mk (below_step (by repeat (first | (with_reducible first | exact HB.out | apply below_alloc | apply pw_below_drewN | apply below_drew1) | exact HB.out)) hb); clear HB; have HB := n0_; clear n0_; (try clear hb); (try clear hb2); (try clear hk); (try clear hi)))
  go_loopg [4, 5] k (fun kq v4 v5 w' => ∃ (x4_1 : Int) (x5_1 : Int), v4 = .int .i64 x4_1 ∧ v5 = .int .i64 x5_1 ∧ Aside0 (ductuslaw02_ClassOnce.l0 kq a0 t202 x4_1 x5_1 = some r) ∧ Aside0 (kq ≤ k) ∧ Aside0 (Below w.heap.size w w'))
  case atStart => exact ⟨(0), (0), (by first | rfl | (simp; done) | (simp [*]; done)), (by first | rfl | (simp; done) | (simp [*]; done)), H', ⟨Nat.le_refl _⟩, ⟨by repeat (first | (with_reducible first | exact HB.out | apply below_alloc | apply pw_below_drewN | apply below_drew1) | exact HB.out)⟩⟩
  case round =>
    clear H'
    try clear c1
    try clear p2
    try clear c3
    try clear c5
    obtain ⟨x4_1, x5_1, rfl, rfl, HA, HK1, HB⟩ := hrel
    cases gk with
    | zero => exact absurd HA.out (by simp [ductuslaw02_ClassOnce.l0])
    | succ k1 =>
      have H := HA.out
      clear HA
      simp only [ductuslaw02_ClassOnce.l0] at H
      by_cases c7 : x5_1 < 3
      · rw [if_pos c7] at H
        have c7b0 : decide (x5_1 < 3) = true := decide_eq_true c7
        clear c7
        replace H := Option.bind_eq_some_iff.mp H
        obtain ⟨t209, A80, H⟩ := H
        replace H : ((class_Out.f k1 t202).bind fun t210 => ((class_Neutral.f k1 t202).bind fun t211 => ((some (([t209, t210, t211] : List Bool) : List Bool)).bind fun y212 => (if 0 ≤ x5_1 then (if x5_1 < (y212.length : Int) then (if rdOf false y212 x5_1 = true then (ductuslaw02_ClassOnce.l0 k1 a0 t202 (wrap64 (x4_1 + 1)) (wrap64 (x5_1 + 1))) else (ductuslaw02_ClassOnce.l0 k1 a0 t202 x4_1 (wrap64 (x5_1 + 1)))) else (none)) else (none))))) = some r := H
        have A8 := Aside0.mk A80
        clear A80
        replace H := Option.bind_eq_some_iff.mp H
        obtain ⟨t210, A90, H⟩ := H
        replace H : ((class_Neutral.f k1 t202).bind fun t211 => ((some (([t209, t210, t211] : List Bool) : List Bool)).bind fun y212 => (if 0 ≤ x5_1 then (if x5_1 < (y212.length : Int) then (if rdOf false y212 x5_1 = true then (ductuslaw02_ClassOnce.l0 k1 a0 t202 (wrap64 (x4_1 + 1)) (wrap64 (x5_1 + 1))) else (ductuslaw02_ClassOnce.l0 k1 a0 t202 x4_1 (wrap64 (x5_1 + 1)))) else (none)) else (none)))) = some r := H
        have A9 := Aside0.mk A90
        clear A90
        replace H := Option.bind_eq_some_iff.mp H
        obtain ⟨t211, A100, H⟩ := H
        replace H : ((some (([t209, t210, t211] : List Bool) : List Bool)).bind fun y212 => (if 0 ≤ x5_1 then (if x5_1 < (y212.length : Int) then (if rdOf false y212 x5_1 = true then (ductuslaw02_ClassOnce.l0 k1 a0 t202 (wrap64 (x4_1 + 1)) (wrap64 (x5_1 + 1))) else (ductuslaw02_ClassOnce.l0 k1 a0 t202 x4_1 (wrap64 (x5_1 + 1)))) else (none)) else (none))) = some r := H
        have A10 := Aside0.mk A100
        clear A100
        obtain ⟨y212, hy212⟩ : ∃ y_ : List Bool, y_ = (([t209, t210, t211] : List Bool)) := ⟨_, rfl⟩
        replace H : (if 0 ≤ x5_1 then (if x5_1 < (y212.length : Int) then (if rdOf false y212 x5_1 = true then (ductuslaw02_ClassOnce.l0 k1 a0 t202 (wrap64 (x4_1 + 1)) (wrap64 (x5_1 + 1))) else (ductuslaw02_ClassOnce.l0 k1 a0 t202 x4_1 (wrap64 (x5_1 + 1)))) else (none)) else (none)) = some r := by first | (rw [hy212]; with_reducible exact H) | (have H2_ := (Option.bind_some _ _).symm.trans H; rw [hy212]; with_reducible exact H2_) | (have H2_ := (Option.bind_some _ _).symm.trans H; with_reducible exact H2_) | with_reducible exact H | (rw [hy212]; exact H) | exact H
        have Ny212 := Aside0.mk hy212
        clear hy212
        by_cases c11 : 0 ≤ x5_1
        rotate_left
        · rw [if_neg c11] at H
          exact absurd H (by simp)
        rw [if_pos c11] at H
        have c11b0 : decide (0 ≤ x5_1) = true := decide_eq_true c11
        clear c11
        by_cases c12 : x5_1 < (y212.length : Int)
        rotate_left
        · rw [if_neg c12] at H
          exact absurd H (by simp)
        rw [if_pos c12] at H
        have c12b0 : decide (x5_1 < (y212.length : Int)) = true := decide_eq_true c12
        clear c12
        obtain ⟨bq13, hbq13⟩ : ∃ b_ : Bool, b_ = (rdOf false y212 x5_1) := ⟨_, rfl⟩
        replace H : (if bq13 = true then (ductuslaw02_ClassOnce.l0 k1 a0 t202 (wrap64 (x4_1 + 1)) (wrap64 (x5_1 + 1))) else (ductuslaw02_ClassOnce.l0 k1 a0 t202 x4_1 (wrap64 (x5_1 + 1)))) = some r := by rw [← hbq13] at H; exact H
        have Nbq13 := Aside0.mk hbq13
        clear hbq13
        by_cases c14 : bq13 = true
        · subst c14
          have H1 : (ductuslaw02_ClassOnce.l0 k1 a0 t202 (wrap64 (x4_1 + 1)) (wrap64 (x5_1 + 1))) = some r := by rw [if_pos rfl] at H; exact H
          clear H
          have H := H1
          clear H1
          have H' := Aside0.mk H
          clear H
          go_wp2_with (first | ((with_reducible refine gate_callee (f := 9) rfl ?_); refine goesL_ (some 16) rfl rfl Tryd.func9 (by kernel_rfl) rfl #[.int .i64 t202] rfl (by (try simp only [List.map_toArray, List.map_cons, List.map_nil]); first | done | rfl | (simp only [List.length_drop, List.length_take]; rfl)) ?_; (with_reducible refine (class_Strong.calls k1 t202 t209 _ A8.out).mono ?_); rintro e w15 ⟨rfl, hb⟩; refine ⟨_, rfl, ?_⟩; have n0_ := Aside0.mk (below_step (by repeat (first | (with_reducible first | exact HB.out | apply below_alloc | apply pw_below_drewN | apply below_drew1) | exact HB.out)) hb); clear HB; have HB := n0_; clear n0_; (try clear hb); (try clear hb2); (try clear hk); (try clear hi)) | ((with_reducible refine gate_callee (f := 10) rfl ?_); refine goesL_ (some 18) rfl rfl Tryd.func10 (by kernel_rfl) rfl #[.int .i64 t202] rfl (by (try simp only [List.map_toArray, List.map_cons, List.map_nil]); first | done | rfl | (simp only [List.length_drop, List.length_take]; rfl)) ?_; (with_reducible refine (class_Out.calls k1 t202 t210 _ A9.out).mono ?_); rintro e w16 ⟨rfl, hb⟩; refine ⟨_, rfl, ?_⟩; have n0_ := Aside0.mk (below_step (by repeat (first | (with_reducible first | exact HB.out | apply below_alloc | apply pw_below_drewN | apply below_drew1) | exact HB.out)) hb); clear HB; have HB := n0_; clear n0_; (try clear hb); (try clear hb2); (try clear hk); (try clear hi)) | ((with_reducible refine gate_callee (f := 12) rfl ?_); refine goesL_ (some 20) rfl rfl Tryd.func12 (by kernel_rfl) rfl #[.int .i64 t202] rfl (by (try simp only [List.map_toArray, List.map_cons, List.map_nil]); first | done | rfl | (simp only [List.length_drop, List.length_take]; rfl)) ?_; (with_reducible refine (class_Neutral.calls k1 t202 t211 _ A10.out).mono ?_); rintro e w17 ⟨rfl, hb⟩; refine ⟨_, rfl, ?_⟩; have n0_ := Aside0.mk (below_step (by repeat (first | (with_reducible first | exact HB.out | apply below_alloc | apply pw_below_drewN | apply below_drew1) | exact HB.out)) hb); clear HB; have HB := n0_; clear n0_; (try clear hb); (try clear hb2); (try clear hk); (try clear hi)) | ((with_reducible refine gate_dst (N := 21) rfl ?_); refine Kd.R_lit Kd.bool _ 4 ?hg (N := 21) ?hd (xs := ([t209, t210, t211] : List Bool)) (inner := [.bool t209, .bool t210, .bool t211]) (ok := fun _ => True) (okp := fun _ => True) ?hr ?hp (fun _ hk => hk) trivial (Below.refl _ _) (Nat.le_refl _) (by simp) ?_; (case hd => rfl); (case hg => rfl); (case hr => first | (go_simp; done) | (go_simp; rfl)); (case hp => exact (Reps.one (show Kd.M Kd.bool _ _ _ t209 [.bool t209] from rfl) (Reps.one (show Kd.M Kd.bool _ _ _ t210 [.bool t210] from rfl) (Reps.one (show Kd.M Kd.bool _ _ _ t211 [.bool t211] from rfl) (Reps.none _ _))))); intro v213 w18 ho19 hb hg_ hnew_; clear hg_ hnew_; (first | rw [← Ny212.out] at ho19 | (simp only [Int.reduceToNat] at ho19; rw [← Ny212.out] at ho19)); have n0_ := Aside0.mk (Kd.R_lower ho19 (below_size (by repeat (first | (with_reducible first | exact HB.out | apply below_alloc | apply pw_below_drewN | apply below_drew1) | exact HB.out)))); have n1_ := Aside0.mk (below_step (by repeat (first | (with_reducible first | exact HB.out | apply below_alloc | apply pw_below_drewN | apply below_drew1) | exact HB.out)) hb); clear HB; have HO214 := n0_; have HB := n1_; clear n0_ n1_; clear hb ho19; obtain ⟨Ao20, co20, eo20⟩ := Kd.R_slice HO214.out; subst eo20; have p215 : 0 ≤ (x5_1 : Int) := of_decide_eq_true (by first | (with_reducible assumption) | assumption); have q215 : x5_1 < (y212.length : Int) := of_decide_eq_true (by first | (with_reducible assumption) | assumption); obtain ⟨ad215, e215, hx215_0⟩ := Kd.at_bool (Kd.R_reads' HO214.out).2.2 x5_1 p215 q215; (try rw [← Nbq13.out] at hx215_0); cases e215; replace p215 := eq_true p215; replace q215 := eq_true q215))
          go_roundg k1
          case measure => have := HK1.out; omega
          case rel => exact ⟨(wrap64 (x4_1 + 1)), (wrap64 (x5_1 + 1)), (by first | rfl | (simp; done) | (simp [*]; done)), (by first | rfl | (simp; done) | (simp [*]; done)), H', ⟨by have := HK1.out; omega⟩, ⟨by repeat (first | (with_reducible first | exact HB.out | apply below_alloc | apply pw_below_drewN | apply below_drew1) | exact HB.out)⟩⟩
        replace c14 := Bool.eq_false_iff.mpr c14
        subst c14
        have H1 : (ductuslaw02_ClassOnce.l0 k1 a0 t202 x4_1 (wrap64 (x5_1 + 1))) = some r := by rw [if_neg (show ¬ (false = true) by decide)] at H; exact H
        clear H
        have H := H1
        clear H1
        have H' := Aside0.mk H
        clear H
        go_wp2_with (first | ((with_reducible refine gate_callee (f := 9) rfl ?_); refine goesL_ (some 16) rfl rfl Tryd.func9 (by kernel_rfl) rfl #[.int .i64 t202] rfl (by (try simp only [List.map_toArray, List.map_cons, List.map_nil]); first | done | rfl | (simp only [List.length_drop, List.length_take]; rfl)) ?_; (with_reducible refine (class_Strong.calls k1 t202 t209 _ A8.out).mono ?_); rintro e w21 ⟨rfl, hb⟩; refine ⟨_, rfl, ?_⟩; have n0_ := Aside0.mk (below_step (by repeat (first | (with_reducible first | exact HB.out | apply below_alloc | apply pw_below_drewN | apply below_drew1) | exact HB.out)) hb); clear HB; have HB := n0_; clear n0_; (try clear hb); (try clear hb2); (try clear hk); (try clear hi)) | ((with_reducible refine gate_callee (f := 10) rfl ?_); refine goesL_ (some 18) rfl rfl Tryd.func10 (by kernel_rfl) rfl #[.int .i64 t202] rfl (by (try simp only [List.map_toArray, List.map_cons, List.map_nil]); first | done | rfl | (simp only [List.length_drop, List.length_take]; rfl)) ?_; (with_reducible refine (class_Out.calls k1 t202 t210 _ A9.out).mono ?_); rintro e w22 ⟨rfl, hb⟩; refine ⟨_, rfl, ?_⟩; have n0_ := Aside0.mk (below_step (by repeat (first | (with_reducible first | exact HB.out | apply below_alloc | apply pw_below_drewN | apply below_drew1) | exact HB.out)) hb); clear HB; have HB := n0_; clear n0_; (try clear hb); (try clear hb2); (try clear hk); (try clear hi)) | ((with_reducible refine gate_callee (f := 12) rfl ?_); refine goesL_ (some 20) rfl rfl Tryd.func12 (by kernel_rfl) rfl #[.int .i64 t202] rfl (by (try simp only [List.map_toArray, List.map_cons, List.map_nil]); first | done | rfl | (simp only [List.length_drop, List.length_take]; rfl)) ?_; (with_reducible refine (class_Neutral.calls k1 t202 t211 _ A10.out).mono ?_); rintro e w23 ⟨rfl, hb⟩; refine ⟨_, rfl, ?_⟩; have n0_ := Aside0.mk (below_step (by repeat (first | (with_reducible first | exact HB.out | apply below_alloc | apply pw_below_drewN | apply below_drew1) | exact HB.out)) hb); clear HB; have HB := n0_; clear n0_; (try clear hb); (try clear hb2); (try clear hk); (try clear hi)) | ((with_reducible refine gate_dst (N := 21) rfl ?_); refine Kd.R_lit Kd.bool _ 4 ?hg (N := 21) ?hd (xs := ([t209, t210, t211] : List Bool)) (inner := [.bool t209, .bool t210, .bool t211]) (ok := fun _ => True) (okp := fun _ => True) ?hr ?hp (fun _ hk => hk) trivial (Below.refl _ _) (Nat.le_refl _) (by simp) ?_; (case hd => rfl); (case hg => rfl); (case hr => first | (go_simp; done) | (go_simp; rfl)); (case hp => exact (Reps.one (show Kd.M Kd.bool _ _ _ t209 [.bool t209] from rfl) (Reps.one (show Kd.M Kd.bool _ _ _ t210 [.bool t210] from rfl) (Reps.one (show Kd.M Kd.bool _ _ _ t211 [.bool t211] from rfl) (Reps.none _ _))))); intro v213 w24 ho25 hb hg_ hnew_; clear hg_ hnew_; (first | rw [← Ny212.out] at ho25 | (simp only [Int.reduceToNat] at ho25; rw [← Ny212.out] at ho25)); have n0_ := Aside0.mk (Kd.R_lower ho25 (below_size (by repeat (first | (with_reducible first | exact HB.out | apply below_alloc | apply pw_below_drewN | apply below_drew1) | exact HB.out)))); have n1_ := Aside0.mk (below_step (by repeat (first | (with_reducible first | exact HB.out | apply below_alloc | apply pw_below_drewN | apply below_drew1) | exact HB.out)) hb); clear HB; have HO214 := n0_; have HB := n1_; clear n0_ n1_; clear hb ho25; obtain ⟨Ao26, co26, eo26⟩ := Kd.R_slice HO214.out; subst eo26; have p215 : 0 ≤ (x5_1 : Int) := of_decide_eq_true (by first | (with_reducible assumption) | assumption); have q215 : x5_1 < (y212.length : Int) := of_decide_eq_true (by first | (with_reducible assumption) | assumption); obtain ⟨ad215, e215, hx215_0⟩ := Kd.at_bool (Kd.R_reads' HO214.out).2.2 x5_1 p215 q215; (try rw [← Nbq13.out] at hx215_0); cases e215; replace p215 := eq_true p215; replace q215 := eq_true q215))
        go_roundg k1
        case measure => have := HK1.out; omega
        case rel => exact ⟨(x4_1), (wrap64 (x5_1 + 1)), (by first | rfl | (simp; done) | (simp [*]; done)), (by first | rfl | (simp; done) | (simp [*]; done)), H', ⟨by have := HK1.out; omega⟩, ⟨by repeat (first | (with_reducible first | exact HB.out | apply below_alloc | apply pw_below_drewN | apply below_drew1) | exact HB.out)⟩⟩
      rw [if_neg c7] at H
      have c7b0 : decide (x5_1 < 3) = false := decide_eq_false c7
      clear c7
      by_cases c27 : t202 ≥ 3
      rotate_left
      · rw [if_neg c27] at H
        have c27b0 : decide (3 ≤ t202) = false := decide_eq_false c27
        clear c27
        by_cases c51 : t202 ≥ 0
        rotate_left
        · rw [if_neg c51] at H
          exact absurd H (by simp)
        rw [if_pos c51] at H
        have c51b0 : decide (0 ≤ t202) = true := decide_eq_true c51
        clear c51
        by_cases c52 : t202 < 23
        rotate_left
        · rw [if_neg c52] at H
          exact absurd H (by simp)
        rw [if_pos c52] at H
        have c52b0 : decide (t202 < 23) = true := decide_eq_true c52
        clear c52
        replace H := Option.bind_eq_some_iff.mp H
        obtain ⟨t206, A530, H⟩ := H
        replace H : (if t206.toList = ([] : List UInt8) then (none) else (if x4_1 ≤ 1 then (if ((x4_1 == 0) == false) = true then ((class_Opens.f k1 t202).bind fun t207 => (if t207 = true then ((class_Neutral.f k1 t202).bind fun t208 => (if t208 = true then (if a0 ≥ 0 then (if a0 ≤ 1114111 then (some true) else (some (t202 == 0))) else (some (t202 == 0))) else (none))) else (if a0 ≥ 0 then (if a0 ≤ 1114111 then (some true) else (some (t202 == 0))) else (some (t202 == 0))))) else (none)) else (none))) = some r := H
        have A53 := Aside0.mk A530
        clear A530
        by_cases c54 : t206.toList = ([] : List UInt8)
        · rw [if_pos c54] at H
          exact absurd H (by simp)
        rw [if_neg c54] at H
        have c54b0 : (t206.toList == ([] : List UInt8)) = false := beq_eq_false_iff_ne.mpr c54
        have c54b1 : (t206.toList != ([] : List UInt8)) = true := bne_iff_ne.mpr c54
        by_cases c55 : x4_1 ≤ 1
        rotate_left
        · rw [if_neg c55] at H
          exact absurd H (by simp)
        rw [if_pos c55] at H
        have c55b0 : decide (x4_1 ≤ 1) = true := decide_eq_true c55
        clear c55
        by_cases c56 : ((x4_1 == 0) == false) = true
        rotate_left
        · rw [if_neg c56] at H
          exact absurd H (by simp)
        rw [if_pos c56] at H
        have c56b0 : ((x4_1 == 0) == false) = true := c56
        (try (have c56b1 : decide ((x4_1 == 0) = false) = true := by simpa using c56))
        (try (have c56b2 : ((x4_1 == 0) == false) = true := by simpa using c56))
        clear c56
        replace H := Option.bind_eq_some_iff.mp H
        obtain ⟨t207, A570, H⟩ := H
        replace H : (if t207 = true then ((class_Neutral.f k1 t202).bind fun t208 => (if t208 = true then (if a0 ≥ 0 then (if a0 ≤ 1114111 then (some true) else (some (t202 == 0))) else (some (t202 == 0))) else (none))) else (if a0 ≥ 0 then (if a0 ≤ 1114111 then (some true) else (some (t202 == 0))) else (some (t202 == 0)))) = some r := H
        have A57 := Aside0.mk A570
        clear A570
        by_cases c58 : t207 = true
        rotate_left
        · replace c58 := Bool.eq_false_iff.mpr c58
          subst c58
          have H1 : (if a0 ≥ 0 then (if a0 ≤ 1114111 then (some true) else (some (t202 == 0))) else (some (t202 == 0))) = some r := by rw [if_neg (show ¬ (false = true) by decide)] at H; exact H
          clear H
          have H := H1
          clear H1
          by_cases c69 : a0 ≥ 0
          rotate_left
          · rw [if_neg c69] at H
            have c69b0 : decide (0 ≤ a0) = false := decide_eq_false c69
            clear c69
            obtain rfl := Option.some.inj H
            go_wp2_with (first | (go_at_call 8; (with_reducible refine (class_Word.calls t202 t206 _ A53.out ?sideL).mono ?_); (case sideL => exact hL.at (by first | exact Below.refl _ _ | (repeat (first | (with_reducible first | exact HB.out | apply below_alloc | apply pw_below_drewN | apply below_drew1) | exact HB.out | exact Below.refl _ _)))); rintro e w' ⟨rfl, ⟨nd, rfl⟩⟩) | (go_at_call 11; (with_reducible refine (class_Opens.calls k1 t202 false _ A57.out).mono ?_); rintro e w73 ⟨rfl, hb⟩; have n0_ := Aside0.mk (below_step (by repeat (first | (with_reducible first | exact HB.out | apply below_alloc | apply pw_below_drewN | apply below_drew1) | exact HB.out)) hb); clear HB; have HB := n0_; clear n0_; (try clear hb); (try clear hb2); (try clear hk); (try clear hi)))
            go_ret
            exact ⟨by first | rfl | (simp [errW_none, errW_some] <;> rfl) | (simp [*, errW_none, errW_some] <;> rfl), by repeat (first | (with_reducible first | exact HB.out | apply below_alloc | apply pw_below_drewN | apply below_drew1) | exact HB.out)⟩
          rw [if_pos c69] at H
          have c69b0 : decide (0 ≤ a0) = true := decide_eq_true c69
          clear c69
          by_cases c70 : a0 ≤ 1114111
          · rw [if_pos c70] at H
            have c70b0 : decide (a0 ≤ 1114111) = true := decide_eq_true c70
            clear c70
            obtain rfl := Option.some.inj H
            go_wp2_with (first | (go_at_call 8; (with_reducible refine (class_Word.calls t202 t206 _ A53.out ?sideL).mono ?_); (case sideL => exact hL.at (by first | exact Below.refl _ _ | (repeat (first | (with_reducible first | exact HB.out | apply below_alloc | apply pw_below_drewN | apply below_drew1) | exact HB.out | exact Below.refl _ _)))); rintro e w' ⟨rfl, ⟨nd, rfl⟩⟩) | (go_at_call 11; (with_reducible refine (class_Opens.calls k1 t202 false _ A57.out).mono ?_); rintro e w71 ⟨rfl, hb⟩; have n0_ := Aside0.mk (below_step (by repeat (first | (with_reducible first | exact HB.out | apply below_alloc | apply pw_below_drewN | apply below_drew1) | exact HB.out)) hb); clear HB; have HB := n0_; clear n0_; (try clear hb); (try clear hb2); (try clear hk); (try clear hi)))
            go_ret
            exact ⟨by first | rfl | (simp [errW_none, errW_some] <;> rfl) | (simp [*, errW_none, errW_some] <;> rfl), by repeat (first | (with_reducible first | exact HB.out | apply below_alloc | apply pw_below_drewN | apply below_drew1) | exact HB.out)⟩
          rw [if_neg c70] at H
          have c70b0 : decide (a0 ≤ 1114111) = false := decide_eq_false c70
          clear c70
          obtain rfl := Option.some.inj H
          go_wp2_with (first | (go_at_call 8; (with_reducible refine (class_Word.calls t202 t206 _ A53.out ?sideL).mono ?_); (case sideL => exact hL.at (by first | exact Below.refl _ _ | (repeat (first | (with_reducible first | exact HB.out | apply below_alloc | apply pw_below_drewN | apply below_drew1) | exact HB.out | exact Below.refl _ _)))); rintro e w' ⟨rfl, ⟨nd, rfl⟩⟩) | (go_at_call 11; (with_reducible refine (class_Opens.calls k1 t202 false _ A57.out).mono ?_); rintro e w72 ⟨rfl, hb⟩; have n0_ := Aside0.mk (below_step (by repeat (first | (with_reducible first | exact HB.out | apply below_alloc | apply pw_below_drewN | apply below_drew1) | exact HB.out)) hb); clear HB; have HB := n0_; clear n0_; (try clear hb); (try clear hb2); (try clear hk); (try clear hi)))
          go_ret
          exact ⟨by first | rfl | (simp [errW_none, errW_some] <;> rfl) | (simp [*, errW_none, errW_some] <;> rfl), by repeat (first | (with_reducible first | exact HB.out | apply below_alloc | apply pw_below_drewN | apply below_drew1) | exact HB.out)⟩
        subst c58
        have H1 : ((class_Neutral.f k1 t202).bind fun t208 => (if t208 = true then (if a0 ≥ 0 then (if a0 ≤ 1114111 then (some true) else (some (t202 == 0))) else (some (t202 == 0))) else (none))) = some r := by rw [if_pos rfl] at H; exact H
        clear H
        have H := H1
        clear H1
        replace H := Option.bind_eq_some_iff.mp H
        obtain ⟨t208, A590, H⟩ := H
        replace H : (if t208 = true then (if a0 ≥ 0 then (if a0 ≤ 1114111 then (some true) else (some (t202 == 0))) else (some (t202 == 0))) else (none)) = some r := H
        have A59 := Aside0.mk A590
        clear A590
        by_cases c60 : t208 = true
        rotate_left
        · replace c60 := Bool.eq_false_iff.mpr c60
          subst c60
          have H1 : (none) = some r := by rw [if_neg (show ¬ (false = true) by decide)] at H; exact H
          clear H
          have H := H1
          clear H1
          exact absurd H (by simp)
        subst c60
        have H1 : (if a0 ≥ 0 then (if a0 ≤ 1114111 then (some true) else (some (t202 == 0))) else (some (t202 == 0))) = some r := by rw [if_pos rfl] at H; exact H
        clear H
        have H := H1
        clear H1
        by_cases c61 : a0 ≥ 0
        rotate_left
        · rw [if_neg c61] at H
          have c61b0 : decide (0 ≤ a0) = false := decide_eq_false c61
          clear c61
          obtain rfl := Option.some.inj H
          go_wp2_with (first | (go_at_call 8; (with_reducible refine (class_Word.calls t202 t206 _ A53.out ?sideL).mono ?_); (case sideL => exact hL.at (by first | exact Below.refl _ _ | (repeat (first | (with_reducible first | exact HB.out | apply below_alloc | apply pw_below_drewN | apply below_drew1) | exact HB.out | exact Below.refl _ _)))); rintro e w' ⟨rfl, ⟨nd, rfl⟩⟩) | (go_at_call 11; (with_reducible refine (class_Opens.calls k1 t202 true _ A57.out).mono ?_); rintro e w67 ⟨rfl, hb⟩; have n0_ := Aside0.mk (below_step (by repeat (first | (with_reducible first | exact HB.out | apply below_alloc | apply pw_below_drewN | apply below_drew1) | exact HB.out)) hb); clear HB; have HB := n0_; clear n0_; (try clear hb); (try clear hb2); (try clear hk); (try clear hi)) | (go_at_call 12; (with_reducible refine (class_Neutral.calls k1 t202 true _ A59.out).mono ?_); rintro e w68 ⟨rfl, hb⟩; have n0_ := Aside0.mk (below_step (by repeat (first | (with_reducible first | exact HB.out | apply below_alloc | apply pw_below_drewN | apply below_drew1) | exact HB.out)) hb); clear HB; have HB := n0_; clear n0_; (try clear hb); (try clear hb2); (try clear hk); (try clear hi)))
          go_ret
          exact ⟨by first | rfl | (simp [errW_none, errW_some] <;> rfl) | (simp [*, errW_none, errW_some] <;> rfl), by repeat (first | (with_reducible first | exact HB.out | apply below_alloc | apply pw_below_drewN | apply below_drew1) | exact HB.out)⟩
        rw [if_pos c61] at H
        have c61b0 : decide (0 ≤ a0) = true := decide_eq_true c61
        clear c61
        by_cases c62 : a0 ≤ 1114111
        · rw [if_pos c62] at H
          have c62b0 : decide (a0 ≤ 1114111) = true := decide_eq_true c62
          clear c62
          obtain rfl := Option.some.inj H
          go_wp2_with (first | (go_at_call 8; (with_reducible refine (class_Word.calls t202 t206 _ A53.out ?sideL).mono ?_); (case sideL => exact hL.at (by first | exact Below.refl _ _ | (repeat (first | (with_reducible first | exact HB.out | apply below_alloc | apply pw_below_drewN | apply below_drew1) | exact HB.out | exact Below.refl _ _)))); rintro e w' ⟨rfl, ⟨nd, rfl⟩⟩) | (go_at_call 11; (with_reducible refine (class_Opens.calls k1 t202 true _ A57.out).mono ?_); rintro e w63 ⟨rfl, hb⟩; have n0_ := Aside0.mk (below_step (by repeat (first | (with_reducible first | exact HB.out | apply below_alloc | apply pw_below_drewN | apply below_drew1) | exact HB.out)) hb); clear HB; have HB := n0_; clear n0_; (try clear hb); (try clear hb2); (try clear hk); (try clear hi)) | (go_at_call 12; (with_reducible refine (class_Neutral.calls k1 t202 true _ A59.out).mono ?_); rintro e w64 ⟨rfl, hb⟩; have n0_ := Aside0.mk (below_step (by repeat (first | (with_reducible first | exact HB.out | apply below_alloc | apply pw_below_drewN | apply below_drew1) | exact HB.out)) hb); clear HB; have HB := n0_; clear n0_; (try clear hb); (try clear hb2); (try clear hk); (try clear hi)))
          go_ret
          exact ⟨by first | rfl | (simp [errW_none, errW_some] <;> rfl) | (simp [*, errW_none, errW_some] <;> rfl), by repeat (first | (with_reducible first | exact HB.out | apply below_alloc | apply pw_below_drewN | apply below_drew1) | exact HB.out)⟩
        rw [if_neg c62] at H
        have c62b0 : decide (a0 ≤ 1114111) = false := decide_eq_false c62
        clear c62
        obtain rfl := Option.some.inj H
        go_wp2_with (first | (go_at_call 8; (with_reducible refine (class_Word.calls t202 t206 _ A53.out ?sideL).mono ?_); (case sideL => exact hL.at (by first | exact Below.refl _ _ | (repeat (first | (with_reducible first | exact HB.out | apply below_alloc | apply pw_below_drewN | apply below_drew1) | exact HB.out | exact Below.refl _ _)))); rintro e w' ⟨rfl, ⟨nd, rfl⟩⟩) | (go_at_call 11; (with_reducible refine (class_Opens.calls k1 t202 true _ A57.out).mono ?_); rintro e w65 ⟨rfl, hb⟩; have n0_ := Aside0.mk (below_step (by repeat (first | (with_reducible first | exact HB.out | apply below_alloc | apply pw_below_drewN | apply below_drew1) | exact HB.out)) hb); clear HB; have HB := n0_; clear n0_; (try clear hb); (try clear hb2); (try clear hk); (try clear hi)) | (go_at_call 12; (with_reducible refine (class_Neutral.calls k1 t202 true _ A59.out).mono ?_); rintro e w66 ⟨rfl, hb⟩; have n0_ := Aside0.mk (below_step (by repeat (first | (with_reducible first | exact HB.out | apply below_alloc | apply pw_below_drewN | apply below_drew1) | exact HB.out)) hb); clear HB; have HB := n0_; clear n0_; (try clear hb); (try clear hb2); (try clear hk); (try clear hi)))
        go_ret
        exact ⟨by first | rfl | (simp [errW_none, errW_some] <;> rfl) | (simp [*, errW_none, errW_some] <;> rfl), by repeat (first | (with_reducible first | exact HB.out | apply below_alloc | apply pw_below_drewN | apply below_drew1) | exact HB.out)⟩
      rw [if_pos c27] at H
      have c27b0 : decide (3 ≤ t202) = true := decide_eq_true c27
      clear c27
      by_cases c28 : t202 ≥ 0
      rotate_left
      · rw [if_neg c28] at H
        exact absurd H (by simp)
      rw [if_pos c28] at H
      have c28b0 : decide (0 ≤ t202) = true := decide_eq_true c28
      clear c28
      by_cases c29 : t202 < 23
      rotate_left
      · rw [if_neg c29] at H
        exact absurd H (by simp)
      rw [if_pos c29] at H
      have c29b0 : decide (t202 < 23) = true := decide_eq_true c29
      clear c29
      replace H := Option.bind_eq_some_iff.mp H
      obtain ⟨t203, A300, H⟩ := H
      replace H : (if t203.toList = ([] : List UInt8) then (none) else (if x4_1 ≤ 1 then (if ((x4_1 == 0) == (decide (t202 ≤ 8))) = true then ((class_Opens.f k1 t202).bind fun t204 => (if t204 = true then ((class_Neutral.f k1 t202).bind fun t205 => (if t205 = true then (if a0 ≥ 0 then (if a0 ≤ 1114111 then (some true) else (some (t202 == 0))) else (some (t202 == 0))) else (none))) else (if a0 ≥ 0 then (if a0 ≤ 1114111 then (some true) else (some (t202 == 0))) else (some (t202 == 0))))) else (none)) else (none))) = some r := H
      have A30 := Aside0.mk A300
      clear A300
      by_cases c31 : t203.toList = ([] : List UInt8)
      · rw [if_pos c31] at H
        exact absurd H (by simp)
      rw [if_neg c31] at H
      have c31b0 : (t203.toList == ([] : List UInt8)) = false := beq_eq_false_iff_ne.mpr c31
      have c31b1 : (t203.toList != ([] : List UInt8)) = true := bne_iff_ne.mpr c31
      by_cases c32 : x4_1 ≤ 1
      rotate_left
      · rw [if_neg c32] at H
        exact absurd H (by simp)
      rw [if_pos c32] at H
      have c32b0 : decide (x4_1 ≤ 1) = true := decide_eq_true c32
      clear c32
      by_cases c33 : ((x4_1 == 0) == (decide (t202 ≤ 8))) = true
      rotate_left
      · rw [if_neg c33] at H
        exact absurd H (by simp)
      rw [if_pos c33] at H
      have c33b0 : ((x4_1 == 0) == (decide (t202 ≤ 8))) = true := c33
      (try (have c33b1 : decide ((x4_1 == 0) = (decide (t202 ≤ 8))) = true := by simpa using c33))
      (try (have c33b2 : ((x4_1 == 0) == (decide (t202 ≤ 8))) = true := by simpa using c33))
      clear c33
      replace H := Option.bind_eq_some_iff.mp H
      obtain ⟨t204, A340, H⟩ := H
      replace H : (if t204 = true then ((class_Neutral.f k1 t202).bind fun t205 => (if t205 = true then (if a0 ≥ 0 then (if a0 ≤ 1114111 then (some true) else (some (t202 == 0))) else (some (t202 == 0))) else (none))) else (if a0 ≥ 0 then (if a0 ≤ 1114111 then (some true) else (some (t202 == 0))) else (some (t202 == 0)))) = some r := H
      have A34 := Aside0.mk A340
      clear A340
      by_cases c35 : t204 = true
      rotate_left
      · replace c35 := Bool.eq_false_iff.mpr c35
        subst c35
        have H1 : (if a0 ≥ 0 then (if a0 ≤ 1114111 then (some true) else (some (t202 == 0))) else (some (t202 == 0))) = some r := by rw [if_neg (show ¬ (false = true) by decide)] at H; exact H
        clear H
        have H := H1
        clear H1
        by_cases c46 : a0 ≥ 0
        rotate_left
        · rw [if_neg c46] at H
          have c46b0 : decide (0 ≤ a0) = false := decide_eq_false c46
          clear c46
          obtain rfl := Option.some.inj H
          go_wp2_with (first | (go_at_call 8; (with_reducible refine (class_Word.calls t202 t203 _ A30.out ?sideL).mono ?_); (case sideL => exact hL.at (by first | exact Below.refl _ _ | (repeat (first | (with_reducible first | exact HB.out | apply below_alloc | apply pw_below_drewN | apply below_drew1) | exact HB.out | exact Below.refl _ _)))); rintro e w' ⟨rfl, ⟨nd, rfl⟩⟩) | (go_at_call 11; (with_reducible refine (class_Opens.calls k1 t202 false _ A34.out).mono ?_); rintro e w50 ⟨rfl, hb⟩; have n0_ := Aside0.mk (below_step (by repeat (first | (with_reducible first | exact HB.out | apply below_alloc | apply pw_below_drewN | apply below_drew1) | exact HB.out)) hb); clear HB; have HB := n0_; clear n0_; (try clear hb); (try clear hb2); (try clear hk); (try clear hi)))
          go_ret
          exact ⟨by first | rfl | (simp [errW_none, errW_some] <;> rfl) | (simp [*, errW_none, errW_some] <;> rfl), by repeat (first | (with_reducible first | exact HB.out | apply below_alloc | apply pw_below_drewN | apply below_drew1) | exact HB.out)⟩
        rw [if_pos c46] at H
        have c46b0 : decide (0 ≤ a0) = true := decide_eq_true c46
        clear c46
        by_cases c47 : a0 ≤ 1114111
        · rw [if_pos c47] at H
          have c47b0 : decide (a0 ≤ 1114111) = true := decide_eq_true c47
          clear c47
          obtain rfl := Option.some.inj H
          go_wp2_with (first | (go_at_call 8; (with_reducible refine (class_Word.calls t202 t203 _ A30.out ?sideL).mono ?_); (case sideL => exact hL.at (by first | exact Below.refl _ _ | (repeat (first | (with_reducible first | exact HB.out | apply below_alloc | apply pw_below_drewN | apply below_drew1) | exact HB.out | exact Below.refl _ _)))); rintro e w' ⟨rfl, ⟨nd, rfl⟩⟩) | (go_at_call 11; (with_reducible refine (class_Opens.calls k1 t202 false _ A34.out).mono ?_); rintro e w48 ⟨rfl, hb⟩; have n0_ := Aside0.mk (below_step (by repeat (first | (with_reducible first | exact HB.out | apply below_alloc | apply pw_below_drewN | apply below_drew1) | exact HB.out)) hb); clear HB; have HB := n0_; clear n0_; (try clear hb); (try clear hb2); (try clear hk); (try clear hi)))
          go_ret
          exact ⟨by first | rfl | (simp [errW_none, errW_some] <;> rfl) | (simp [*, errW_none, errW_some] <;> rfl), by repeat (first | (with_reducible first | exact HB.out | apply below_alloc | apply pw_below_drewN | apply below_drew1) | exact HB.out)⟩
        rw [if_neg c47] at H
        have c47b0 : decide (a0 ≤ 1114111) = false := decide_eq_false c47
        clear c47
        obtain rfl := Option.some.inj H
        go_wp2_with (first | (go_at_call 8; (with_reducible refine (class_Word.calls t202 t203 _ A30.out ?sideL).mono ?_); (case sideL => exact hL.at (by first | exact Below.refl _ _ | (repeat (first | (with_reducible first | exact HB.out | apply below_alloc | apply pw_below_drewN | apply below_drew1) | exact HB.out | exact Below.refl _ _)))); rintro e w' ⟨rfl, ⟨nd, rfl⟩⟩) | (go_at_call 11; (with_reducible refine (class_Opens.calls k1 t202 false _ A34.out).mono ?_); rintro e w49 ⟨rfl, hb⟩; have n0_ := Aside0.mk (below_step (by repeat (first | (with_reducible first | exact HB.out | apply below_alloc | apply pw_below_drewN | apply below_drew1) | exact HB.out)) hb); clear HB; have HB := n0_; clear n0_; (try clear hb); (try clear hb2); (try clear hk); (try clear hi)))
        go_ret
        exact ⟨by first | rfl | (simp [errW_none, errW_some] <;> rfl) | (simp [*, errW_none, errW_some] <;> rfl), by repeat (first | (with_reducible first | exact HB.out | apply below_alloc | apply pw_below_drewN | apply below_drew1) | exact HB.out)⟩
      subst c35
      have H1 : ((class_Neutral.f k1 t202).bind fun t205 => (if t205 = true then (if a0 ≥ 0 then (if a0 ≤ 1114111 then (some true) else (some (t202 == 0))) else (some (t202 == 0))) else (none))) = some r := by rw [if_pos rfl] at H; exact H
      clear H
      have H := H1
      clear H1
      replace H := Option.bind_eq_some_iff.mp H
      obtain ⟨t205, A360, H⟩ := H
      replace H : (if t205 = true then (if a0 ≥ 0 then (if a0 ≤ 1114111 then (some true) else (some (t202 == 0))) else (some (t202 == 0))) else (none)) = some r := H
      have A36 := Aside0.mk A360
      clear A360
      by_cases c37 : t205 = true
      rotate_left
      · replace c37 := Bool.eq_false_iff.mpr c37
        subst c37
        have H1 : (none) = some r := by rw [if_neg (show ¬ (false = true) by decide)] at H; exact H
        clear H
        have H := H1
        clear H1
        exact absurd H (by simp)
      subst c37
      have H1 : (if a0 ≥ 0 then (if a0 ≤ 1114111 then (some true) else (some (t202 == 0))) else (some (t202 == 0))) = some r := by rw [if_pos rfl] at H; exact H
      clear H
      have H := H1
      clear H1
      by_cases c38 : a0 ≥ 0
      rotate_left
      · rw [if_neg c38] at H
        have c38b0 : decide (0 ≤ a0) = false := decide_eq_false c38
        clear c38
        obtain rfl := Option.some.inj H
        go_wp2_with (first | (go_at_call 8; (with_reducible refine (class_Word.calls t202 t203 _ A30.out ?sideL).mono ?_); (case sideL => exact hL.at (by first | exact Below.refl _ _ | (repeat (first | (with_reducible first | exact HB.out | apply below_alloc | apply pw_below_drewN | apply below_drew1) | exact HB.out | exact Below.refl _ _)))); rintro e w' ⟨rfl, ⟨nd, rfl⟩⟩) | (go_at_call 11; (with_reducible refine (class_Opens.calls k1 t202 true _ A34.out).mono ?_); rintro e w44 ⟨rfl, hb⟩; have n0_ := Aside0.mk (below_step (by repeat (first | (with_reducible first | exact HB.out | apply below_alloc | apply pw_below_drewN | apply below_drew1) | exact HB.out)) hb); clear HB; have HB := n0_; clear n0_; (try clear hb); (try clear hb2); (try clear hk); (try clear hi)) | (go_at_call 12; (with_reducible refine (class_Neutral.calls k1 t202 true _ A36.out).mono ?_); rintro e w45 ⟨rfl, hb⟩; have n0_ := Aside0.mk (below_step (by repeat (first | (with_reducible first | exact HB.out | apply below_alloc | apply pw_below_drewN | apply below_drew1) | exact HB.out)) hb); clear HB; have HB := n0_; clear n0_; (try clear hb); (try clear hb2); (try clear hk); (try clear hi)))
        go_ret
        exact ⟨by first | rfl | (simp [errW_none, errW_some] <;> rfl) | (simp [*, errW_none, errW_some] <;> rfl), by repeat (first | (with_reducible first | exact HB.out | apply below_alloc | apply pw_below_drewN | apply below_drew1) | exact HB.out)⟩
      rw [if_pos c38] at H
      have c38b0 : decide (0 ≤ a0) = true := decide_eq_true c38
      clear c38
      by_cases c39 : a0 ≤ 1114111
      · rw [if_pos c39] at H
        have c39b0 : decide (a0 ≤ 1114111) = true := decide_eq_true c39
        clear c39
        obtain rfl := Option.some.inj H
        go_wp2_with (first | (go_at_call 8; (with_reducible refine (class_Word.calls t202 t203 _ A30.out ?sideL).mono ?_); (case sideL => exact hL.at (by first | exact Below.refl _ _ | (repeat (first | (with_reducible first | exact HB.out | apply below_alloc | apply pw_below_drewN | apply below_drew1) | exact HB.out | exact Below.refl _ _)))); rintro e w' ⟨rfl, ⟨nd, rfl⟩⟩) | (go_at_call 11; (with_reducible refine (class_Opens.calls k1 t202 true _ A34.out).mono ?_); rintro e w40 ⟨rfl, hb⟩; have n0_ := Aside0.mk (below_step (by repeat (first | (with_reducible first | exact HB.out | apply below_alloc | apply pw_below_drewN | apply below_drew1) | exact HB.out)) hb); clear HB; have HB := n0_; clear n0_; (try clear hb); (try clear hb2); (try clear hk); (try clear hi)) | (go_at_call 12; (with_reducible refine (class_Neutral.calls k1 t202 true _ A36.out).mono ?_); rintro e w41 ⟨rfl, hb⟩; have n0_ := Aside0.mk (below_step (by repeat (first | (with_reducible first | exact HB.out | apply below_alloc | apply pw_below_drewN | apply below_drew1) | exact HB.out)) hb); clear HB; have HB := n0_; clear n0_; (try clear hb); (try clear hb2); (try clear hk); (try clear hi)))
        go_ret
        exact ⟨by first | rfl | (simp [errW_none, errW_some] <;> rfl) | (simp [*, errW_none, errW_some] <;> rfl), by repeat (first | (with_reducible first | exact HB.out | apply below_alloc | apply pw_below_drewN | apply below_drew1) | exact HB.out)⟩
      rw [if_neg c39] at H
      have c39b0 : decide (a0 ≤ 1114111) = false := decide_eq_false c39
      clear c39
      obtain rfl := Option.some.inj H
      go_wp2_with (first | (go_at_call 8; (with_reducible refine (class_Word.calls t202 t203 _ A30.out ?sideL).mono ?_); (case sideL => exact hL.at (by first | exact Below.refl _ _ | (repeat (first | (with_reducible first | exact HB.out | apply below_alloc | apply pw_below_drewN | apply below_drew1) | exact HB.out | exact Below.refl _ _)))); rintro e w' ⟨rfl, ⟨nd, rfl⟩⟩) | (go_at_call 11; (with_reducible refine (class_Opens.calls k1 t202 true _ A34.out).mono ?_); rintro e w42 ⟨rfl, hb⟩; have n0_ := Aside0.mk (below_step (by repeat (first | (with_reducible first | exact HB.out | apply below_alloc | apply pw_below_drewN | apply below_drew1) | exact HB.out)) hb); clear HB; have HB := n0_; clear n0_; (try clear hb); (try clear hb2); (try clear hk); (try clear hi)) | (go_at_call 12; (with_reducible refine (class_Neutral.calls k1 t202 true _ A36.out).mono ?_); rintro e w43 ⟨rfl, hb⟩; have n0_ := Aside0.mk (below_step (by repeat (first | (with_reducible first | exact HB.out | apply below_alloc | apply pw_below_drewN | apply below_drew1) | exact HB.out)) hb); clear HB; have HB := n0_; clear n0_; (try clear hb); (try clear hb2); (try clear hk); (try clear hi)))
      go_ret
      exact ⟨by first | rfl | (simp [errW_none, errW_some] <;> rfl) | (simp [*, errW_none, errW_some] <;> rfl), by repeat (first | (with_reducible first | exact HB.out | apply below_alloc | apply pw_below_drewN | apply below_drew1) | exact HB.out)⟩

/-- THE ONE PURE STATEMENT of ductuslaw02_ClassOnce: yours. -/
def ductuslaw02_ClassOnce.Pure : Prop := ∀ (a0 : Int), (Lit.int .i64 a0).wf = true → ∃ k, ductuslaw02_ClassOnce.f k a0 = some true
theorem ductuslaw02_ClassOnce.walk (P : ductuslaw02_ClassOnce.Pure) (a0 : Int) (w : World) (w0 : (Lit.int .i64 a0).wf = true) (hL : WordsAt w) :
    Calls Tryd.prog 5 #[.int .i64 a0] w fun e w' => e = .returned (.bool true) ∧ Below w.heap.size w w' := by
  obtain ⟨k, h⟩ := P a0 w0
  refine (ductuslaw02_ClassOnce.calls k a0 true w h hL).mono ?_
  rintro e w' ⟨rfl, hd⟩
  exact ⟨rfl, hd⟩

end Go.Proofs.YtnbhncmggfjgdaaDoor.P
