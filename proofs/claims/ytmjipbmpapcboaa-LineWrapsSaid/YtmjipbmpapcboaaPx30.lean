/- Printed by a program of this claim's own over the translation: Lean functions of the Go functions, each with its proof; no condition beyond those written. -/
import Derived.Test.YtmjipbmpapcboaaPx0
import Derived.Test.YtmjipbmpapcboaaPx2
import Derived.Test.YtmjipbmpapcboaaPx3
import Derived.Test.YtmjipbmpapcboaaPx6
namespace Go.Proofs.Ytmjipbmpapcboaa.P
open Go.RowKit Go.Proofs.YtmjipbmpapcboaaW.PrintWords Go.Proofs.YtmjipbmpapcboaaW.PrintLast Go.Proofs.YtmjipbmpapcboaaW.PrintMore
attribute [local go_sem] max2_int min2_int max_two min_two max_three min_three max_four min_four   -- for this text's walks alone
set_option linter.unusedVariables false
set_option linter.unusedSimpArgs false

/-! ### ductusref11_Level: function 44 -/
mutual
def ductusref11_Level.j0 : Nat → Int → Int → Bool → Option (Int)
  | 0, _, _, _ => none
  | k + 1, x0, x1, x5 => if (Int.tmod x1 2) = 0 then (ductusref11_Level.j1 k x0 x1 x5 (x0 == 1)) else (ductusref11_Level.j1 k x0 x1 x5 false)
def ductusref11_Level.j1 : Nat → Int → Int → Bool → Bool → Option (Int)
  | 0, _, _, _, _ => none
  | k + 1, x0, x1, x5, x12 => if x12 = true then (some (wrap64 (x1 + 1))) else (if (Int.tmod x1 2) = 0 then (ductusref11_Level.j2 k x0 x1 x5 x5) else (ductusref11_Level.j2 k x0 x1 x5 false))
def ductusref11_Level.j2 : Nat → Int → Int → Bool → Bool → Option (Int)
  | 0, _, _, _, _ => none
  | k + 1, x0, x1, x5, x22 => if x22 = true then (some (wrap64 (x1 + 2))) else (if (Int.tmod x1 2) = 0 then (some x1) else (if x0 = 0 then (some (wrap64 (x1 + 1))) else (if x5 = true then (some (wrap64 (x1 + 1))) else (some x1))))
end
def ductusref11_Level.f (k : Nat) (a0 : Int) (a1 : Int) : Option (Int) := if a0 = 6 then (ductusref11_Level.j0 k a0 a1 true) else (ductusref11_Level.j0 k a0 a1 (a0 == 3))
theorem ductusref11_Level.mono_l : ∀ k, (∀ y0 y1 y2, LeO (ductusref11_Level.j0 k y0 y1 y2) (ductusref11_Level.j0 (k + 1) y0 y1 y2)) ∧ (∀ y0 y1 y2 y3, LeO (ductusref11_Level.j1 k y0 y1 y2 y3) (ductusref11_Level.j1 (k + 1) y0 y1 y2 y3)) ∧ (∀ y0 y1 y2 y3, LeO (ductusref11_Level.j2 k y0 y1 y2 y3) (ductusref11_Level.j2 (k + 1) y0 y1 y2 y3))
  | 0 => ⟨fun _ _ _ r h => by simp [ductusref11_Level.j0] at h, fun _ _ _ _ r h => by simp [ductusref11_Level.j1] at h, fun _ _ _ _ r h => by simp [ductusref11_Level.j2] at h⟩
  | k + 1 => by
    obtain ⟨ih0, ih1, ih2⟩ := ductusref11_Level.mono_l k
    refine ⟨?_, ?_, ?_⟩
    · intro y0 y1 y2
      unfold ductusref11_Level.j0
      repeat' first
      | (with_reducible exact ih0 _ _ _)
      | (with_reducible exact ih1 _ _ _ _)
      | (with_reducible exact ih2 _ _ _ _)
      | (with_reducible exact LeO.refl _)
      | (with_reducible exact LeO.none _)
      | (with_reducible refine LeO.ite ?_ ?_)
      | (with_reducible refine LeO.bind ?_ (fun _ => ?_))
      | exact ih0 _ _ _
      | exact ih1 _ _ _ _
      | exact ih2 _ _ _ _
      | exact LeO.none _
      | refine LeO.ite ?_ ?_
      | refine LeO.bind ?_ (fun _ => ?_)
    · intro y0 y1 y2 y3
      unfold ductusref11_Level.j1
      repeat' first
      | (with_reducible exact ih0 _ _ _)
      | (with_reducible exact ih1 _ _ _ _)
      | (with_reducible exact ih2 _ _ _ _)
      | (with_reducible exact LeO.refl _)
      | (with_reducible exact LeO.none _)
      | (with_reducible refine LeO.ite ?_ ?_)
      | (with_reducible refine LeO.bind ?_ (fun _ => ?_))
      | exact ih0 _ _ _
      | exact ih1 _ _ _ _
      | exact ih2 _ _ _ _
      | exact LeO.none _
      | refine LeO.ite ?_ ?_
      | refine LeO.bind ?_ (fun _ => ?_)
    · intro y0 y1 y2 y3
      unfold ductusref11_Level.j2
      repeat' first
      | (with_reducible exact ih0 _ _ _)
      | (with_reducible exact ih1 _ _ _ _)
      | (with_reducible exact ih2 _ _ _ _)
      | (with_reducible exact LeO.refl _)
      | (with_reducible exact LeO.none _)
      | (with_reducible refine LeO.ite ?_ ?_)
      | (with_reducible refine LeO.bind ?_ (fun _ => ?_))
      | exact ih0 _ _ _
      | exact ih1 _ _ _ _
      | exact ih2 _ _ _ _
      | exact LeO.none _
      | refine LeO.ite ?_ ?_
      | refine LeO.bind ?_ (fun _ => ?_)
theorem ductusref11_Level.mono : ∀ a0 a1 k, LeO (ductusref11_Level.f k a0 a1) (ductusref11_Level.f (k + 1) a0 a1) := by
  intro a0 a1 k
  obtain ⟨ih0, ih1, ih2⟩ := ductusref11_Level.mono_l k
  unfold ductusref11_Level.f
  repeat' first
      | (with_reducible exact ih0 _ _ _)
      | (with_reducible exact ih1 _ _ _ _)
      | (with_reducible exact ih2 _ _ _ _)
      | (with_reducible exact LeO.refl _)
      | (with_reducible exact LeO.none _)
      | (with_reducible refine LeO.ite ?_ ?_)
      | (with_reducible refine LeO.bind ?_ (fun _ => ?_))
      | exact ih0 _ _ _
      | exact ih1 _ _ _ _
      | exact ih2 _ _ _ _
      | exact LeO.none _
      | refine LeO.ite ?_ ?_
      | refine LeO.bind ?_ (fun _ => ?_)
set_option maxHeartbeats 8000000 in
set_option maxRecDepth 100000 in
theorem ductusref11_Level.calls (k : Nat) (a0 : Int) (a1 : Int) (r : Int) (w : World) (h : ductusref11_Level.f k a0 a1 = some r) :
    Calls Try.prog 44 #[.int .i64 a0, .int .i64 a1] w fun e w' => e = .returned (.int .i64 r) ∧ Drawn0 w w' := by
  have H : (if a0 = 6 then (ductusref11_Level.j0 k a0 a1 true) else (ductusref11_Level.j0 k a0 a1 (a0 == 3))) = some r := h
  clear h
  have HC3 := Aside0.mk H
  clear H
  go_enter Try.func44, Try.ntmps44
  go_upto_region 1 with (fail)
  go_cut [5] (fun v5 wc => ∃ (kq : Nat) (x5_2 : Bool), v5 = .bool x5_2 ∧ Aside0 (ductusref11_Level.j0 kq a0 a1 x5_2 = some r) ∧ Aside0 (kq ≤ k) ∧ Drawn0 w wc)
  case first =>
    have H := HC3.out
    clear HC3
    by_cases c4 : a0 = 6
    rotate_left
    · rw [if_neg c4] at H
      have c4b0 : (a0 == 6) = false := beq_eq_false_iff_ne.mpr c4
      have c4b1 : (a0 != 6) = true := bne_iff_ne.mpr c4
      (first | rw [c4b0] | (simp only [i64_w, i32_w]; rw [c4b0]) | skip)
      have H' := Aside0.mk H
      clear H
      go_wp2
      go_meet
      case rel => exact ⟨_, ((a0 == 3)), (by first | rfl | (simp; done) | (simp [*]; done)), H', ⟨by first | omega | exact Nat.le_refl _⟩, by repeat (first | exact Drawn0.refl _ | apply Drawn0.step)⟩
    rw [if_pos c4] at H
    have c4b0 : (a0 == 6) = true := beq_iff_eq.mpr c4
    have c4b1 : (a0 != 6) = false := bne_eq_false_iff_eq.mpr c4
    clear c4
    (first | rw [c4b0] | (simp only [i64_w, i32_w]; rw [c4b0]) | skip)
    have H' := Aside0.mk H
    clear H
    go_wp2
    go_meet
    case rel => exact ⟨_, (true), (by first | rfl | (simp; done) | (simp [*]; done)), H', ⟨by first | omega | exact Nat.le_refl _⟩, by repeat (first | exact Drawn0.refl _ | apply Drawn0.step)⟩
  case rest =>
    clear HC3
    try clear p2
    try clear c4
    try clear c4b0
    try clear c4b1
    obtain ⟨kq, x5_2, rfl, HA, HJ2, ⟨mc2, rfl⟩⟩ := hcut
    cases kq with
    | zero => exact absurd HA.out (by simp [ductusref11_Level.j0])
    | succ kj2 =>
      have H := HA.out
      clear HA
      simp only [ductusref11_Level.j0] at H
      have HC5 := Aside0.mk H
      clear H
      go_upto_region 2 with (fail)
      go_cut [12] (fun v12 wc => ∃ (kq : Nat) (x12_4 : Bool), v12 = .bool x12_4 ∧ Aside0 (ductusref11_Level.j1 kq a0 a1 x5_2 x12_4 = some r) ∧ Aside0 (kq ≤ kj2) ∧ Drawn0 w wc)
      case first =>
        have H := HC5.out
        clear HC5
        by_cases c6 : (Int.tmod a1 2) = 0
        rotate_left
        · rw [if_neg c6] at H
          have c6b0 : ((Int.tmod a1 2) == 0) = false := beq_eq_false_iff_ne.mpr c6
          have c6b1 : ((Int.tmod a1 2) != 0) = true := bne_iff_ne.mpr c6
          (first | rw [c6b0] | (simp only [i64_w, i32_w]; rw [c6b0]) | skip)
          have H' := Aside0.mk H
          clear H
          go_wp2
          go_meet
          case rel => exact ⟨_, (false), (by first | rfl | (simp; done) | (simp [*]; done)), H', ⟨by have := HJ2.out; first | omega | exact Nat.le_refl _⟩, by repeat (first | exact Drawn0.refl _ | apply Drawn0.step)⟩
        rw [if_pos c6] at H
        have c6b0 : ((Int.tmod a1 2) == 0) = true := beq_iff_eq.mpr c6
        have c6b1 : ((Int.tmod a1 2) != 0) = false := bne_eq_false_iff_eq.mpr c6
        clear c6
        (first | rw [c6b0] | (simp only [i64_w, i32_w]; rw [c6b0]) | skip)
        have H' := Aside0.mk H
        clear H
        go_wp2
        go_meet
        case rel => exact ⟨_, ((a0 == 1)), (by first | rfl | (simp; done) | (simp [*]; done)), H', ⟨by have := HJ2.out; first | omega | exact Nat.le_refl _⟩, by repeat (first | exact Drawn0.refl _ | apply Drawn0.step)⟩
      case rest =>
        clear HC5
        try clear c2
        try clear p2
        try clear c4
        try clear c4b0
        try clear c4b1
        try clear c6
        try clear c6b0
        try clear c6b1
        try clear p2
        obtain ⟨kq, x12_4, rfl, HA, HJ4, ⟨mc4, rfl⟩⟩ := hcut
        cases kq with
        | zero => exact absurd HA.out (by simp [ductusref11_Level.j1])
        | succ kj4 =>
          have H := HA.out
          clear HA
          simp only [ductusref11_Level.j1] at H
          by_cases c7 : x12_4 = true
          · subst c7
            have H1 : (some (wrap64 (a1 + 1))) = some r := by rw [if_pos rfl] at H; exact H
            clear H
            have H := H1
            clear H1
            obtain rfl := Option.some.inj H
            go_wp2
            go_ret
            exact ⟨by first | rfl | (simp; done) | (simp [*]; done), by repeat (first | exact Drawn0.refl _ | apply Drawn0.step)⟩
          replace c7 := Bool.eq_false_iff.mpr c7
          subst c7
          have H1 : (if (Int.tmod a1 2) = 0 then (ductusref11_Level.j2 kj4 a0 a1 x5_2 x5_2) else (ductusref11_Level.j2 kj4 a0 a1 x5_2 false)) = some r := by rw [if_neg (show ¬ (false = true) by decide)] at H; exact H
          clear H
          have H := H1
          clear H1
          have HC8 := Aside0.mk H
          clear H
          go_upto_region 4 with (fail)
          go_cut [22] (fun v22 wc => ∃ (kq : Nat) (x22_7 : Bool), v22 = .bool x22_7 ∧ Aside0 (ductusref11_Level.j2 kq a0 a1 x5_2 x22_7 = some r) ∧ Aside0 (kq ≤ kj4) ∧ Drawn0 w wc)
          case first =>
            have H := HC8.out
            clear HC8
            by_cases c9 : (Int.tmod a1 2) = 0
            rotate_left
            · rw [if_neg c9] at H
              have c9b0 : ((Int.tmod a1 2) == 0) = false := beq_eq_false_iff_ne.mpr c9
              have c9b1 : ((Int.tmod a1 2) != 0) = true := bne_iff_ne.mpr c9
              (first | rw [c9b0] | (simp only [i64_w, i32_w]; rw [c9b0]) | skip)
              have H' := Aside0.mk H
              clear H
              go_wp2
              go_meet
              case rel => exact ⟨_, (false), (by first | rfl | (simp; done) | (simp [*]; done)), H', ⟨by have := HJ2.out; have := HJ4.out; first | omega | exact Nat.le_refl _⟩, by repeat (first | exact Drawn0.refl _ | apply Drawn0.step)⟩
            rw [if_pos c9] at H
            have c9b0 : ((Int.tmod a1 2) == 0) = true := beq_iff_eq.mpr c9
            have c9b1 : ((Int.tmod a1 2) != 0) = false := bne_eq_false_iff_eq.mpr c9
            clear c9
            (first | rw [c9b0] | (simp only [i64_w, i32_w]; rw [c9b0]) | skip)
            have H' := Aside0.mk H
            clear H
            go_wp2
            go_meet
            case rel => exact ⟨_, (x5_2), (by first | rfl | (simp; done) | (simp [*]; done)), H', ⟨by have := HJ2.out; have := HJ4.out; first | omega | exact Nat.le_refl _⟩, by repeat (first | exact Drawn0.refl _ | apply Drawn0.step)⟩
          case rest =>
            clear HC8
            try clear c2
            try clear p2
            try clear c4
            try clear c4b0
            try clear c4b1
            try clear c6
            try clear c6b0
            try clear c6b1
            try clear p6
            try clear c7
            try clear c9
            try clear c9b0
            try clear c9b1
            try clear p2
            obtain ⟨kq, x22_7, rfl, HA, HJ7, ⟨mc7, rfl⟩⟩ := hcut
            cases kq with
            | zero => exact absurd HA.out (by simp [ductusref11_Level.j2])
            | succ kj7 =>
              have H := HA.out
              clear HA
              simp only [ductusref11_Level.j2] at H
              by_cases c10 : x22_7 = true
              · subst c10
                have H1 : (some (wrap64 (a1 + 2))) = some r := by rw [if_pos rfl] at H; exact H
                clear H
                have H := H1
                clear H1
                obtain rfl := Option.some.inj H
                go_wp2
                go_ret
                exact ⟨by first | rfl | (simp; done) | (simp [*]; done), by repeat (first | exact Drawn0.refl _ | apply Drawn0.step)⟩
              replace c10 := Bool.eq_false_iff.mpr c10
              subst c10
              have H1 : (if (Int.tmod a1 2) = 0 then (some a1) else (if a0 = 0 then (some (wrap64 (a1 + 1))) else (if x5_2 = true then (some (wrap64 (a1 + 1))) else (some a1)))) = some r := by rw [if_neg (show ¬ (false = true) by decide)] at H; exact H
              clear H
              have H := H1
              clear H1
              by_cases c11 : (Int.tmod a1 2) = 0
              · rw [if_pos c11] at H
                have c11b0 : ((Int.tmod a1 2) == 0) = true := beq_iff_eq.mpr c11
                have c11b1 : ((Int.tmod a1 2) != 0) = false := bne_eq_false_iff_eq.mpr c11
                clear c11
                obtain rfl := Option.some.inj H
                go_wp2
                go_ret
                exact ⟨by first | rfl | (simp; done) | (simp [*]; done), by repeat (first | exact Drawn0.refl _ | apply Drawn0.step)⟩
              rw [if_neg c11] at H
              have c11b0 : ((Int.tmod a1 2) == 0) = false := beq_eq_false_iff_ne.mpr c11
              have c11b1 : ((Int.tmod a1 2) != 0) = true := bne_iff_ne.mpr c11
              by_cases c12 : a0 = 0
              · rw [if_pos c12] at H
                have c12b0 : (a0 == 0) = true := beq_iff_eq.mpr c12
                have c12b1 : (a0 != 0) = false := bne_eq_false_iff_eq.mpr c12
                clear c12
                obtain rfl := Option.some.inj H
                go_wp2
                go_ret
                exact ⟨by first | rfl | (simp; done) | (simp [*]; done), by repeat (first | exact Drawn0.refl _ | apply Drawn0.step)⟩
              rw [if_neg c12] at H
              have c12b0 : (a0 == 0) = false := beq_eq_false_iff_ne.mpr c12
              have c12b1 : (a0 != 0) = true := bne_iff_ne.mpr c12
              by_cases c13 : x5_2 = true
              · subst c13
                have H1 : (some (wrap64 (a1 + 1))) = some r := by rw [if_pos rfl] at H; exact H
                clear H
                have H := H1
                clear H1
                obtain rfl := Option.some.inj H
                go_wp2
                go_ret
                exact ⟨by first | rfl | (simp; done) | (simp [*]; done), by repeat (first | exact Drawn0.refl _ | apply Drawn0.step)⟩
              replace c13 := Bool.eq_false_iff.mpr c13
              subst c13
              have H1 : (some a1) = some r := by rw [if_neg (show ¬ (false = true) by decide)] at H; exact H
              clear H
              have H := H1
              clear H1
              obtain rfl := Option.some.inj H
              go_wp2
              go_ret
              exact ⟨by first | rfl | (simp; done) | (simp [*]; done), by repeat (first | exact Drawn0.refl _ | apply Drawn0.step)⟩

-- NOT PRINTED: function 31 (ductusref12_both)

-- NOT PRINTED: function 20 (ductusref12_Of)

-- NOT PRINTED: function 6 (ductuslaw13_LineEnds)

/-! ### ductuslaw13_LineWraps: function 7 -/
mutual
def ductuslaw13_LineWraps.j0 : Nat → Int → Int → List Int → List (S29) → Bool → Option (Bool)
  | 0, _, _, _, _, _ => none
  | k + 1, x7, x8, x9, x10, x58 => if x58 = true then (none) else (ductuslaw13_LineWraps.l0 k x7 x8 x9 x10 0)
def ductuslaw13_LineWraps.l0 : Nat → Int → Int → List Int → List (S29) → Int → Option (Bool)
  | 0, _, _, _, _, _ => none
  | k + 1, x7, x8, x9, x10, x13 => if x13 < (x10.length : Int) then (if 0 ≤ x13 then (if (wrap64 (((rd_T29 x10 x13).f1) - ((rd_T29 x10 x13).f0))) = x8 then (if (wrap64 (((rd_T29 x10 x13).f1) - ((rd_T29 x10 x13).f0))) > x8 then (none) else (ductuslaw13_LineWraps.l0 k x7 x8 x9 x10 (wrap64 (x13 + 1)))) else (if x13 < (wrap64 ((x10.length : Int) - 1)) then (none) else (if (wrap64 (((rd_T29 x10 x13).f1) - ((rd_T29 x10 x13).f0))) > x8 then (none) else (ductuslaw13_LineWraps.l0 k x7 x8 x9 x10 (wrap64 (x13 + 1)))))) else (none)) else ((line_Right.f k x9 x7).bind fun t692 => (if t692 = true then ((line_Wrap.f k 0 x8).bind fun t693 => (some ((t693.length : Int) == 0))) else (none)))
end
def ductuslaw13_LineWraps.f (k : Nat) (a0 : Int) (a1 : Int) (a2 : Int) : Option (Bool) := (ductuslaw13_alive.f k).bind fun t675 => (if t675 = true then ((line_Wrap.f k (wrap64 (1 + (Int.tmod (wrap64 (a0)) 4000))) (wrap64 (1 + (Int.tmod (wrap64 (a1)) 4000)))).bind fun t676 => ((line_Lines.f k t676 (wrap64 (1 + (Int.tmod (wrap64 (a0)) 4000)))).bind fun bt679 => ((line_Wrap.f k (wrap64 (1 + (Int.tmod (wrap64 (a0)) 4000))) (wrap64 ((wrap64 (1 + (Int.tmod (wrap64 (a1)) 4000))) + (wrap64 (a2))))).bind fun t683 => (if bt679.2 = 0 then (if (wrap64 (1 + (Int.tmod (wrap64 (a1)) 4000))) = 0 then (none) else (if (bt679.1.length : Int) = (wrap64 (Int.tdiv (wrap64 ((wrap64 ((wrap64 (1 + (Int.tmod (wrap64 (a0)) 4000))) + (wrap64 (1 + (Int.tmod (wrap64 (a1)) 4000))))) - 1)) (wrap64 (1 + (Int.tmod (wrap64 (a1)) 4000))))) then (ductuslaw13_LineWraps.j0 k (wrap64 (1 + (Int.tmod (wrap64 (a0)) 4000))) (wrap64 (1 + (Int.tmod (wrap64 (a1)) 4000))) t676 bt679.1 (decide ((t683.length : Int) > (t676.length : Int)))) else (none))) else (none))))) else (none))
theorem ductuslaw13_LineWraps.mono_l : ∀ k, (∀ y0 y1 y2 y3 y4, LeO (ductuslaw13_LineWraps.j0 k y0 y1 y2 y3 y4) (ductuslaw13_LineWraps.j0 (k + 1) y0 y1 y2 y3 y4)) ∧ (∀ y0 y1 y2 y3 y4, LeO (ductuslaw13_LineWraps.l0 k y0 y1 y2 y3 y4) (ductuslaw13_LineWraps.l0 (k + 1) y0 y1 y2 y3 y4))
  | 0 => ⟨fun _ _ _ _ _ r h => by simp [ductuslaw13_LineWraps.j0] at h, fun _ _ _ _ _ r h => by simp [ductuslaw13_LineWraps.l0] at h⟩
  | k + 1 => by
    obtain ⟨ih0, ih1⟩ := ductuslaw13_LineWraps.mono_l k
    refine ⟨?_, ?_⟩
    · intro y0 y1 y2 y3 y4
      unfold ductuslaw13_LineWraps.j0
      repeat' first
      | (with_reducible exact ih0 _ _ _ _ _)
      | (with_reducible exact ih1 _ _ _ _ _)
      | (with_reducible exact ductuslaw13_alive.mono _)
      | (with_reducible exact line_Lines.mono _ _ _)
      | (with_reducible exact line_Right.mono _ _ _)
      | (with_reducible exact line_Wrap.mono _ _ _)
      | (with_reducible exact LeO.refl _)
      | (with_reducible exact LeO.none _)
      | (with_reducible refine LeO.ite ?_ ?_)
      | (with_reducible refine LeO.bind ?_ (fun _ => ?_))
      | exact ih0 _ _ _ _ _
      | exact ih1 _ _ _ _ _
      | exact ductuslaw13_alive.mono _
      | exact line_Lines.mono _ _ _
      | exact line_Right.mono _ _ _
      | exact line_Wrap.mono _ _ _
      | exact LeO.none _
      | refine LeO.ite ?_ ?_
      | refine LeO.bind ?_ (fun _ => ?_)
    · intro y0 y1 y2 y3 y4
      unfold ductuslaw13_LineWraps.l0
      repeat' first
      | (with_reducible exact ih0 _ _ _ _ _)
      | (with_reducible exact ih1 _ _ _ _ _)
      | (with_reducible exact ductuslaw13_alive.mono _)
      | (with_reducible exact line_Lines.mono _ _ _)
      | (with_reducible exact line_Right.mono _ _ _)
      | (with_reducible exact line_Wrap.mono _ _ _)
      | (with_reducible exact LeO.refl _)
      | (with_reducible exact LeO.none _)
      | (with_reducible refine LeO.ite ?_ ?_)
      | (with_reducible refine LeO.bind ?_ (fun _ => ?_))
      | exact ih0 _ _ _ _ _
      | exact ih1 _ _ _ _ _
      | exact ductuslaw13_alive.mono _
      | exact line_Lines.mono _ _ _
      | exact line_Right.mono _ _ _
      | exact line_Wrap.mono _ _ _
      | exact LeO.none _
      | refine LeO.ite ?_ ?_
      | refine LeO.bind ?_ (fun _ => ?_)
theorem ductuslaw13_LineWraps.mono : ∀ a0 a1 a2 k, LeO (ductuslaw13_LineWraps.f k a0 a1 a2) (ductuslaw13_LineWraps.f (k + 1) a0 a1 a2) := by
  intro a0 a1 a2 k
  obtain ⟨ih0, ih1⟩ := ductuslaw13_LineWraps.mono_l k
  unfold ductuslaw13_LineWraps.f
  repeat' first
      | (with_reducible exact ih0 _ _ _ _ _)
      | (with_reducible exact ih1 _ _ _ _ _)
      | (with_reducible exact ductuslaw13_alive.mono _)
      | (with_reducible exact line_Lines.mono _ _ _)
      | (with_reducible exact line_Right.mono _ _ _)
      | (with_reducible exact line_Wrap.mono _ _ _)
      | (with_reducible exact LeO.refl _)
      | (with_reducible exact LeO.none _)
      | (with_reducible refine LeO.ite ?_ ?_)
      | (with_reducible refine LeO.bind ?_ (fun _ => ?_))
      | exact ih0 _ _ _ _ _
      | exact ih1 _ _ _ _ _
      | exact ductuslaw13_alive.mono _
      | exact line_Lines.mono _ _ _
      | exact line_Right.mono _ _ _
      | exact line_Wrap.mono _ _ _
      | exact LeO.none _
      | refine LeO.ite ?_ ?_
      | refine LeO.bind ?_ (fun _ => ?_)
set_option maxHeartbeats 8000000 in
set_option maxRecDepth 100000 in
theorem ductuslaw13_LineWraps.calls (k : Nat) (a0 : Int) (a1 : Int) (a2 : Int) (r : Bool) (w : World) (h : ductuslaw13_LineWraps.f k a0 a1 a2 = some r) :
    Calls Try.prog 7 #[.int .u16 a0, .int .u16 a1, .int .u16 a2] w fun e w' => e = .returned (.bool r) ∧ Below w.heap.size w w' := by
  have HB := Aside0.mk (Below.refl w.heap.size w)
  have H : ((ductuslaw13_alive.f k).bind fun t675 => (if t675 = true then ((line_Wrap.f k (wrap64 (1 + (Int.tmod (wrap64 (a0)) 4000))) (wrap64 (1 + (Int.tmod (wrap64 (a1)) 4000)))).bind fun t676 => ((line_Lines.f k t676 (wrap64 (1 + (Int.tmod (wrap64 (a0)) 4000)))).bind fun bt679 => ((line_Wrap.f k (wrap64 (1 + (Int.tmod (wrap64 (a0)) 4000))) (wrap64 ((wrap64 (1 + (Int.tmod (wrap64 (a1)) 4000))) + (wrap64 (a2))))).bind fun t683 => (if bt679.2 = 0 then (if (wrap64 (1 + (Int.tmod (wrap64 (a1)) 4000))) = 0 then (none) else (if (bt679.1.length : Int) = (wrap64 (Int.tdiv (wrap64 ((wrap64 ((wrap64 (1 + (Int.tmod (wrap64 (a0)) 4000))) + (wrap64 (1 + (Int.tmod (wrap64 (a1)) 4000))))) - 1)) (wrap64 (1 + (Int.tmod (wrap64 (a1)) 4000))))) then (ductuslaw13_LineWraps.j0 k (wrap64 (1 + (Int.tmod (wrap64 (a0)) 4000))) (wrap64 (1 + (Int.tmod (wrap64 (a1)) 4000))) t676 bt679.1 (decide ((t683.length : Int) > (t676.length : Int)))) else (none))) else (none))))) else (none))) = some r := h
  clear h
  replace H := Option.bind_eq_some_iff.mp H
  obtain ⟨t675, A40, H⟩ := H
  replace H : (if t675 = true then ((line_Wrap.f k (wrap64 (1 + (Int.tmod (wrap64 (a0)) 4000))) (wrap64 (1 + (Int.tmod (wrap64 (a1)) 4000)))).bind fun t676 => ((line_Lines.f k t676 (wrap64 (1 + (Int.tmod (wrap64 (a0)) 4000)))).bind fun bt679 => ((line_Wrap.f k (wrap64 (1 + (Int.tmod (wrap64 (a0)) 4000))) (wrap64 ((wrap64 (1 + (Int.tmod (wrap64 (a1)) 4000))) + (wrap64 (a2))))).bind fun t683 => (if bt679.2 = 0 then (if (wrap64 (1 + (Int.tmod (wrap64 (a1)) 4000))) = 0 then (none) else (if (bt679.1.length : Int) = (wrap64 (Int.tdiv (wrap64 ((wrap64 ((wrap64 (1 + (Int.tmod (wrap64 (a0)) 4000))) + (wrap64 (1 + (Int.tmod (wrap64 (a1)) 4000))))) - 1)) (wrap64 (1 + (Int.tmod (wrap64 (a1)) 4000))))) then (ductuslaw13_LineWraps.j0 k (wrap64 (1 + (Int.tmod (wrap64 (a0)) 4000))) (wrap64 (1 + (Int.tmod (wrap64 (a1)) 4000))) t676 bt679.1 (decide ((t683.length : Int) > (t676.length : Int)))) else (none))) else (none))))) else (none)) = some r := H
  have A4 := Aside0.mk A40
  clear A40
  by_cases c5 : t675 = true
  rotate_left
  · replace c5 := Bool.eq_false_iff.mpr c5
    subst c5
    have H1 : (none) = some r := by rw [if_neg (show ¬ (false = true) by decide)] at H; exact H
    clear H
    have H := H1
    clear H1
    exact absurd H (by simp)
  subst c5
  have H1 : ((line_Wrap.f k (wrap64 (1 + (Int.tmod (wrap64 (a0)) 4000))) (wrap64 (1 + (Int.tmod (wrap64 (a1)) 4000)))).bind fun t676 => ((line_Lines.f k t676 (wrap64 (1 + (Int.tmod (wrap64 (a0)) 4000)))).bind fun bt679 => ((line_Wrap.f k (wrap64 (1 + (Int.tmod (wrap64 (a0)) 4000))) (wrap64 ((wrap64 (1 + (Int.tmod (wrap64 (a1)) 4000))) + (wrap64 (a2))))).bind fun t683 => (if bt679.2 = 0 then (if (wrap64 (1 + (Int.tmod (wrap64 (a1)) 4000))) = 0 then (none) else (if (bt679.1.length : Int) = (wrap64 (Int.tdiv (wrap64 ((wrap64 ((wrap64 (1 + (Int.tmod (wrap64 (a0)) 4000))) + (wrap64 (1 + (Int.tmod (wrap64 (a1)) 4000))))) - 1)) (wrap64 (1 + (Int.tmod (wrap64 (a1)) 4000))))) then (ductuslaw13_LineWraps.j0 k (wrap64 (1 + (Int.tmod (wrap64 (a0)) 4000))) (wrap64 (1 + (Int.tmod (wrap64 (a1)) 4000))) t676 bt679.1 (decide ((t683.length : Int) > (t676.length : Int)))) else (none))) else (none))))) = some r := by rw [if_pos rfl] at H; exact H
  clear H
  have H := H1
  clear H1
  replace H := Option.bind_eq_some_iff.mp H
  obtain ⟨t676, A60, H⟩ := H
  replace H : ((line_Lines.f k t676 (wrap64 (1 + (Int.tmod (wrap64 (a0)) 4000)))).bind fun bt679 => ((line_Wrap.f k (wrap64 (1 + (Int.tmod (wrap64 (a0)) 4000))) (wrap64 ((wrap64 (1 + (Int.tmod (wrap64 (a1)) 4000))) + (wrap64 (a2))))).bind fun t683 => (if bt679.2 = 0 then (if (wrap64 (1 + (Int.tmod (wrap64 (a1)) 4000))) = 0 then (none) else (if (bt679.1.length : Int) = (wrap64 (Int.tdiv (wrap64 ((wrap64 ((wrap64 (1 + (Int.tmod (wrap64 (a0)) 4000))) + (wrap64 (1 + (Int.tmod (wrap64 (a1)) 4000))))) - 1)) (wrap64 (1 + (Int.tmod (wrap64 (a1)) 4000))))) then (ductuslaw13_LineWraps.j0 k (wrap64 (1 + (Int.tmod (wrap64 (a0)) 4000))) (wrap64 (1 + (Int.tmod (wrap64 (a1)) 4000))) t676 bt679.1 (decide ((t683.length : Int) > (t676.length : Int)))) else (none))) else (none)))) = some r := H
  have A6 := Aside0.mk A60
  clear A60
  replace H := Option.bind_eq_some_iff.mp H
  obtain ⟨⟨t679, t680⟩, A70, H⟩ := H
  replace H : ((line_Wrap.f k (wrap64 (1 + (Int.tmod (wrap64 (a0)) 4000))) (wrap64 ((wrap64 (1 + (Int.tmod (wrap64 (a1)) 4000))) + (wrap64 (a2))))).bind fun t683 => (if t680 = 0 then (if (wrap64 (1 + (Int.tmod (wrap64 (a1)) 4000))) = 0 then (none) else (if (t679.length : Int) = (wrap64 (Int.tdiv (wrap64 ((wrap64 ((wrap64 (1 + (Int.tmod (wrap64 (a0)) 4000))) + (wrap64 (1 + (Int.tmod (wrap64 (a1)) 4000))))) - 1)) (wrap64 (1 + (Int.tmod (wrap64 (a1)) 4000))))) then (ductuslaw13_LineWraps.j0 k (wrap64 (1 + (Int.tmod (wrap64 (a0)) 4000))) (wrap64 (1 + (Int.tmod (wrap64 (a1)) 4000))) t676 t679 (decide ((t683.length : Int) > (t676.length : Int)))) else (none))) else (none))) = some r := H
  have A7 := Aside0.mk A70
  clear A70
  replace H := Option.bind_eq_some_iff.mp H
  obtain ⟨t683, A80, H⟩ := H
  replace H : (if t680 = 0 then (if (wrap64 (1 + (Int.tmod (wrap64 (a1)) 4000))) = 0 then (none) else (if (t679.length : Int) = (wrap64 (Int.tdiv (wrap64 ((wrap64 ((wrap64 (1 + (Int.tmod (wrap64 (a0)) 4000))) + (wrap64 (1 + (Int.tmod (wrap64 (a1)) 4000))))) - 1)) (wrap64 (1 + (Int.tmod (wrap64 (a1)) 4000))))) then (ductuslaw13_LineWraps.j0 k (wrap64 (1 + (Int.tmod (wrap64 (a0)) 4000))) (wrap64 (1 + (Int.tmod (wrap64 (a1)) 4000))) t676 t679 (decide ((t683.length : Int) > (t676.length : Int)))) else (none))) else (none)) = some r := H
  have A8 := Aside0.mk A80
  clear A80
  have HC9 := Aside0.mk H
  clear H
  go_enter Try.func7, Try.ntmps7
  go_upto_region 7 with (first | (go_at_call 8; (with_reducible refine (ductuslaw13_alive.calls k  true _ A4.out).mono ?_); rintro e w10 ⟨rfl, hb⟩; have n0_ := Aside0.mk (below_step (by repeat (first | (with_reducible first | exact HB.out | apply below_alloc | apply pw_below_drewN | apply below_drew1) | exact HB.out)) hb); clear HB; have HB := n0_; clear n0_; (try clear hb); (try clear hb2); (try clear hk); (try clear hi)) | (go_at_call 16; (fail_if_success (have _ := HO678)); (try simp only [IntWalk.i64_left]); (with_reducible refine (line_Wrap.calls k (wrap64 (1 + (Int.tmod (wrap64 (a0)) 4000))) (wrap64 (1 + (Int.tmod (wrap64 (a1)) 4000))) t676 _ A6.out).mono ?_); rintro e w11 ⟨v677, rfl, ho0, hb⟩; have n0_ := Aside0.mk (Kd.R_lower ho0 (below_size (by repeat (first | (with_reducible first | exact HB.out | apply below_alloc | apply pw_below_drewN | apply below_drew1) | exact HB.out)))); have n1_ := Aside0.mk (below_step (by repeat (first | (with_reducible first | exact HB.out | apply below_alloc | apply pw_below_drewN | apply below_drew1) | exact HB.out)) hb); clear HB; have HO678 := n0_; have HB := n1_; clear n0_ n1_; (try clear hb); (try clear hb2); (try clear hk); (try clear hi); (try clear ho0); obtain ⟨Ao12, co12, eo12⟩ := Kd.R_slice HO678.out; subst eo12) | (go_at_call 9; (try simp only [IntWalk.i64_left]); (with_reducible refine (line_Lines.calls k _ _ t676 (wrap64 (1 + (Int.tmod (wrap64 (a0)) 4000))) t679 t680 _ ?side1 ?side2 A7.out).mono ?_); (case side1 => repeat (first | exact (Kd.R_reads' HO678.out).2.2 | (with_reducible refine Kd.C_alloc ?_ _) | (with_reducible refine Kd.C_drewN ?_ _) | (with_reducible refine Kd.C_drew ?_))); (case side2 => exact (Kd.R_reads' HO678.out).2.1); rintro e w13 ⟨v681, rfl, ho0, hb⟩; have n0_ := Aside0.mk (Kd.R_below (by (with_reducible repeat (first | apply Kd.R_alloc | apply Kd.R_drewN | apply Kd.R_drew)); exact HO678.out) hb); have n1_ := Aside0.mk (Kd.R_lower ho0 (below_size (by repeat (first | (with_reducible first | exact HB.out | apply below_alloc | apply pw_below_drewN | apply below_drew1) | exact HB.out)))); have n2_ := Aside0.mk (below_step (by repeat (first | (with_reducible first | exact HB.out | apply below_alloc | apply pw_below_drewN | apply below_drew1) | exact HB.out)) hb); clear HO678; clear HB; have HO678 := n0_; have HO682 := n1_; have HB := n2_; clear n0_ n1_ n2_; (try clear hb); (try clear hb2); (try clear hk); (try clear hi); (try clear ho0)) | (go_at_call 16; (try simp only [IntWalk.i64_left]); (with_reducible refine (line_Wrap.calls k (wrap64 (1 + (Int.tmod (wrap64 (a0)) 4000))) (wrap64 ((wrap64 (1 + (Int.tmod (wrap64 (a1)) 4000))) + (wrap64 (a2)))) t683 _ A8.out).mono ?_); rintro e w14 ⟨v684, rfl, ho0, hb⟩; have n0_ := Aside0.mk (Kd.R_elder' (by (with_reducible repeat (first | apply Kd.R_alloc | apply Kd.R_drewN | apply Kd.R_drew)); exact HO678.out) (Kd.R_base ho0) hb); have n1_ := Aside0.mk (Kd.R_below (by (with_reducible repeat (first | apply Kd.R_alloc | apply Kd.R_drewN | apply Kd.R_drew)); exact HO682.out) hb); have n2_ := Aside0.mk (Kd.R_lower (Kd.R_new' ho0 (Kd.R_lt (by (with_reducible repeat (first | apply Kd.R_alloc | apply Kd.R_drewN | apply Kd.R_drew)); exact HO678.out))) (below_size (by repeat (first | (with_reducible first | exact HB.out | apply below_alloc | apply pw_below_drewN | apply below_drew1) | exact HB.out)))); have n3_ := Aside0.mk (below_step (by repeat (first | (with_reducible first | exact HB.out | apply below_alloc | apply pw_below_drewN | apply below_drew1) | exact HB.out)) hb); clear HO678; clear HO682; clear HB; have HO678 := n0_; have HO682 := n1_; have HO685 := n2_; have HB := n3_; clear n0_ n1_ n2_ n3_; (try clear hb); (try clear hb2); (try clear hk); (try clear hi); (try clear ho0)))
  repeat (go_quiet (first | (go_at_call 8; (with_reducible refine (ductuslaw13_alive.calls k  true _ A4.out).mono ?_); rintro e w10 ⟨rfl, hb⟩; have n0_ := Aside0.mk (below_step (by repeat (first | (with_reducible first | exact HB.out | apply below_alloc | apply pw_below_drewN | apply below_drew1) | exact HB.out)) hb); clear HB; have HB := n0_; clear n0_; (try clear hb); (try clear hb2); (try clear hk); (try clear hi)) | (go_at_call 16; (fail_if_success (have _ := HO678)); (try simp only [IntWalk.i64_left]); (with_reducible refine (line_Wrap.calls k (wrap64 (1 + (Int.tmod (wrap64 (a0)) 4000))) (wrap64 (1 + (Int.tmod (wrap64 (a1)) 4000))) t676 _ A6.out).mono ?_); rintro e w11 ⟨v677, rfl, ho0, hb⟩; have n0_ := Aside0.mk (Kd.R_lower ho0 (below_size (by repeat (first | (with_reducible first | exact HB.out | apply below_alloc | apply pw_below_drewN | apply below_drew1) | exact HB.out)))); have n1_ := Aside0.mk (below_step (by repeat (first | (with_reducible first | exact HB.out | apply below_alloc | apply pw_below_drewN | apply below_drew1) | exact HB.out)) hb); clear HB; have HO678 := n0_; have HB := n1_; clear n0_ n1_; (try clear hb); (try clear hb2); (try clear hk); (try clear hi); (try clear ho0); obtain ⟨Ao12, co12, eo12⟩ := Kd.R_slice HO678.out; subst eo12) | (go_at_call 9; (try simp only [IntWalk.i64_left]); (with_reducible refine (line_Lines.calls k _ _ t676 (wrap64 (1 + (Int.tmod (wrap64 (a0)) 4000))) t679 t680 _ ?side1 ?side2 A7.out).mono ?_); (case side1 => repeat (first | exact (Kd.R_reads' HO678.out).2.2 | (with_reducible refine Kd.C_alloc ?_ _) | (with_reducible refine Kd.C_drewN ?_ _) | (with_reducible refine Kd.C_drew ?_))); (case side2 => exact (Kd.R_reads' HO678.out).2.1); rintro e w13 ⟨v681, rfl, ho0, hb⟩; have n0_ := Aside0.mk (Kd.R_below (by (with_reducible repeat (first | apply Kd.R_alloc | apply Kd.R_drewN | apply Kd.R_drew)); exact HO678.out) hb); have n1_ := Aside0.mk (Kd.R_lower ho0 (below_size (by repeat (first | (with_reducible first | exact HB.out | apply below_alloc | apply pw_below_drewN | apply below_drew1) | exact HB.out)))); have n2_ := Aside0.mk (below_step (by repeat (first | (with_reducible first | exact HB.out | apply below_alloc | apply pw_below_drewN | apply below_drew1) | exact HB.out)) hb); clear HO678; clear HB; have HO678 := n0_; have HO682 := n1_; have HB := n2_; clear n0_ n1_ n2_; (try clear hb); (try clear hb2); (try clear hk); (try clear hi); (try clear ho0)) | (go_at_call 16; (try simp only [IntWalk.i64_left]); (with_reducible refine (line_Wrap.calls k (wrap64 (1 + (Int.tmod (wrap64 (a0)) 4000))) (wrap64 ((wrap64 (1 + (Int.tmod (wrap64 (a1)) 4000))) + (wrap64 (a2)))) t683 _ A8.out).mono ?_); rintro e w14 ⟨v684, rfl, ho0, hb⟩; have n0_ := Aside0.mk (Kd.R_elder' (by (with_reducible repeat (first | apply Kd.R_alloc | apply Kd.R_drewN | apply Kd.R_drew)); exact HO678.out) (Kd.R_base ho0) hb); have n1_ := Aside0.mk (Kd.R_below (by (with_reducible repeat (first | apply Kd.R_alloc | apply Kd.R_drewN | apply Kd.R_drew)); exact HO682.out) hb); have n2_ := Aside0.mk (Kd.R_lower (Kd.R_new' ho0 (Kd.R_lt (by (with_reducible repeat (first | apply Kd.R_alloc | apply Kd.R_drewN | apply Kd.R_drew)); exact HO678.out))) (below_size (by repeat (first | (with_reducible first | exact HB.out | apply below_alloc | apply pw_below_drewN | apply below_drew1) | exact HB.out)))); have n3_ := Aside0.mk (below_step (by repeat (first | (with_reducible first | exact HB.out | apply below_alloc | apply pw_below_drewN | apply below_drew1) | exact HB.out)) hb); clear HO678; clear HO682; clear HB; have HO678 := n0_; have HO682 := n1_; have HO685 := n2_; have HB := n3_; clear n0_ n1_ n2_ n3_; (try clear hb); (try clear hb2); (try clear hk); (try clear hi); (try clear ho0))); go_upto_region 7 with (first | (go_at_call 8; (with_reducible refine (ductuslaw13_alive.calls k  true _ A4.out).mono ?_); rintro e w10 ⟨rfl, hb⟩; have n0_ := Aside0.mk (below_step (by repeat (first | (with_reducible first | exact HB.out | apply below_alloc | apply pw_below_drewN | apply below_drew1) | exact HB.out)) hb); clear HB; have HB := n0_; clear n0_; (try clear hb); (try clear hb2); (try clear hk); (try clear hi)) | (go_at_call 16; (fail_if_success (have _ := HO678)); (try simp only [IntWalk.i64_left]); (with_reducible refine (line_Wrap.calls k (wrap64 (1 + (Int.tmod (wrap64 (a0)) 4000))) (wrap64 (1 + (Int.tmod (wrap64 (a1)) 4000))) t676 _ A6.out).mono ?_); rintro e w11 ⟨v677, rfl, ho0, hb⟩; have n0_ := Aside0.mk (Kd.R_lower ho0 (below_size (by repeat (first | (with_reducible first | exact HB.out | apply below_alloc | apply pw_below_drewN | apply below_drew1) | exact HB.out)))); have n1_ := Aside0.mk (below_step (by repeat (first | (with_reducible first | exact HB.out | apply below_alloc | apply pw_below_drewN | apply below_drew1) | exact HB.out)) hb); clear HB; have HO678 := n0_; have HB := n1_; clear n0_ n1_; (try clear hb); (try clear hb2); (try clear hk); (try clear hi); (try clear ho0); obtain ⟨Ao12, co12, eo12⟩ := Kd.R_slice HO678.out; subst eo12) | (go_at_call 9; (try simp only [IntWalk.i64_left]); (with_reducible refine (line_Lines.calls k _ _ t676 (wrap64 (1 + (Int.tmod (wrap64 (a0)) 4000))) t679 t680 _ ?side1 ?side2 A7.out).mono ?_); (case side1 => repeat (first | exact (Kd.R_reads' HO678.out).2.2 | (with_reducible refine Kd.C_alloc ?_ _) | (with_reducible refine Kd.C_drewN ?_ _) | (with_reducible refine Kd.C_drew ?_))); (case side2 => exact (Kd.R_reads' HO678.out).2.1); rintro e w13 ⟨v681, rfl, ho0, hb⟩; have n0_ := Aside0.mk (Kd.R_below (by (with_reducible repeat (first | apply Kd.R_alloc | apply Kd.R_drewN | apply Kd.R_drew)); exact HO678.out) hb); have n1_ := Aside0.mk (Kd.R_lower ho0 (below_size (by repeat (first | (with_reducible first | exact HB.out | apply below_alloc | apply pw_below_drewN | apply below_drew1) | exact HB.out)))); have n2_ := Aside0.mk (below_step (by repeat (first | (with_reducible first | exact HB.out | apply below_alloc | apply pw_below_drewN | apply below_drew1) | exact HB.out)) hb); clear HO678; clear HB; have HO678 := n0_; have HO682 := n1_; have HB := n2_; clear n0_ n1_ n2_; (try clear hb); (try clear hb2); (try clear hk); (try clear hi); (try clear ho0)) | (go_at_call 16; (try simp only [IntWalk.i64_left]); (with_reducible refine (line_Wrap.calls k (wrap64 (1 + (Int.tmod (wrap64 (a0)) 4000))) (wrap64 ((wrap64 (1 + (Int.tmod (wrap64 (a1)) 4000))) + (wrap64 (a2)))) t683 _ A8.out).mono ?_); rintro e w14 ⟨v684, rfl, ho0, hb⟩; have n0_ := Aside0.mk (Kd.R_elder' (by (with_reducible repeat (first | apply Kd.R_alloc | apply Kd.R_drewN | apply Kd.R_drew)); exact HO678.out) (Kd.R_base ho0) hb); have n1_ := Aside0.mk (Kd.R_below (by (with_reducible repeat (first | apply Kd.R_alloc | apply Kd.R_drewN | apply Kd.R_drew)); exact HO682.out) hb); have n2_ := Aside0.mk (Kd.R_lower (Kd.R_new' ho0 (Kd.R_lt (by (with_reducible repeat (first | apply Kd.R_alloc | apply Kd.R_drewN | apply Kd.R_drew)); exact HO678.out))) (below_size (by repeat (first | (with_reducible first | exact HB.out | apply below_alloc | apply pw_below_drewN | apply below_drew1) | exact HB.out)))); have n3_ := Aside0.mk (below_step (by repeat (first | (with_reducible first | exact HB.out | apply below_alloc | apply pw_below_drewN | apply below_drew1) | exact HB.out)) hb); clear HO678; clear HO682; clear HB; have HO678 := n0_; have HO682 := n1_; have HO685 := n2_; have HB := n3_; clear n0_ n1_ n2_ n3_; (try clear hb); (try clear hb2); (try clear hk); (try clear hi); (try clear ho0))))
  (try simp only [Act.put, List.setIfInBounds_toArray, List.set_cons_zero, List.set_cons_succ])
  go_cut [58] (fun v58 wc => ∃ (kq : Nat) (x58_8 : Bool), v58 = .bool x58_8 ∧ Aside0 (ductuslaw13_LineWraps.j0 kq (wrap64 (1 + (Int.tmod (wrap64 (a0)) 4000))) (wrap64 (1 + (Int.tmod (wrap64 (a1)) 4000))) t676 t679 x58_8 = some r) ∧ Aside0 (kq ≤ k) ∧ Aside0 (Kd.R (Kd.int .i64) 3 wc w.heap.size (fun _ => True) (.slice Ao12 t676.length co12) t676) ∧ Aside0 (Kd.R k29 29 wc w.heap.size (fun _ => True) v681 t679) ∧ Aside0 (Below w.heap.size w wc))
  case first =>
    have H := HC9.out
    clear HC9
    by_cases c15 : t680 = 0
    rotate_left
    · rw [if_neg c15] at H
      exact absurd H (by simp)
    rw [if_pos c15] at H
    have c15b0 : (t680 == 0) = true := beq_iff_eq.mpr c15
    have c15b1 : (t680 != 0) = false := bne_eq_false_iff_eq.mpr c15
    clear c15
    (first | rw [c15b0] | (simp only [i64_w, i32_w]; rw [c15b0]) | skip)
    by_cases c16 : (wrap64 (1 + (Int.tmod (wrap64 (a1)) 4000))) = 0
    · rw [if_pos c16] at H
      exact absurd H (by simp)
    rw [if_neg c16] at H
    have c16b0 : ((wrap64 (1 + (Int.tmod (wrap64 (a1)) 4000))) == 0) = false := beq_eq_false_iff_ne.mpr c16
    have c16b1 : ((wrap64 (1 + (Int.tmod (wrap64 (a1)) 4000))) != 0) = true := bne_iff_ne.mpr c16
    by_cases c17 : (t679.length : Int) = (wrap64 (Int.tdiv (wrap64 ((wrap64 ((wrap64 (1 + (Int.tmod (wrap64 (a0)) 4000))) + (wrap64 (1 + (Int.tmod (wrap64 (a1)) 4000))))) - 1)) (wrap64 (1 + (Int.tmod (wrap64 (a1)) 4000)))))
    rotate_left
    · rw [if_neg c17] at H
      exact absurd H (by simp)
    rw [if_pos c17] at H
    have c17b0 : ((t679.length : Int) == (wrap64 (Int.tdiv (wrap64 ((wrap64 ((wrap64 (1 + (Int.tmod (wrap64 (a0)) 4000))) + (wrap64 (1 + (Int.tmod (wrap64 (a1)) 4000))))) - 1)) (wrap64 (1 + (Int.tmod (wrap64 (a1)) 4000)))))) = true := beq_iff_eq.mpr c17
    have c17b1 : ((t679.length : Int) != (wrap64 (Int.tdiv (wrap64 ((wrap64 ((wrap64 (1 + (Int.tmod (wrap64 (a0)) 4000))) + (wrap64 (1 + (Int.tmod (wrap64 (a1)) 4000))))) - 1)) (wrap64 (1 + (Int.tmod (wrap64 (a1)) 4000)))))) = false := bne_eq_false_iff_eq.mpr c17
    clear c17
    have H' := Aside0.mk H
    clear H
    obtain ⟨Ao18, co18, eo18⟩ := Kd.R_slice HO682.out
    subst eo18
    obtain ⟨Ao19, co19, eo19⟩ := Kd.R_slice HO685.out
    subst eo19
    go_wp2
    repeat (go_quiet (fail); try go_wp2)
    go_meet
    case rel => exact ⟨_, (decide ((t683.length : Int) > (t676.length : Int))), (by first | rfl | (simp; done) | (simp [*]; done)), H', ⟨by first | omega | exact Nat.le_refl _⟩, ⟨by (with_reducible repeat (first | apply Kd.R_alloc | apply Kd.R_drewN | apply Kd.R_drew)); exact Kd.R_mono HO678.out (fun _ hk => trivial)⟩, ⟨by (with_reducible repeat (first | apply Kd.R_alloc | apply Kd.R_drewN | apply Kd.R_drew)); exact HO682.out⟩, ⟨by repeat (first | (with_reducible first | exact HB.out | apply below_alloc | apply pw_below_drewN | apply below_drew1) | exact HB.out)⟩⟩
  case rest =>
    clear HC9
    try clear c1
    try clear p2
    try clear c5
    try clear p6
    try clear c7
    try clear c15
    try clear c15b0
    try clear c15b1
    try clear c16
    try clear c16b0
    try clear c16b1
    try clear c17
    try clear c17b0
    try clear c17b1
    obtain ⟨kq, x58_8, rfl, HA, HJ8, HO_9, HO_10, HB⟩ := hcut
    cases kq with
    | zero => exact absurd HA.out (by simp [ductuslaw13_LineWraps.j0])
    | succ kj8 =>
      have H := HA.out
      clear HA
      simp only [ductuslaw13_LineWraps.j0] at H
      by_cases c20 : x58_8 = true
      · subst c20
        have H1 : (none) = some r := by rw [if_pos rfl] at H; exact H
        clear H
        have H := H1
        clear H1
        exact absurd H (by simp)
      replace c20 := Bool.eq_false_iff.mpr c20
      subst c20
      have H1 : (ductuslaw13_LineWraps.l0 kj8 (wrap64 (1 + (Int.tmod (wrap64 (a0)) 4000))) (wrap64 (1 + (Int.tmod (wrap64 (a1)) 4000))) t676 t679 0) = some r := by rw [if_neg (show ¬ (false = true) by decide)] at H; exact H
      clear H
      have H := H1
      clear H1
      have H' := Aside0.mk H
      clear H
      go_wp2
      repeat (go_quiet (fail); try go_wp2)
      go_loopg [13] kj8 (fun kq v13 w' => ∃ (x13_2 : Int), v13 = .int .i64 x13_2 ∧ Aside0 (ductuslaw13_LineWraps.l0 kq (wrap64 (1 + (Int.tmod (wrap64 (a0)) 4000))) (wrap64 (1 + (Int.tmod (wrap64 (a1)) 4000))) t676 t679 x13_2 = some r) ∧ Aside0 (kq ≤ kj8) ∧ Aside0 (Kd.R (Kd.int .i64) 3 w' w.heap.size (fun _ => True) (.slice Ao12 t676.length co12) t676) ∧ Aside0 (Kd.R k29 29 w' w.heap.size (fun _ => True) v681 t679) ∧ Aside0 (Below w.heap.size w w'))
      case atStart => exact ⟨(0), (by first | rfl | (simp; done) | (simp [*]; done)), H', ⟨Nat.le_refl _⟩, ⟨by (with_reducible repeat (first | apply Kd.R_alloc | apply Kd.R_drewN | apply Kd.R_drew)); exact HO_9.out⟩, ⟨by (with_reducible repeat (first | apply Kd.R_alloc | apply Kd.R_drewN | apply Kd.R_drew)); exact HO_10.out⟩, ⟨by repeat (first | (with_reducible first | exact HB.out | apply below_alloc | apply pw_below_drewN | apply below_drew1) | exact HB.out)⟩⟩
      case round =>
        clear H'
        try clear c1
        try clear c2
        try clear p2
        try clear c5
        try clear p6
        try clear c7
        try clear c15
        try clear c15b0
        try clear c15b1
        try clear c16
        try clear c16b0
        try clear c16b1
        try clear c17
        try clear c17b0
        try clear c17b1
        try clear c20
        try clear p2
        try clear p6
        obtain ⟨x13_2, rfl, HA, HK2, HO_9, HO_10, HB⟩ := hrel
        cases gk with
        | zero => exact absurd HA.out (by simp [ductuslaw13_LineWraps.l0])
        | succ k2 =>
          have H := HA.out
          clear HA
          simp only [ductuslaw13_LineWraps.l0] at H
          by_cases c21 : x13_2 < (t679.length : Int)
          · rw [if_pos c21] at H
            have c21b0 : decide (x13_2 < (t679.length : Int)) = true := decide_eq_true c21
            clear c21
            by_cases c22 : 0 ≤ x13_2
            rotate_left
            · rw [if_neg c22] at H
              exact absurd H (by simp)
            rw [if_pos c22] at H
            have c22b0 : decide (0 ≤ x13_2) = true := decide_eq_true c22
            clear c22
            by_cases c23 : (wrap64 (((rd_T29 t679 x13_2).f1) - ((rd_T29 t679 x13_2).f0))) = (wrap64 (1 + (Int.tmod (wrap64 (a1)) 4000)))
            · rw [if_pos c23] at H
              have c23b0 : ((wrap64 (((rd_T29 t679 x13_2).f1) - ((rd_T29 t679 x13_2).f0))) == (wrap64 (1 + (Int.tmod (wrap64 (a1)) 4000)))) = true := beq_iff_eq.mpr c23
              have c23b1 : ((wrap64 (((rd_T29 t679 x13_2).f1) - ((rd_T29 t679 x13_2).f0))) != (wrap64 (1 + (Int.tmod (wrap64 (a1)) 4000)))) = false := bne_eq_false_iff_eq.mpr c23
              clear c23
              by_cases c24 : (wrap64 (((rd_T29 t679 x13_2).f1) - ((rd_T29 t679 x13_2).f0))) > (wrap64 (1 + (Int.tmod (wrap64 (a1)) 4000)))
              · rw [if_pos c24] at H
                exact absurd H (by simp)
              rw [if_neg c24] at H
              have c24b0 : decide ((wrap64 (1 + (Int.tmod (wrap64 (a1)) 4000))) < (wrap64 (((rd_T29 t679 x13_2).f1) - ((rd_T29 t679 x13_2).f0)))) = false := decide_eq_false c24
              clear c24
              have H' := Aside0.mk H
              clear H
              obtain ⟨Ao25, co25, eo25⟩ := Kd.R_slice HO_10.out
              subst eo25
              have p686 : 0 ≤ (x13_2 : Int) := of_decide_eq_true (by first | (with_reducible assumption) | assumption)
              have q686 : x13_2 < (t679.length : Int) := of_decide_eq_true (by first | (with_reducible assumption) | assumption)
              obtain ⟨ad686, e686, hx686_0, hx686_1⟩ := at_T29 (Kd.R_reads' HO_10.out).2.2 x13_2 p686 q686
              cases e686
              replace p686 := eq_true p686
              replace q686 := eq_true q686
              have p687 : 0 ≤ (x13_2 : Int) := of_decide_eq_true (by first | (with_reducible assumption) | assumption)
              have q687 : x13_2 < (t679.length : Int) := of_decide_eq_true (by first | (with_reducible assumption) | assumption)
              obtain ⟨ad687, e687, hx687_0, hx687_1⟩ := at_T29 (Kd.R_reads' HO_10.out).2.2 x13_2 p687 q687
              obtain rfl : ad686 = ad687 := (by injection e687)
              replace p687 := eq_true p687
              replace q687 := eq_true q687
              have p688 : 0 ≤ (x13_2 : Int) := of_decide_eq_true (by first | (with_reducible assumption) | assumption)
              have q688 : x13_2 < (t679.length : Int) := of_decide_eq_true (by first | (with_reducible assumption) | assumption)
              obtain ⟨ad688, e688, hx688_0, hx688_1⟩ := at_T29 (Kd.R_reads' HO_10.out).2.2 x13_2 p688 q688
              obtain rfl : ad686 = ad688 := (by injection e688)
              replace p688 := eq_true p688
              replace q688 := eq_true q688
              have p689 : 0 ≤ (x13_2 : Int) := of_decide_eq_true (by first | (with_reducible assumption) | assumption)
              have q689 : x13_2 < (t679.length : Int) := of_decide_eq_true (by first | (with_reducible assumption) | assumption)
              obtain ⟨ad689, e689, hx689_0, hx689_1⟩ := at_T29 (Kd.R_reads' HO_10.out).2.2 x13_2 p689 q689
              obtain rfl : ad686 = ad689 := (by injection e689)
              replace p689 := eq_true p689
              replace q689 := eq_true q689
              go_wp2
              repeat (go_quiet (fail); try go_wp2)
              go_roundg k2
              case measure => have := HJ8.out; have := HK2.out; omega
              case rel => exact ⟨(wrap64 (x13_2 + 1)), (by first | rfl | (simp; done) | (simp [*]; done)), H', ⟨by have := HJ8.out; have := HK2.out; omega⟩, ⟨by (with_reducible repeat (first | apply Kd.R_alloc | apply Kd.R_drewN | apply Kd.R_drew)); exact HO_9.out⟩, ⟨by (with_reducible repeat (first | apply Kd.R_alloc | apply Kd.R_drewN | apply Kd.R_drew)); exact HO_10.out⟩, ⟨by repeat (first | (with_reducible first | exact HB.out | apply below_alloc | apply pw_below_drewN | apply below_drew1) | exact HB.out)⟩⟩
            rw [if_neg c23] at H
            have c23b0 : ((wrap64 (((rd_T29 t679 x13_2).f1) - ((rd_T29 t679 x13_2).f0))) == (wrap64 (1 + (Int.tmod (wrap64 (a1)) 4000)))) = false := beq_eq_false_iff_ne.mpr c23
            have c23b1 : ((wrap64 (((rd_T29 t679 x13_2).f1) - ((rd_T29 t679 x13_2).f0))) != (wrap64 (1 + (Int.tmod (wrap64 (a1)) 4000)))) = true := bne_iff_ne.mpr c23
            by_cases c26 : x13_2 < (wrap64 ((t679.length : Int) - 1))
            · rw [if_pos c26] at H
              exact absurd H (by simp)
            rw [if_neg c26] at H
            have c26b0 : decide (x13_2 < (wrap64 ((t679.length : Int) - 1))) = false := decide_eq_false c26
            clear c26
            by_cases c27 : (wrap64 (((rd_T29 t679 x13_2).f1) - ((rd_T29 t679 x13_2).f0))) > (wrap64 (1 + (Int.tmod (wrap64 (a1)) 4000)))
            · rw [if_pos c27] at H
              exact absurd H (by simp)
            rw [if_neg c27] at H
            have c27b0 : decide ((wrap64 (1 + (Int.tmod (wrap64 (a1)) 4000))) < (wrap64 (((rd_T29 t679 x13_2).f1) - ((rd_T29 t679 x13_2).f0)))) = false := decide_eq_false c27
            clear c27
            have H' := Aside0.mk H
            clear H
            obtain ⟨Ao28, co28, eo28⟩ := Kd.R_slice HO_10.out
            subst eo28
            have p686 : 0 ≤ (x13_2 : Int) := of_decide_eq_true (by first | (with_reducible assumption) | assumption)
            have q686 : x13_2 < (t679.length : Int) := of_decide_eq_true (by first | (with_reducible assumption) | assumption)
            obtain ⟨ad686, e686, hx686_0, hx686_1⟩ := at_T29 (Kd.R_reads' HO_10.out).2.2 x13_2 p686 q686
            cases e686
            replace p686 := eq_true p686
            replace q686 := eq_true q686
            have p687 : 0 ≤ (x13_2 : Int) := of_decide_eq_true (by first | (with_reducible assumption) | assumption)
            have q687 : x13_2 < (t679.length : Int) := of_decide_eq_true (by first | (with_reducible assumption) | assumption)
            obtain ⟨ad687, e687, hx687_0, hx687_1⟩ := at_T29 (Kd.R_reads' HO_10.out).2.2 x13_2 p687 q687
            obtain rfl : ad686 = ad687 := (by injection e687)
            replace p687 := eq_true p687
            replace q687 := eq_true q687
            have p690 : 0 ≤ (x13_2 : Int) := of_decide_eq_true (by first | (with_reducible assumption) | assumption)
            have q690 : x13_2 < (t679.length : Int) := of_decide_eq_true (by first | (with_reducible assumption) | assumption)
            obtain ⟨ad690, e690, hx690_0, hx690_1⟩ := at_T29 (Kd.R_reads' HO_10.out).2.2 x13_2 p690 q690
            obtain rfl : ad686 = ad690 := (by injection e690)
            replace p690 := eq_true p690
            replace q690 := eq_true q690
            have p691 : 0 ≤ (x13_2 : Int) := of_decide_eq_true (by first | (with_reducible assumption) | assumption)
            have q691 : x13_2 < (t679.length : Int) := of_decide_eq_true (by first | (with_reducible assumption) | assumption)
            obtain ⟨ad691, e691, hx691_0, hx691_1⟩ := at_T29 (Kd.R_reads' HO_10.out).2.2 x13_2 p691 q691
            obtain rfl : ad686 = ad691 := (by injection e691)
            replace p691 := eq_true p691
            replace q691 := eq_true q691
            go_wp2
            repeat (go_quiet (fail); try go_wp2)
            go_roundg k2
            case measure => have := HJ8.out; have := HK2.out; omega
            case rel => exact ⟨(wrap64 (x13_2 + 1)), (by first | rfl | (simp; done) | (simp [*]; done)), H', ⟨by have := HJ8.out; have := HK2.out; omega⟩, ⟨by (with_reducible repeat (first | apply Kd.R_alloc | apply Kd.R_drewN | apply Kd.R_drew)); exact HO_9.out⟩, ⟨by (with_reducible repeat (first | apply Kd.R_alloc | apply Kd.R_drewN | apply Kd.R_drew)); exact HO_10.out⟩, ⟨by repeat (first | (with_reducible first | exact HB.out | apply below_alloc | apply pw_below_drewN | apply below_drew1) | exact HB.out)⟩⟩
          rw [if_neg c21] at H
          have c21b0 : decide (x13_2 < (t679.length : Int)) = false := decide_eq_false c21
          clear c21
          replace H := Option.bind_eq_some_iff.mp H
          obtain ⟨t692, A290, H⟩ := H
          replace H : (if t692 = true then ((line_Wrap.f k2 0 (wrap64 (1 + (Int.tmod (wrap64 (a1)) 4000)))).bind fun t693 => (some ((t693.length : Int) == 0))) else (none)) = some r := H
          have A29 := Aside0.mk A290
          clear A290
          by_cases c30 : t692 = true
          rotate_left
          · replace c30 := Bool.eq_false_iff.mpr c30
            subst c30
            have H1 : (none) = some r := by rw [if_neg (show ¬ (false = true) by decide)] at H; exact H
            clear H
            have H := H1
            clear H1
            exact absurd H (by simp)
          subst c30
          have H1 : ((line_Wrap.f k2 0 (wrap64 (1 + (Int.tmod (wrap64 (a1)) 4000)))).bind fun t693 => (some ((t693.length : Int) == 0))) = some r := by rw [if_pos rfl] at H; exact H
          clear H
          have H := H1
          clear H1
          replace H := Option.bind_eq_some_iff.mp H
          obtain ⟨t693, A310, H⟩ := H
          replace H : (some ((t693.length : Int) == 0)) = some r := H
          have A31 := Aside0.mk A310
          clear A310
          obtain rfl := Option.some.inj H
          obtain ⟨Ao32, co32, eo32⟩ := Kd.R_slice HO_10.out
          subst eo32
          go_wp2_with (first | (go_at_call 12; (try simp only [IntWalk.i64_left]); (with_reducible refine (line_Right.calls k2 _ _ t676 (wrap64 (1 + (Int.tmod (wrap64 (a0)) 4000))) true _ ?side1 ?side2 A29.out).mono ?_); (case side1 => repeat (first | exact (Kd.R_reads' HO_9.out).2.2 | (with_reducible refine Kd.C_alloc ?_ _) | (with_reducible refine Kd.C_drewN ?_ _) | (with_reducible refine Kd.C_drew ?_))); (case side2 => exact (Kd.R_reads' HO_9.out).2.1); rintro e w33 ⟨rfl, hb⟩; have n0_ := Aside0.mk (Kd.R_below (by (with_reducible repeat (first | apply Kd.R_alloc | apply Kd.R_drewN | apply Kd.R_drew)); exact HO_9.out) hb); have n1_ := Aside0.mk (Kd.R_below (by (with_reducible repeat (first | apply Kd.R_alloc | apply Kd.R_drewN | apply Kd.R_drew)); exact HO_10.out) hb); have n2_ := Aside0.mk (below_step (by repeat (first | (with_reducible first | exact HB.out | apply below_alloc | apply pw_below_drewN | apply below_drew1) | exact HB.out)) hb); clear HO_9; clear HO_10; clear HB; have HO_9 := n0_; have HO_10 := n1_; have HB := n2_; clear n0_ n1_ n2_; (try clear hb); (try clear hb2); (try clear hk); (try clear hi)) | (go_at_call 16; (try simp only [IntWalk.i64_left]); (with_reducible refine (line_Wrap.calls k2 0 (wrap64 (1 + (Int.tmod (wrap64 (a1)) 4000))) t693 _ A31.out).mono ?_); rintro e w34 ⟨v694, rfl, ho0, hb⟩; have n0_ := Aside0.mk (Kd.R_elder' (by (with_reducible repeat (first | apply Kd.R_alloc | apply Kd.R_drewN | apply Kd.R_drew)); exact HO_9.out) (Kd.R_base ho0) hb); have n1_ := Aside0.mk (Kd.R_below (by (with_reducible repeat (first | apply Kd.R_alloc | apply Kd.R_drewN | apply Kd.R_drew)); exact HO_10.out) hb); have n2_ := Aside0.mk (Kd.R_lower (Kd.R_new' ho0 (Kd.R_lt (by (with_reducible repeat (first | apply Kd.R_alloc | apply Kd.R_drewN | apply Kd.R_drew)); exact HO_9.out))) (below_size (by repeat (first | (with_reducible first | exact HB.out | apply below_alloc | apply pw_below_drewN | apply below_drew1) | exact HB.out)))); have n3_ := Aside0.mk (below_step (by repeat (first | (with_reducible first | exact HB.out | apply below_alloc | apply pw_below_drewN | apply below_drew1) | exact HB.out)) hb); clear HO_9; clear HO_10; clear HB; have HO_9 := n0_; have HO_10 := n1_; have HO695 := n2_; have HB := n3_; clear n0_ n1_ n2_ n3_; (try clear hb); (try clear hb2); (try clear hk); (try clear hi); (try clear ho0); obtain ⟨Ao35, co35, eo35⟩ := Kd.R_slice HO695.out; subst eo35))
          repeat (go_quiet (first | (go_at_call 12; (try simp only [IntWalk.i64_left]); (with_reducible refine (line_Right.calls k2 _ _ t676 (wrap64 (1 + (Int.tmod (wrap64 (a0)) 4000))) true _ ?side1 ?side2 A29.out).mono ?_); (case side1 => repeat (first | exact (Kd.R_reads' HO_9.out).2.2 | (with_reducible refine Kd.C_alloc ?_ _) | (with_reducible refine Kd.C_drewN ?_ _) | (with_reducible refine Kd.C_drew ?_))); (case side2 => exact (Kd.R_reads' HO_9.out).2.1); rintro e w33 ⟨rfl, hb⟩; have n0_ := Aside0.mk (Kd.R_below (by (with_reducible repeat (first | apply Kd.R_alloc | apply Kd.R_drewN | apply Kd.R_drew)); exact HO_9.out) hb); have n1_ := Aside0.mk (Kd.R_below (by (with_reducible repeat (first | apply Kd.R_alloc | apply Kd.R_drewN | apply Kd.R_drew)); exact HO_10.out) hb); have n2_ := Aside0.mk (below_step (by repeat (first | (with_reducible first | exact HB.out | apply below_alloc | apply pw_below_drewN | apply below_drew1) | exact HB.out)) hb); clear HO_9; clear HO_10; clear HB; have HO_9 := n0_; have HO_10 := n1_; have HB := n2_; clear n0_ n1_ n2_; (try clear hb); (try clear hb2); (try clear hk); (try clear hi)) | (go_at_call 16; (try simp only [IntWalk.i64_left]); (with_reducible refine (line_Wrap.calls k2 0 (wrap64 (1 + (Int.tmod (wrap64 (a1)) 4000))) t693 _ A31.out).mono ?_); rintro e w34 ⟨v694, rfl, ho0, hb⟩; have n0_ := Aside0.mk (Kd.R_elder' (by (with_reducible repeat (first | apply Kd.R_alloc | apply Kd.R_drewN | apply Kd.R_drew)); exact HO_9.out) (Kd.R_base ho0) hb); have n1_ := Aside0.mk (Kd.R_below (by (with_reducible repeat (first | apply Kd.R_alloc | apply Kd.R_drewN | apply Kd.R_drew)); exact HO_10.out) hb); have n2_ := Aside0.mk (Kd.R_lower (Kd.R_new' ho0 (Kd.R_lt (by (with_reducible repeat (first | apply Kd.R_alloc | apply Kd.R_drewN | apply Kd.R_drew)); exact HO_9.out))) (below_size (by repeat (first | (with_reducible first | exact HB.out | apply below_alloc | apply pw_below_drewN | apply below_drew1) | exact HB.out)))); have n3_ := Aside0.mk (below_step (by repeat (first | (with_reducible first | exact HB.out | apply below_alloc | apply pw_below_drewN | apply below_drew1) | exact HB.out)) hb); clear HO_9; clear HO_10; clear HB; have HO_9 := n0_; have HO_10 := n1_; have HO695 := n2_; have HB := n3_; clear n0_ n1_ n2_ n3_; (try clear hb); (try clear hb2); (try clear hk); (try clear hi); (try clear ho0); obtain ⟨Ao35, co35, eo35⟩ := Kd.R_slice HO695.out; subst eo35)); try go_wp2_with (first | (go_at_call 12; (try simp only [IntWalk.i64_left]); (with_reducible refine (line_Right.calls k2 _ _ t676 (wrap64 (1 + (Int.tmod (wrap64 (a0)) 4000))) true _ ?side1 ?side2 A29.out).mono ?_); (case side1 => repeat (first | exact (Kd.R_reads' HO_9.out).2.2 | (with_reducible refine Kd.C_alloc ?_ _) | (with_reducible refine Kd.C_drewN ?_ _) | (with_reducible refine Kd.C_drew ?_))); (case side2 => exact (Kd.R_reads' HO_9.out).2.1); rintro e w33 ⟨rfl, hb⟩; have n0_ := Aside0.mk (Kd.R_below (by (with_reducible repeat (first | apply Kd.R_alloc | apply Kd.R_drewN | apply Kd.R_drew)); exact HO_9.out) hb); have n1_ := Aside0.mk (Kd.R_below (by (with_reducible repeat (first | apply Kd.R_alloc | apply Kd.R_drewN | apply Kd.R_drew)); exact HO_10.out) hb); have n2_ := Aside0.mk (below_step (by repeat (first | (with_reducible first | exact HB.out | apply below_alloc | apply pw_below_drewN | apply below_drew1) | exact HB.out)) hb); clear HO_9; clear HO_10; clear HB; have HO_9 := n0_; have HO_10 := n1_; have HB := n2_; clear n0_ n1_ n2_; (try clear hb); (try clear hb2); (try clear hk); (try clear hi)) | (go_at_call 16; (try simp only [IntWalk.i64_left]); (with_reducible refine (line_Wrap.calls k2 0 (wrap64 (1 + (Int.tmod (wrap64 (a1)) 4000))) t693 _ A31.out).mono ?_); rintro e w34 ⟨v694, rfl, ho0, hb⟩; have n0_ := Aside0.mk (Kd.R_elder' (by (with_reducible repeat (first | apply Kd.R_alloc | apply Kd.R_drewN | apply Kd.R_drew)); exact HO_9.out) (Kd.R_base ho0) hb); have n1_ := Aside0.mk (Kd.R_below (by (with_reducible repeat (first | apply Kd.R_alloc | apply Kd.R_drewN | apply Kd.R_drew)); exact HO_10.out) hb); have n2_ := Aside0.mk (Kd.R_lower (Kd.R_new' ho0 (Kd.R_lt (by (with_reducible repeat (first | apply Kd.R_alloc | apply Kd.R_drewN | apply Kd.R_drew)); exact HO_9.out))) (below_size (by repeat (first | (with_reducible first | exact HB.out | apply below_alloc | apply pw_below_drewN | apply below_drew1) | exact HB.out)))); have n3_ := Aside0.mk (below_step (by repeat (first | (with_reducible first | exact HB.out | apply below_alloc | apply pw_below_drewN | apply below_drew1) | exact HB.out)) hb); clear HO_9; clear HO_10; clear HB; have HO_9 := n0_; have HO_10 := n1_; have HO695 := n2_; have HB := n3_; clear n0_ n1_ n2_ n3_; (try clear hb); (try clear hb2); (try clear hk); (try clear hi); (try clear ho0); obtain ⟨Ao35, co35, eo35⟩ := Kd.R_slice HO695.out; subst eo35)))
          go_ret
          exact ⟨by first | rfl | (simp [errW_none, errW_some] <;> rfl) | (simp [*, errW_none, errW_some] <;> rfl), by repeat (first | (with_reducible first | exact HB.out | apply below_alloc | apply pw_below_drewN | apply below_drew1) | exact HB.out)⟩

/-- THE ONE PURE STATEMENT of ductuslaw13_LineWraps: yours. -/
def ductuslaw13_LineWraps.Pure : Prop := ∀ (a0 : Int) (a1 : Int) (a2 : Int), (Lit.int .u16 a0).wf = true → (Lit.int .u16 a1).wf = true → (Lit.int .u16 a2).wf = true → ∃ k, ductuslaw13_LineWraps.f k a0 a1 a2 = some true
theorem ductuslaw13_LineWraps.walk (P : ductuslaw13_LineWraps.Pure) (a0 : Int) (a1 : Int) (a2 : Int) (w : World) (w0 : (Lit.int .u16 a0).wf = true) (w1 : (Lit.int .u16 a1).wf = true) (w2 : (Lit.int .u16 a2).wf = true) :
    Calls Try.prog 7 #[.int .u16 a0, .int .u16 a1, .int .u16 a2] w fun e w' => e = .returned (.bool true) ∧ Below w.heap.size w w' := by
  obtain ⟨k, h⟩ := P a0 a1 a2 w0 w1 w2
  refine (ductuslaw13_LineWraps.calls k a0 a1 a2 true w h).mono ?_
  rintro e w' ⟨rfl, hd⟩
  exact ⟨rfl, hd⟩

end Go.Proofs.Ytmjipbmpapcboaa.P
