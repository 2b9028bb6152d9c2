/- Printed by a program of this claim's own over the translation: Lean functions of the Go functions, each with its proof; no condition beyond those written. -/
import Derived.Test.YtcmcajjdcbkfkaaPx0
import Derived.Test.YtcmcajjdcbkfkaaPx3
import Derived.Test.YtcmcajjdcbkfkaaSPair
namespace Go.Proofs.Ytcmcajjdcbkfkaa.P
open Go.RowKit Go.Proofs.YtcmcajjdcbkfkaaW.PrintWords Go.Proofs.YtcmcajjdcbkfkaaW.PrintLast Go.Proofs.YtcmcajjdcbkfkaaW.PrintMore
attribute [local go_sem] max2_int min2_int max_two min_two max_three min_three max_four min_four   -- for this text's walks alone
set_option linter.unusedVariables false
set_option linter.unusedSimpArgs false

-- BY HAND: function 28 (pair_Other)

/-! ### pair_Mirror: function 24 -/
mutual
def pair_Mirror.j0 : Nat → Int → Int → Bool → Option (Int)
  | 0, _, _, _ => none
  | k + 1, x0, x6, x7 => if x7 = true then (some (wrap64 (122 - x0))) else (if x6 = 171 then (pair_Mirror.j1 k x0 x6 (x6 == 171)) else (pair_Mirror.j1 k x0 x6 (x6 == 187)))
def pair_Mirror.j1 : Nat → Int → Int → Bool → Option (Int)
  | 0, _, _, _ => none
  | k + 1, x0, x6, x12 => if x12 = true then (some (wrap64 (358 - x0))) else (if x6 = 8804 then (pair_Mirror.j2 k x0 (x6 == 8804)) else (if x6 = 8805 then (pair_Mirror.j2 k x0 (x6 == 8805)) else (if x6 = 8810 then (pair_Mirror.j2 k x0 (x6 == 8810)) else (pair_Mirror.j2 k x0 (x6 == 8811)))))
def pair_Mirror.j2 : Nat → Int → Bool → Option (Int)
  | 0, _, _ => none
  | k + 1, x0, x17 => if x17 = true then (some (Go.bits .xor .i64 x0 1)) else ((pair_Other.f x0).bind fun bt149 => (if bt149.2.2 = true then (some bt149.1) else (some x0)))
end
def pair_Mirror.f (k : Nat) (a0 : Int) : Option (Int) := if a0 = 60 then (pair_Mirror.j0 k a0 a0 (a0 == 60)) else (pair_Mirror.j0 k a0 a0 (a0 == 62))
theorem pair_Mirror.mono_l : ∀ k, (∀ y0 y1 y2, LeO (pair_Mirror.j0 k y0 y1 y2) (pair_Mirror.j0 (k + 1) y0 y1 y2)) ∧ (∀ y0 y1 y2, LeO (pair_Mirror.j1 k y0 y1 y2) (pair_Mirror.j1 (k + 1) y0 y1 y2)) ∧ (∀ y0 y1, LeO (pair_Mirror.j2 k y0 y1) (pair_Mirror.j2 (k + 1) y0 y1))
  | 0 => ⟨fun _ _ _ r h => by simp [pair_Mirror.j0] at h, fun _ _ _ r h => by simp [pair_Mirror.j1] at h, fun _ _ r h => by simp [pair_Mirror.j2] at h⟩
  | k + 1 => by
    obtain ⟨ih0, ih1, ih2⟩ := pair_Mirror.mono_l k
    refine ⟨?_, ?_, ?_⟩
    · intro y0 y1 y2
      unfold pair_Mirror.j0
      repeat' first
      | (with_reducible exact ih0 _ _ _)
      | (with_reducible exact ih1 _ _ _)
      | (with_reducible exact ih2 _ _)
      | (with_reducible exact LeO.refl _)
      | (with_reducible exact LeO.none _)
      | (with_reducible refine LeO.ite ?_ ?_)
      | (with_reducible refine LeO.bind ?_ (fun _ => ?_))
      | exact ih0 _ _ _
      | exact ih1 _ _ _
      | exact ih2 _ _
      | exact LeO.none _
      | refine LeO.ite ?_ ?_
      | refine LeO.bind ?_ (fun _ => ?_)
    · intro y0 y1 y2
      unfold pair_Mirror.j1
      repeat' first
      | (with_reducible exact ih0 _ _ _)
      | (with_reducible exact ih1 _ _ _)
      | (with_reducible exact ih2 _ _)
      | (with_reducible exact LeO.refl _)
      | (with_reducible exact LeO.none _)
      | (with_reducible refine LeO.ite ?_ ?_)
      | (with_reducible refine LeO.bind ?_ (fun _ => ?_))
      | exact ih0 _ _ _
      | exact ih1 _ _ _
      | exact ih2 _ _
      | exact LeO.none _
      | refine LeO.ite ?_ ?_
      | refine LeO.bind ?_ (fun _ => ?_)
    · intro y0 y1
      unfold pair_Mirror.j2
      repeat' first
      | (with_reducible exact ih0 _ _ _)
      | (with_reducible exact ih1 _ _ _)
      | (with_reducible exact ih2 _ _)
      | (with_reducible exact LeO.refl _)
      | (with_reducible exact LeO.none _)
      | (with_reducible refine LeO.ite ?_ ?_)
      | (with_reducible refine LeO.bind ?_ (fun _ => ?_))
      | exact ih0 _ _ _
      | exact ih1 _ _ _
      | exact ih2 _ _
      | exact LeO.none _
      | refine LeO.ite ?_ ?_
      | refine LeO.bind ?_ (fun _ => ?_)
theorem pair_Mirror.mono : ∀ a0 k, LeO (pair_Mirror.f k a0) (pair_Mirror.f (k + 1) a0) := by
  intro a0 k
  obtain ⟨ih0, ih1, ih2⟩ := pair_Mirror.mono_l k
  unfold pair_Mirror.f
  repeat' first
      | (with_reducible exact ih0 _ _ _)
      | (with_reducible exact ih1 _ _ _)
      | (with_reducible exact ih2 _ _)
      | (with_reducible exact LeO.refl _)
      | (with_reducible exact LeO.none _)
      | (with_reducible refine LeO.ite ?_ ?_)
      | (with_reducible refine LeO.bind ?_ (fun _ => ?_))
      | exact ih0 _ _ _
      | exact ih1 _ _ _
      | exact ih2 _ _
      | exact LeO.none _
      | refine LeO.ite ?_ ?_
      | refine LeO.bind ?_ (fun _ => ?_)
set_option maxHeartbeats 8000000 in
set_option maxRecDepth 100000 in
theorem pair_Mirror.calls (k : Nat) (a0 : Int) (r : Int) (w : World) (h : pair_Mirror.f k a0 = some r) :
    Calls Try.prog 24 #[.int .i64 a0] w fun e w' => e = .returned (.int .i64 r) ∧ Below w.heap.size w w' := by
  have HB := Aside0.mk (Below.refl w.heap.size w)
  have H : (if a0 = 60 then (pair_Mirror.j0 k a0 a0 (a0 == 60)) else (pair_Mirror.j0 k a0 a0 (a0 == 62))) = some r := h
  clear h
  have HC2 := Aside0.mk H
  clear H
  go_enter Try.func24, Try.ntmps24
  go_upto_if 7 with (fail)
  go_cut [7] (fun v7 wc => ∃ (kq : Nat) (x7_1 : Bool), v7 = .bool x7_1 ∧ Aside0 (pair_Mirror.j0 kq a0 a0 x7_1 = some r) ∧ Aside0 (kq ≤ k) ∧ Aside0 (Below w.heap.size w wc))
  case first =>
    have H := HC2.out
    clear HC2
    by_cases c3 : a0 = 60
    rotate_left
    · rw [if_neg c3] at H
      have c3b0 : (a0 == 60) = false := beq_eq_false_iff_ne.mpr c3
      have c3b1 : (a0 != 60) = true := bne_iff_ne.mpr c3
      (first | rw [c3b0] | (simp only [i64_w, i32_w]; rw [c3b0]) | skip)
      have H' := Aside0.mk H
      clear H
      go_wp2
      go_meet
      case rel => exact ⟨_, ((a0 == 62)), (by first | rfl | (simp; done) | (simp [*]; done)), H', ⟨by first | omega | exact Nat.le_refl _⟩, ⟨by repeat (first | (with_reducible first | exact HB.out | apply below_alloc | apply pw_below_drewN | apply below_drew1) | exact HB.out)⟩⟩
    rw [if_pos c3] at H
    have c3b0 : (a0 == 60) = true := beq_iff_eq.mpr c3
    have c3b1 : (a0 != 60) = false := bne_eq_false_iff_eq.mpr c3
    clear c3
    (first | rw [c3b0] | (simp only [i64_w, i32_w]; rw [c3b0]) | skip)
    have H' := Aside0.mk H
    clear H
    go_wp2
    go_meet
    case rel => exact ⟨_, ((a0 == 60)), (by first | rfl | (simp; done) | (simp [*]; done)), H', ⟨by first | omega | exact Nat.le_refl _⟩, ⟨by repeat (first | (with_reducible first | exact HB.out | apply below_alloc | apply pw_below_drewN | apply below_drew1) | exact HB.out)⟩⟩
  case rest =>
    clear HC2
    try clear c2
    try clear p2
    try clear c3
    try clear c3b0
    try clear c3b1
    obtain ⟨kq, x7_1, rfl, HA, HJ1, HB⟩ := hcut
    cases kq with
    | zero => exact absurd HA.out (by simp [pair_Mirror.j0])
    | succ kj1 =>
      have H := HA.out
      clear HA
      simp only [pair_Mirror.j0] at H
      by_cases c4 : x7_1 = true
      · subst c4
        have H1 : (some (wrap64 (122 - a0))) = some r := by rw [if_pos rfl] at H; exact H
        clear H
        have H := H1
        clear H1
        obtain rfl := Option.some.inj H
        go_wp2
        go_ret
        exact ⟨by first | rfl | (simp [errW_none, errW_some] <;> rfl) | (simp [*, errW_none, errW_some] <;> rfl), by repeat (first | (with_reducible first | exact HB.out | apply below_alloc | apply pw_below_drewN | apply below_drew1) | exact HB.out)⟩
      replace c4 := Bool.eq_false_iff.mpr c4
      subst c4
      have H1 : (if a0 = 171 then (pair_Mirror.j1 kj1 a0 a0 (a0 == 171)) else (pair_Mirror.j1 kj1 a0 a0 (a0 == 187))) = some r := by rw [if_neg (show ¬ (false = true) by decide)] at H; exact H
      clear H
      have H := H1
      clear H1
      have HC5 := Aside0.mk H
      clear H
      go_upto_if 12 with (fail)
      go_cut [12] (fun v12 wc => ∃ (kq : Nat) (x12_4 : Bool), v12 = .bool x12_4 ∧ Aside0 (pair_Mirror.j1 kq a0 a0 x12_4 = some r) ∧ Aside0 (kq ≤ kj1) ∧ Aside0 (Below w.heap.size w wc))
      case first =>
        have H := HC5.out
        clear HC5
        by_cases c6 : a0 = 171
        rotate_left
        · rw [if_neg c6] at H
          have c6b0 : (a0 == 171) = false := beq_eq_false_iff_ne.mpr c6
          have c6b1 : (a0 != 171) = true := bne_iff_ne.mpr c6
          (first | rw [c6b0] | (simp only [i64_w, i32_w]; rw [c6b0]) | skip)
          have H' := Aside0.mk H
          clear H
          go_wp2
          go_meet
          case rel => exact ⟨_, ((a0 == 187)), (by first | rfl | (simp; done) | (simp [*]; done)), H', ⟨by have := HJ1.out; first | omega | exact Nat.le_refl _⟩, ⟨by repeat (first | (with_reducible first | exact HB.out | apply below_alloc | apply pw_below_drewN | apply below_drew1) | exact HB.out)⟩⟩
        rw [if_pos c6] at H
        have c6b0 : (a0 == 171) = true := beq_iff_eq.mpr c6
        have c6b1 : (a0 != 171) = false := bne_eq_false_iff_eq.mpr c6
        clear c6
        (first | rw [c6b0] | (simp only [i64_w, i32_w]; rw [c6b0]) | skip)
        have H' := Aside0.mk H
        clear H
        go_wp2
        go_meet
        case rel => exact ⟨_, ((a0 == 171)), (by first | rfl | (simp; done) | (simp [*]; done)), H', ⟨by have := HJ1.out; first | omega | exact Nat.le_refl _⟩, ⟨by repeat (first | (with_reducible first | exact HB.out | apply below_alloc | apply pw_below_drewN | apply below_drew1) | exact HB.out)⟩⟩
      case rest =>
        clear HC5
        try clear c2
        try clear p2
        try clear c3
        try clear c3b0
        try clear c3b1
        try clear c4
        try clear c6
        try clear c6b0
        try clear c6b1
        try clear p6
        try clear p2
        obtain ⟨kq, x12_4, rfl, HA, HJ4, HB⟩ := hcut
        cases kq with
        | zero => exact absurd HA.out (by simp [pair_Mirror.j1])
        | succ kj4 =>
          have H := HA.out
          clear HA
          simp only [pair_Mirror.j1] at H
          by_cases c7 : x12_4 = true
          · subst c7
            have H1 : (some (wrap64 (358 - a0))) = some r := by rw [if_pos rfl] at H; exact H
            clear H
            have H := H1
            clear H1
            obtain rfl := Option.some.inj H
            go_wp2
            go_ret
            exact ⟨by first | rfl | (simp [errW_none, errW_some] <;> rfl) | (simp [*, errW_none, errW_some] <;> rfl), by repeat (first | (with_reducible first | exact HB.out | apply below_alloc | apply pw_below_drewN | apply below_drew1) | exact HB.out)⟩
          replace c7 := Bool.eq_false_iff.mpr c7
          subst c7
          have H1 : (if a0 = 8804 then (pair_Mirror.j2 kj4 a0 (a0 == 8804)) else (if a0 = 8805 then (pair_Mirror.j2 kj4 a0 (a0 == 8805)) else (if a0 = 8810 then (pair_Mirror.j2 kj4 a0 (a0 == 8810)) else (pair_Mirror.j2 kj4 a0 (a0 == 8811))))) = some r := by rw [if_neg (show ¬ (false = true) by decide)] at H; exact H
          clear H
          have H := H1
          clear H1
          have HC8 := Aside0.mk H
          clear H
          go_upto_if 17 with (fail)
          go_cut [17] (fun v17 wc => ∃ (kq : Nat) (x17_7 : Bool), v17 = .bool x17_7 ∧ Aside0 (pair_Mirror.j2 kq a0 x17_7 = some r) ∧ Aside0 (kq ≤ kj4) ∧ Aside0 (Below w.heap.size w wc))
          case first =>
            have H := HC8.out
            clear HC8
            by_cases c9 : a0 = 8804
            · rw [if_pos c9] at H
              have c9b0 : (a0 == 8804) = true := beq_iff_eq.mpr c9
              have c9b1 : (a0 != 8804) = false := bne_eq_false_iff_eq.mpr c9
              clear c9
              (first | rw [c9b0] | (simp only [i64_w, i32_w]; rw [c9b0]) | skip)
              have H' := Aside0.mk H
              clear H
              go_wp2
              go_meet
              case rel => exact ⟨_, ((a0 == 8804)), (by first | rfl | (simp; done) | (simp [*]; done)), H', ⟨by have := HJ1.out; have := HJ4.out; first | omega | exact Nat.le_refl _⟩, ⟨by repeat (first | (with_reducible first | exact HB.out | apply below_alloc | apply pw_below_drewN | apply below_drew1) | exact HB.out)⟩⟩
            rw [if_neg c9] at H
            have c9b0 : (a0 == 8804) = false := beq_eq_false_iff_ne.mpr c9
            have c9b1 : (a0 != 8804) = true := bne_iff_ne.mpr c9
            (first | rw [c9b0] | (simp only [i64_w, i32_w]; rw [c9b0]) | skip)
            by_cases c10 : a0 = 8805
            · rw [if_pos c10] at H
              have c10b0 : (a0 == 8805) = true := beq_iff_eq.mpr c10
              have c10b1 : (a0 != 8805) = false := bne_eq_false_iff_eq.mpr c10
              clear c10
              have H' := Aside0.mk H
              clear H
              go_wp2
              go_meet
              case rel => exact ⟨_, ((a0 == 8805)), (by first | rfl | (simp; done) | (simp [*]; done)), H', ⟨by have := HJ1.out; have := HJ4.out; first | omega | exact Nat.le_refl _⟩, ⟨by repeat (first | (with_reducible first | exact HB.out | apply below_alloc | apply pw_below_drewN | apply below_drew1) | exact HB.out)⟩⟩
            rw [if_neg c10] at H
            have c10b0 : (a0 == 8805) = false := beq_eq_false_iff_ne.mpr c10
            have c10b1 : (a0 != 8805) = true := bne_iff_ne.mpr c10
            by_cases c11 : a0 = 8810
            rotate_left
            · rw [if_neg c11] at H
              have c11b0 : (a0 == 8810) = false := beq_eq_false_iff_ne.mpr c11
              have c11b1 : (a0 != 8810) = true := bne_iff_ne.mpr c11
              have H' := Aside0.mk H
              clear H
              go_wp2
              go_meet
              case rel => exact ⟨_, ((a0 == 8811)), (by first | rfl | (simp; done) | (simp [*]; done)), H', ⟨by have := HJ1.out; have := HJ4.out; first | omega | exact Nat.le_refl _⟩, ⟨by repeat (first | (with_reducible first | exact HB.out | apply below_alloc | apply pw_below_drewN | apply below_drew1) | exact HB.out)⟩⟩
            rw [if_pos c11] at H
            have c11b0 : (a0 == 8810) = true := beq_iff_eq.mpr c11
            have c11b1 : (a0 != 8810) = false := bne_eq_false_iff_eq.mpr c11
            clear c11
            have H' := Aside0.mk H
            clear H
            go_wp2
            go_meet
            case rel => exact ⟨_, ((a0 == 8810)), (by first | rfl | (simp; done) | (simp [*]; done)), H', ⟨by have := HJ1.out; have := HJ4.out; first | omega | exact Nat.le_refl _⟩, ⟨by repeat (first | (with_reducible first | exact HB.out | apply below_alloc | apply pw_below_drewN | apply below_drew1) | exact HB.out)⟩⟩
          case rest =>
            clear HC8
            try clear c1
            try clear c2
            try clear p2
            try clear c3
            try clear c3b0
            try clear c3b1
            try clear c4
            try clear c6
            try clear c6b0
            try clear c6b1
            try clear p6
            try clear c7
            try clear c9
            try clear c9b0
            try clear c9b1
            try clear c10
            try clear c10b0
            try clear c10b1
            try clear c11
            try clear c11b0
            try clear c11b1
            try clear p2
            try clear p6
            obtain ⟨kq, x17_7, rfl, HA, HJ7, HB⟩ := hcut
            cases kq with
            | zero => exact absurd HA.out (by simp [pair_Mirror.j2])
            | succ kj7 =>
              have H := HA.out
              clear HA
              simp only [pair_Mirror.j2] at H
              by_cases c12 : x17_7 = true
              · subst c12
                have H1 : (some (Go.bits .xor .i64 a0 1)) = some r := by rw [if_pos rfl] at H; exact H
                clear H
                have H := H1
                clear H1
                obtain rfl := Option.some.inj H
                go_wp2
                go_ret
                exact ⟨by first | rfl | (simp [errW_none, errW_some] <;> rfl) | (simp [*, errW_none, errW_some] <;> rfl), by repeat (first | (with_reducible first | exact HB.out | apply below_alloc | apply pw_below_drewN | apply below_drew1) | exact HB.out)⟩
              replace c12 := Bool.eq_false_iff.mpr c12
              subst c12
              have H1 : ((pair_Other.f a0).bind fun bt149 => (if bt149.2.2 = true then (some bt149.1) else (some a0))) = some r := by rw [if_neg (show ¬ (false = true) by decide)] at H; exact H
              clear H
              have H := H1
              clear H1
              replace H := Option.bind_eq_some_iff.mp H
              obtain ⟨⟨t149, t150, t151⟩, A130, H⟩ := H
              replace H : (if t151 = true then (some t149) else (some a0)) = some r := H
              have A13 := Aside0.mk A130
              clear A130
              by_cases c14 : t151 = true
              · subst c14
                have H1 : (some t149) = some r := by rw [if_pos rfl] at H; exact H
                clear H
                have H := H1
                clear H1
                obtain rfl := Option.some.inj H
                go_wp2_with (first | ((with_reducible refine gate_callee (f := 28) rfl ?_); refine goesL_ (some 26) rfl rfl Try.func28 (by kernel_rfl) rfl #[.int .i64 a0] rfl (by (try simp only [List.map_toArray, List.map_cons, List.map_nil]); first | done | rfl | (simp only [List.length_drop, List.length_take]; rfl)) ?_; (with_reducible refine (pair_Other.calls a0 t149 t150 true _ A13.out).mono ?_); rintro e w15 ⟨rfl, hb⟩; refine ⟨_, rfl, ?_⟩; have n0_ := Aside0.mk (below_step (by repeat (first | (with_reducible first | exact HB.out | apply below_alloc | apply pw_below_drewN | apply below_drew1) | exact HB.out)) hb); clear HB; have HB := n0_; clear n0_; (try clear hb); (try clear hb2); (try clear hk); (try clear hi)))
                go_ret
                exact ⟨by first | rfl | (simp [errW_none, errW_some] <;> rfl) | (simp [*, errW_none, errW_some] <;> rfl), by repeat (first | (with_reducible first | exact HB.out | apply below_alloc | apply pw_below_drewN | apply below_drew1) | exact HB.out)⟩
              replace c14 := Bool.eq_false_iff.mpr c14
              subst c14
              have H1 : (some a0) = some r := by rw [if_neg (show ¬ (false = true) by decide)] at H; exact H
              clear H
              have H := H1
              clear H1
              obtain rfl := Option.some.inj H
              go_wp2_with (first | ((with_reducible refine gate_callee (f := 28) rfl ?_); refine goesL_ (some 26) rfl rfl Try.func28 (by kernel_rfl) rfl #[.int .i64 a0] rfl (by (try simp only [List.map_toArray, List.map_cons, List.map_nil]); first | done | rfl | (simp only [List.length_drop, List.length_take]; rfl)) ?_; (with_reducible refine (pair_Other.calls a0 t149 t150 false _ A13.out).mono ?_); rintro e w16 ⟨rfl, hb⟩; refine ⟨_, rfl, ?_⟩; have n0_ := Aside0.mk (below_step (by repeat (first | (with_reducible first | exact HB.out | apply below_alloc | apply pw_below_drewN | apply below_drew1) | exact HB.out)) hb); clear HB; have HB := n0_; clear n0_; (try clear hb); (try clear hb2); (try clear hk); (try clear hi)))
              go_ret
              exact ⟨by first | rfl | (simp [errW_none, errW_some] <;> rfl) | (simp [*, errW_none, errW_some] <;> rfl), by repeat (first | (with_reducible first | exact HB.out | apply below_alloc | apply pw_below_drewN | apply below_drew1) | exact HB.out)⟩

/-! ### order_Seen: function 15 -/
def order_Seen.l0 : Nat → List Int → List Int → List Int → List Int → Int → Int → Option (List Int)
  | 0, _, _, _, _, _, _ => none
  | k + 1, x0, x1, x5, x15, x16, x17 => if x17 < x16 then (if 0 ≤ x17 then (if x17 < (x15.length : Int) then (if 0 ≤ (rd x15 x17) then (if (rd x15 x17) < (x0.length : Int) then (if (rd x15 x17) < (x1.length : Int) then (if (Go.bits .and .i64 (rd x1 (rd x15 x17)) 1) = 1 then ((pair_Mirror.f k (rd x0 (rd x15 x17))).bind fun t158 => (if x5.length < 17592186044416 then (order_Seen.l0 k x0 x1 (x5 ++ [t158]) x15 x16 (wrap64 (x17 + 1))) else (none))) else (if x5.length < 17592186044416 then (order_Seen.l0 k x0 x1 (x5 ++ [rd x0 (rd x15 x17)]) x15 x16 (wrap64 (x17 + 1))) else (none))) else (none)) else (none)) else (none)) else (none)) else (none)) else (some x5)
def order_Seen.f (k : Nat) (l0 : List Int) (l1 : List Int) : Option (List Int) := if (l0.length : Int) = (l1.length : Int) then ((order_Of.f k l1).bind fun t152 => (order_Seen.l0 k l0 l1 ([] : List Int) t152 (t152.length : Int) 0)) else (some ([] : List Int))
theorem order_Seen.mono_l : ∀ k, (∀ y0 y1 y2 y3 y4 y5, LeO (order_Seen.l0 k y0 y1 y2 y3 y4 y5) (order_Seen.l0 (k + 1) y0 y1 y2 y3 y4 y5))
  | 0 => fun _ _ _ _ _ _ r h => by simp [order_Seen.l0] at h
  | k + 1 => by
    have ih0 := order_Seen.mono_l k
    · intro y0 y1 y2 y3 y4 y5
      unfold order_Seen.l0
      repeat' first
      | (with_reducible exact ih0 _ _ _ _ _ _)
      | (with_reducible exact order_Of.mono _ _)
      | (with_reducible exact pair_Mirror.mono _ _)
      | (with_reducible exact LeO.refl _)
      | (with_reducible exact LeO.none _)
      | (with_reducible refine LeO.ite ?_ ?_)
      | (with_reducible refine LeO.bind ?_ (fun _ => ?_))
      | exact ih0 _ _ _ _ _ _
      | exact order_Of.mono _ _
      | exact pair_Mirror.mono _ _
      | exact LeO.none _
      | refine LeO.ite ?_ ?_
      | refine LeO.bind ?_ (fun _ => ?_)
theorem order_Seen.mono : ∀ a0 a1 k, LeO (order_Seen.f k a0 a1) (order_Seen.f (k + 1) a0 a1) := by
  intro a0 a1 k
  have ih0 := order_Seen.mono_l k
  unfold order_Seen.f
  repeat' first
      | (with_reducible exact ih0 _ _ _ _ _ _)
      | (with_reducible exact order_Of.mono _ _)
      | (with_reducible exact pair_Mirror.mono _ _)
      | (with_reducible exact LeO.refl _)
      | (with_reducible exact LeO.none _)
      | (with_reducible refine LeO.ite ?_ ?_)
      | (with_reducible refine LeO.bind ?_ (fun _ => ?_))
      | exact ih0 _ _ _ _ _ _
      | exact order_Of.mono _ _
      | exact pair_Mirror.mono _ _
      | exact LeO.none _
      | refine LeO.ite ?_ ?_
      | refine LeO.bind ?_ (fun _ => ?_)
set_option maxHeartbeats 8000000 in
set_option maxRecDepth 100000 in
theorem order_Seen.calls (k : Nat) (A0 : Option Addr) (c0 : Nat) (l0 : List Int) (A1 : Option Addr) (c1 : Nat) (l1 : List Int) (r : List Int) (w : World) (hr0 : Kd.C (Kd.int .i64) w A0 l0.length l0) (hc0 : l0.length ≤ c0) (hr1 : Kd.C (Kd.int .i64) w A1 l1.length l1) (hc1 : l1.length ≤ c1) (h : order_Seen.f k l0 l1 = some r) :
    Calls Try.prog 15 #[.slice A0 l0.length c0, .slice A1 l1.length c1] w fun e w' => ∃ v0_ : Value, e = .returned (v0_) ∧ Kd.R (Kd.int .i64) 3 w' w.heap.size (fun _ => True) v0_ r ∧ Below w.heap.size w w' := by
  have HR0 := Aside0.mk hr0
  have HC0 := Aside0.mk hc0
  clear hr0 hc0
  have HR1 := Aside0.mk hr1
  have HC1 := Aside0.mk hc1
  clear hr1 hc1
  have HB := Aside0.mk (Below.refl w.heap.size w)
  have H : (if (l0.length : Int) = (l1.length : Int) then ((order_Of.f k l1).bind fun t152 => (order_Seen.l0 k l0 l1 ([] : List Int) t152 (t152.length : Int) 0)) else (some ([] : List Int))) = some r := h
  clear h
  by_cases c3 : (l0.length : Int) = (l1.length : Int)
  rotate_left
  · rw [if_neg c3] at H
    have c3b0 : ((l0.length : Int) == (l1.length : Int)) = false := beq_eq_false_iff_ne.mpr c3
    have c3b1 : ((l0.length : Int) != (l1.length : Int)) = true := bne_iff_ne.mpr c3
    have c3b2 : (l0.length == l1.length) = false := by first | simpa using c3 | (simp at c3 ⊢; omega)
    obtain rfl := Option.some.inj H
    go_enter Try.func15, Try.ntmps15
    go_wp2
    go_ret
    exact ⟨_, by first | rfl | (simp [errW_none, errW_some] <;> rfl) | (simp [*, errW_none, errW_some] <;> rfl), by first | exact Kd.R_nil _ _ _ _ _ | exact Kd.N_nil _ _ _ _ _ | exact Kd.V_nil _ _ _ _ _ | exact Kd.Q_nil _ _ _ _ _ | exact Kd.S_nil _ _ _ _ _, by repeat (first | (with_reducible first | exact HB.out | apply below_alloc | apply pw_below_drewN | apply below_drew1) | exact HB.out)⟩
  rw [if_pos c3] at H
  have c3b0 : ((l0.length : Int) == (l1.length : Int)) = true := beq_iff_eq.mpr c3
  have c3b1 : ((l0.length : Int) != (l1.length : Int)) = false := bne_eq_false_iff_eq.mpr c3
  have c3b2 : (l0.length == l1.length) = true := by first | simpa using c3 | (simp at c3 ⊢; omega)
  clear c3
  replace H := Option.bind_eq_some_iff.mp H
  obtain ⟨t152, A40, H⟩ := H
  replace H : (order_Seen.l0 k l0 l1 ([] : List Int) t152 (t152.length : Int) 0) = some r := H
  have A4 := Aside0.mk A40
  clear A40
  have H' := Aside0.mk H
  clear H
  go_enter Try.func15, Try.ntmps15
  go_wp2_with (first | ((with_reducible refine gate_callee (f := 11) rfl ?_); refine goesL_ (some 15) rfl rfl Try.func11 (by kernel_rfl) rfl #[.slice A1 l1.length c1] rfl (by (try simp only [List.map_toArray, List.map_cons, List.map_nil]); first | done | rfl | (simp only [List.length_drop, List.length_take]; rfl)) ?_; (with_reducible refine (order_Of.calls k _ _ l1 t152 _ ?side1 ?side2 A4.out).mono ?_); (case side1 => repeat (first | exact HR1.out | (with_reducible refine Kd.C_alloc ?_ _) | (with_reducible refine Kd.C_drewN ?_ _) | (with_reducible refine Kd.C_drew ?_))); (case side2 => exact HC1.out); rintro e w5 ⟨v153, rfl, ho0, hb⟩; refine ⟨_, rfl, ?_⟩; have n0_ := Aside0.mk (Kd.R_lower ho0 (below_size (by repeat (first | (with_reducible first | exact HB.out | apply below_alloc | apply pw_below_drewN | apply below_drew1) | exact HB.out)))); have n1_ := Aside0.mk (below_step (by repeat (first | (with_reducible first | exact HB.out | apply below_alloc | apply pw_below_drewN | apply below_drew1) | exact HB.out)) hb); clear HB; have HO154 := n0_; have HB := n1_; clear n0_ n1_; (try clear hb); (try clear hb2); (try clear hk); (try clear hi); (try clear ho0); obtain ⟨Ao6, co6, eo6⟩ := Kd.R_slice HO154.out; subst eo6))
  go_loopg [5, 17] k (fun kq v5 v17 w' => ∃ (x5_1 : List Int) (x17_1 : Int), v17 = .int .i64 x17_1 ∧ Aside0 (order_Seen.l0 kq l0 l1 x5_1 t152 (t152.length : Int) x17_1 = some r) ∧ Aside0 (kq ≤ k) ∧ Aside0 (Kd.R (Kd.int .i64) 3 w' w.heap.size (fun k_ => some k_ ≠ ((.slice Ao6 t152.length co6) : Value).ownBlock) v5 x5_1) ∧ Aside0 (Kd.R (Kd.int .i64) 3 w' w.heap.size (fun k_ => some k_ ≠ (v5 : Value).ownBlock) (.slice Ao6 t152.length co6) t152) ∧ Aside0 (Below w.heap.size w w'))
  case atStart => exact ⟨(([] : List Int)), (0), (by first | rfl | (simp; done) | (simp [*]; done)), H', ⟨Nat.le_refl _⟩, ⟨by first | exact Kd.R_nil _ _ _ _ _ | exact Kd.N_nil _ _ _ _ _ | exact Kd.V_nil _ _ _ _ _ | exact Kd.Q_nil _ _ _ _ _ | exact Kd.S_nil _ _ _ _ _⟩, ⟨by (with_reducible repeat (first | apply Kd.R_alloc | apply Kd.R_drewN | apply Kd.R_drew)); exact Kd.R_mono HO154.out (fun _ hk => (by simp [Value.ownBlock]))⟩, ⟨by repeat (first | (with_reducible first | exact HB.out | apply below_alloc | apply pw_below_drewN | apply below_drew1) | exact HB.out)⟩⟩
  case round =>
    clear H'
    try clear c1
    try clear p2
    try clear c3
    try clear c3b0
    try clear c3b1
    try clear c3b2
    obtain ⟨x5_1, x17_1, rfl, HA, HK1, HO_5, HO_15, HB⟩ := hrel
    cases gk with
    | zero => exact absurd HA.out (by simp [order_Seen.l0])
    | succ k1 =>
      have H := HA.out
      clear HA
      simp only [order_Seen.l0] at H
      by_cases c7 : x17_1 < (t152.length : Int)
      rotate_left
      · rw [if_neg c7] at H
        have c7b0 : decide (x17_1 < (t152.length : Int)) = false := decide_eq_false c7
        clear c7
        obtain rfl := Option.some.inj H
        go_wp2
        go_ret
        exact ⟨_, by first | rfl | (simp [errW_none, errW_some] <;> rfl) | (simp [*, errW_none, errW_some] <;> rfl), by (with_reducible repeat (first | apply Kd.R_alloc | apply Kd.R_drewN | apply Kd.R_drew)); exact Kd.R_mono HO_5.out (fun _ hk => trivial), by repeat (first | (with_reducible first | exact HB.out | apply below_alloc | apply pw_below_drewN | apply below_drew1) | exact HB.out)⟩
      rw [if_pos c7] at H
      have c7b0 : decide (x17_1 < (t152.length : Int)) = true := decide_eq_true c7
      clear c7
      by_cases c8 : 0 ≤ x17_1
      rotate_left
      · rw [if_neg c8] at H
        exact absurd H (by simp)
      rw [if_pos c8] at H
      have c8b0 : decide (0 ≤ x17_1) = true := decide_eq_true c8
      clear c8
      by_cases c9 : x17_1 < (t152.length : Int)
      rotate_left
      · rw [if_neg c9] at H
        exact absurd H (by simp)
      rw [if_pos c9] at H
      have c9b0 : decide (x17_1 < (t152.length : Int)) = true := decide_eq_true c9
      clear c9
      by_cases c10 : 0 ≤ (rd t152 x17_1)
      rotate_left
      · rw [if_neg c10] at H
        exact absurd H (by simp)
      rw [if_pos c10] at H
      have c10b0 : decide (0 ≤ (rd t152 x17_1)) = true := decide_eq_true c10
      clear c10
      by_cases c11 : (rd t152 x17_1) < (l0.length : Int)
      rotate_left
      · rw [if_neg c11] at H
        exact absurd H (by simp)
      rw [if_pos c11] at H
      have c11b0 : decide ((rd t152 x17_1) < (l0.length : Int)) = true := decide_eq_true c11
      clear c11
      by_cases c12 : (rd t152 x17_1) < (l1.length : Int)
      rotate_left
      · rw [if_neg c12] at H
        exact absurd H (by simp)
      rw [if_pos c12] at H
      have c12b0 : decide ((rd t152 x17_1) < (l1.length : Int)) = true := decide_eq_true c12
      clear c12
      by_cases c13 : (Go.bits .and .i64 (rd l1 (rd t152 x17_1)) 1) = 1
      rotate_left
      · rw [if_neg c13] at H
        have c13b0 : ((Go.bits .and .i64 (rd l1 (rd t152 x17_1)) 1) == 1) = false := beq_eq_false_iff_ne.mpr c13
        have c13b1 : ((Go.bits .and .i64 (rd l1 (rd t152 x17_1)) 1) != 1) = true := bne_iff_ne.mpr c13
        by_cases c18 : x5_1.length < 17592186044416
        rotate_left
        · rw [if_neg c18] at H
          exact absurd H (by simp)
        rw [if_pos c18] at H
        have LMc18 := Aside0.mk c18
        clear c18
        obtain ⟨y162, hy162⟩ : ∃ y_ : List Int, y_ = (x5_1 ++ [rd l0 (rd t152 x17_1)]) := ⟨_, rfl⟩
        replace H : (order_Seen.l0 k1 l0 l1 y162 t152 (t152.length : Int) (wrap64 (x17_1 + 1))) = some r := by first | (rw [hy162]; with_reducible exact H) | (have H2_ := (Option.bind_some _ _).symm.trans H; rw [hy162]; with_reducible exact H2_) | (have H2_ := (Option.bind_some _ _).symm.trans H; with_reducible exact H2_) | with_reducible exact H | (rw [hy162]; exact H) | exact H
        have Ny162 := Aside0.mk hy162
        clear hy162
        have H' := Aside0.mk H
        clear H
        have p155 : 0 ≤ (x17_1 : Int) := of_decide_eq_true (by first | (with_reducible assumption) | assumption)
        have q155 : x17_1 < (t152.length : Int) := of_decide_eq_true (by first | (with_reducible assumption) | assumption)
        obtain ⟨ad155, e155, hx155_0⟩ := Kd.at_int (Kd.R_reads' HO_15.out).2.2 x17_1 p155 q155
        cases e155
        replace p155 := eq_true p155
        replace q155 := eq_true q155
        have p156 : 0 ≤ ((rd t152 x17_1) : Int) := of_decide_eq_true (by first | (with_reducible assumption) | assumption)
        have q156 : (rd t152 x17_1) < (l0.length : Int) := of_decide_eq_true (by first | (with_reducible assumption) | assumption)
        obtain ⟨ad156, e156, hx156_0⟩ := Kd.at_int HR0.out (rd t152 x17_1) p156 q156
        cases e156
        replace hx156_0 := (HB.out.cell (World.block_lt_of_cell? w _ hx156_0)).trans hx156_0
        replace p156 := eq_true p156
        replace q156 := eq_true q156
        have p157 : 0 ≤ ((rd t152 x17_1) : Int) := of_decide_eq_true (by first | (with_reducible assumption) | assumption)
        have q157 : (rd t152 x17_1) < (l1.length : Int) := of_decide_eq_true (by first | (with_reducible assumption) | assumption)
        obtain ⟨ad157, e157, hx157_0⟩ := Kd.at_int HR1.out (rd t152 x17_1) p157 q157
        cases e157
        replace hx157_0 := (HB.out.cell (World.block_lt_of_cell? w _ hx157_0)).trans hx157_0
        replace p157 := eq_true p157
        replace q157 := eq_true q157
        go_wp2_with (first | ((with_reducible refine gate_builtin (b := .append) (xs := #[.tmp 33, .tmp 35]) rfl ?_); at_builtin; refine Kd.R_append (Kd.int .i64) (w0 := w) w.heap.size rfl (.tmp 33) (.tmp 35) 22 3 (.int .i64 0) 8 rfl Try.underlying22 info3 rfl (by decide) (by omega) u5 x5_1 (rd l0 (rd t152 x17_1)) [.int .i64 (rd l0 (rd t152 x17_1))] (fun k_ => some k_ ≠ (.slice (some ad155) t152.length co6 : Value).ownBlock) (fun _ => False) rfl rfl ?aP (fun _ hk => hk.elim) ?aF ?aO ?aB ?aS ?aL ?_; (case aP => exact rfl); (case aB => exact (by repeat (first | (with_reducible first | exact HB.out | apply below_alloc | apply pw_below_drewN | apply below_drew1) | exact HB.out))); (case aF => exact (fun k_ hk => Kd.fresh' (Kd.R_lt (by (with_reducible repeat (first | apply Kd.R_alloc | apply Kd.R_drewN | apply Kd.R_drew)); exact HO_15.out)) k_ hk)); (case aO => exact (by (with_reducible repeat (first | apply Kd.R_alloc | apply Kd.R_drewN | apply Kd.R_drew)); exact HO_5.out)); (case aS => exact (below_size (by repeat (first | (with_reducible first | exact HB.out | apply below_alloc | apply pw_below_drewN | apply below_drew1) | exact HB.out)))); (case aL => have := LMc18.out; omega); intro v163 w19 ho hb hg hat; rw [← Ny162.out] at ho; have n0_ := Aside0.mk (Kd.R_after (ok := (fun _ => True)) (by (with_reducible repeat (first | apply Kd.R_alloc | apply Kd.R_drewN | apply Kd.R_drew)); exact Kd.R_mono HO_15.out (fun _ hk => ⟨trivial, hk⟩)) hg hat); have n1_ := Aside0.mk (hb); have n2_ := Aside0.mk (ho); clear HO_15; clear HB; clear HO_5; have HO_15 := n0_; have HB := n1_; have HO164 := n2_; clear n0_ n1_ n2_; clear ho hb hg hat))
        go_roundg k1
        case measure => have := HK1.out; omega
        case rel => exact ⟨(y162), (wrap64 (x17_1 + 1)), (by first | rfl | (simp; done) | (simp [*]; done)), H', ⟨by have := HK1.out; omega⟩, ⟨by (with_reducible repeat (first | apply Kd.R_alloc | apply Kd.R_drewN | apply Kd.R_drew)); exact HO164.out⟩, ⟨by (with_reducible repeat (first | apply Kd.R_alloc | apply Kd.R_drewN | apply Kd.R_drew)); exact Kd.R_mono HO_15.out (fun _ hk => hk.2)⟩, ⟨by repeat (first | (with_reducible first | exact HB.out | apply below_alloc | apply pw_below_drewN | apply below_drew1) | exact HB.out)⟩⟩
      rw [if_pos c13] at H
      have c13b0 : ((Go.bits .and .i64 (rd l1 (rd t152 x17_1)) 1) == 1) = true := beq_iff_eq.mpr c13
      have c13b1 : ((Go.bits .and .i64 (rd l1 (rd t152 x17_1)) 1) != 1) = false := bne_eq_false_iff_eq.mpr c13
      clear c13
      replace H := Option.bind_eq_some_iff.mp H
      obtain ⟨t158, A140, H⟩ := H
      replace H : (if x5_1.length < 17592186044416 then (order_Seen.l0 k1 l0 l1 (x5_1 ++ [t158]) t152 (t152.length : Int) (wrap64 (x17_1 + 1))) else (none)) = some r := H
      have A14 := Aside0.mk A140
      clear A140
      by_cases c15 : x5_1.length < 17592186044416
      rotate_left
      · rw [if_neg c15] at H
        exact absurd H (by simp)
      rw [if_pos c15] at H
      have LMc15 := Aside0.mk c15
      clear c15
      obtain ⟨y159, hy159⟩ : ∃ y_ : List Int, y_ = (x5_1 ++ [t158]) := ⟨_, rfl⟩
      replace H : (order_Seen.l0 k1 l0 l1 y159 t152 (t152.length : Int) (wrap64 (x17_1 + 1))) = some r := by first | (rw [hy159]; with_reducible exact H) | (have H2_ := (Option.bind_some _ _).symm.trans H; rw [hy159]; with_reducible exact H2_) | (have H2_ := (Option.bind_some _ _).symm.trans H; with_reducible exact H2_) | with_reducible exact H | (rw [hy159]; exact H) | exact H
      have Ny159 := Aside0.mk hy159
      clear hy159
      have H' := Aside0.mk H
      clear H
      have p155 : 0 ≤ (x17_1 : Int) := of_decide_eq_true (by first | (with_reducible assumption) | assumption)
      have q155 : x17_1 < (t152.length : Int) := of_decide_eq_true (by first | (with_reducible assumption) | assumption)
      obtain ⟨ad155, e155, hx155_0⟩ := Kd.at_int (Kd.R_reads' HO_15.out).2.2 x17_1 p155 q155
      cases e155
      replace p155 := eq_true p155
      replace q155 := eq_true q155
      have p156 : 0 ≤ ((rd t152 x17_1) : Int) := of_decide_eq_true (by first | (with_reducible assumption) | assumption)
      have q156 : (rd t152 x17_1) < (l0.length : Int) := of_decide_eq_true (by first | (with_reducible assumption) | assumption)
      obtain ⟨ad156, e156, hx156_0⟩ := Kd.at_int HR0.out (rd t152 x17_1) p156 q156
      cases e156
      replace hx156_0 := (HB.out.cell (World.block_lt_of_cell? w _ hx156_0)).trans hx156_0
      replace p156 := eq_true p156
      replace q156 := eq_true q156
      have p157 : 0 ≤ ((rd t152 x17_1) : Int) := of_decide_eq_true (by first | (with_reducible assumption) | assumption)
      have q157 : (rd t152 x17_1) < (l1.length : Int) := of_decide_eq_true (by first | (with_reducible assumption) | assumption)
      obtain ⟨ad157, e157, hx157_0⟩ := Kd.at_int HR1.out (rd t152 x17_1) p157 q157
      cases e157
      replace hx157_0 := (HB.out.cell (World.block_lt_of_cell? w _ hx157_0)).trans hx157_0
      replace p157 := eq_true p157
      replace q157 := eq_true q157
      go_wp2_with (first | ((with_reducible refine gate_callee (f := 24) rfl ?_); refine goesL_ (some 32) rfl rfl Try.func24 (by kernel_rfl) rfl #[.int .i64 (rd l0 (rd t152 x17_1))] rfl (by (try simp only [List.map_toArray, List.map_cons, List.map_nil]); first | done | rfl | (simp only [List.length_drop, List.length_take]; rfl)) ?_; (with_reducible refine (pair_Mirror.calls k1 (rd l0 (rd t152 x17_1)) t158 _ A14.out).mono ?_); rintro e w16 ⟨rfl, hb⟩; refine ⟨_, rfl, ?_⟩; have n0_ := Aside0.mk (Kd.R_below (by (with_reducible repeat (first | apply Kd.R_alloc | apply Kd.R_drewN | apply Kd.R_drew)); exact HO_5.out) hb); have n1_ := Aside0.mk (Kd.R_below (by (with_reducible repeat (first | apply Kd.R_alloc | apply Kd.R_drewN | apply Kd.R_drew)); exact HO_15.out) hb); have n2_ := Aside0.mk (below_step (by repeat (first | (with_reducible first | exact HB.out | apply below_alloc | apply pw_below_drewN | apply below_drew1) | exact HB.out)) hb); clear HO_5; clear HO_15; clear HB; have HO_5 := n0_; have HO_15 := n1_; have HB := n2_; clear n0_ n1_ n2_; (try clear hb); (try clear hb2); (try clear hk); (try clear hi)) | ((with_reducible refine gate_builtin (b := .append) (xs := #[.tmp 33, .tmp 35]) rfl ?_); at_builtin; refine Kd.R_append (Kd.int .i64) (w0 := w) w.heap.size rfl (.tmp 33) (.tmp 35) 22 3 (.int .i64 0) 8 rfl Try.underlying22 info3 rfl (by decide) (by omega) u5 x5_1 t158 [.int .i64 t158] (fun k_ => some k_ ≠ (.slice (some ad155) t152.length co6 : Value).ownBlock) (fun _ => False) rfl rfl ?aP (fun _ hk => hk.elim) ?aF ?aO ?aB ?aS ?aL ?_; (case aP => exact rfl); (case aB => exact (by repeat (first | (with_reducible first | exact HB.out | apply below_alloc | apply pw_below_drewN | apply below_drew1) | exact HB.out))); (case aF => exact (fun k_ hk => Kd.fresh' (Kd.R_lt (by (with_reducible repeat (first | apply Kd.R_alloc | apply Kd.R_drewN | apply Kd.R_drew)); exact HO_15.out)) k_ hk)); (case aO => exact (by (with_reducible repeat (first | apply Kd.R_alloc | apply Kd.R_drewN | apply Kd.R_drew)); exact HO_5.out)); (case aS => exact (below_size (by repeat (first | (with_reducible first | exact HB.out | apply below_alloc | apply pw_below_drewN | apply below_drew1) | exact HB.out)))); (case aL => have := LMc15.out; omega); intro v160 w17 ho hb hg hat; rw [← Ny159.out] at ho; have n0_ := Aside0.mk (Kd.R_after (ok := (fun _ => True)) (by (with_reducible repeat (first | apply Kd.R_alloc | apply Kd.R_drewN | apply Kd.R_drew)); exact Kd.R_mono HO_15.out (fun _ hk => ⟨trivial, hk⟩)) hg hat); have n1_ := Aside0.mk (hb); have n2_ := Aside0.mk (ho); clear HO_15; clear HB; clear HO_5; have HO_15 := n0_; have HB := n1_; have HO161 := n2_; clear n0_ n1_ n2_; clear ho hb hg hat))
      go_roundg k1
      case measure => have := HK1.out; omega
      case rel => exact ⟨(y159), (wrap64 (x17_1 + 1)), (by first | rfl | (simp; done) | (simp [*]; done)), H', ⟨by have := HK1.out; omega⟩, ⟨by (with_reducible repeat (first | apply Kd.R_alloc | apply Kd.R_drewN | apply Kd.R_drew)); exact HO161.out⟩, ⟨by (with_reducible repeat (first | apply Kd.R_alloc | apply Kd.R_drewN | apply Kd.R_drew)); exact Kd.R_mono HO_15.out (fun _ hk => hk.2)⟩, ⟨by repeat (first | (with_reducible first | exact HB.out | apply below_alloc | apply pw_below_drewN | apply below_drew1) | exact HB.out)⟩⟩

/-! ### order_Only: function 17 -/
def order_Only.l0 : Nat → List Bool → List Int → List Int → Int → Int → Option (List Int)
  | 0, _, _, _, _, _ => none
  | k + 1, x1, x5, x8, x9, x10 => if x10 < x9 then (if 0 ≤ x10 then (if x10 < (x8.length : Int) then (if (rd x8 x10) ≥ 0 then (if (rd x8 x10) < (x1.length : Int) then (if 0 ≤ (rd x8 x10) then (if rdOf false x1 (rd x8 x10) = true then (if x5.length < 17592186044416 then (order_Only.l0 k x1 (x5 ++ [rd x8 x10]) x8 x9 (wrap64 (x10 + 1))) else (none)) else (order_Only.l0 k x1 x5 x8 x9 (wrap64 (x10 + 1)))) else (none)) else (order_Only.l0 k x1 x5 x8 x9 (wrap64 (x10 + 1)))) else (order_Only.l0 k x1 x5 x8 x9 (wrap64 (x10 + 1)))) else (none)) else (none)) else (some x5)
def order_Only.f (k : Nat) (l0 : List Int) (l1 : List Bool) : Option (List Int) := order_Only.l0 k l1 ([] : List Int) l0 (l0.length : Int) 0
theorem order_Only.mono_l : ∀ k, (∀ y0 y1 y2 y3 y4, LeO (order_Only.l0 k y0 y1 y2 y3 y4) (order_Only.l0 (k + 1) y0 y1 y2 y3 y4))
  | 0 => fun _ _ _ _ _ r h => by simp [order_Only.l0] at h
  | k + 1 => by
    have ih0 := order_Only.mono_l k
    · intro y0 y1 y2 y3 y4
      unfold order_Only.l0
      repeat' first
      | (with_reducible exact ih0 _ _ _ _ _)
      | (with_reducible exact LeO.refl _)
      | (with_reducible exact LeO.none _)
      | (with_reducible refine LeO.ite ?_ ?_)
      | (with_reducible refine LeO.bind ?_ (fun _ => ?_))
      | exact ih0 _ _ _ _ _
      | exact LeO.none _
      | refine LeO.ite ?_ ?_
      | refine LeO.bind ?_ (fun _ => ?_)
theorem order_Only.mono : ∀ a0 a1 k, LeO (order_Only.f k a0 a1) (order_Only.f (k + 1) a0 a1) := by
  intro a0 a1 k
  have ih0 := order_Only.mono_l k
  unfold order_Only.f
  repeat' first
      | (with_reducible exact ih0 _ _ _ _ _)
      | (with_reducible exact LeO.refl _)
      | (with_reducible exact LeO.none _)
      | (with_reducible refine LeO.ite ?_ ?_)
      | (with_reducible refine LeO.bind ?_ (fun _ => ?_))
      | exact ih0 _ _ _ _ _
      | exact LeO.none _
      | refine LeO.ite ?_ ?_
      | refine LeO.bind ?_ (fun _ => ?_)
set_option maxHeartbeats 8000000 in
set_option maxRecDepth 100000 in
theorem order_Only.calls (k : Nat) (A0 : Option Addr) (c0 : Nat) (l0 : List Int) (A1 : Option Addr) (c1 : Nat) (l1 : List Bool) (r : List Int) (w : World) (hr0 : Kd.C (Kd.int .i64) w A0 l0.length l0) (hc0 : l0.length ≤ c0) (hr1 : Kd.C Kd.bool w A1 l1.length l1) (hc1 : l1.length ≤ c1) (h : order_Only.f k l0 l1 = some r) :
    Calls Try.prog 17 #[.slice A0 l0.length c0, .slice A1 l1.length c1] w fun e w' => ∃ v0_ : Value, e = .returned (v0_) ∧ Kd.R (Kd.int .i64) 3 w' w.heap.size (fun _ => True) v0_ r ∧ Below w.heap.size w w' := by
  have HR0 := Aside0.mk hr0
  have HC0 := Aside0.mk hc0
  clear hr0 hc0
  have HR1 := Aside0.mk hr1
  have HC1 := Aside0.mk hc1
  clear hr1 hc1
  have HB := Aside0.mk (Below.refl w.heap.size w)
  have H : (order_Only.l0 k l1 ([] : List Int) l0 (l0.length : Int) 0) = some r := h
  clear h
  have H' := Aside0.mk H
  clear H
  go_enter Try.func17, Try.ntmps17
  go_wp2
  go_loopg [5, 10] k (fun kq v5 v10 w' => ∃ (x5_1 : List Int) (x10_1 : Int), v10 = .int .i64 x10_1 ∧ Aside0 (order_Only.l0 kq l1 x5_1 l0 (l0.length : Int) x10_1 = some r) ∧ Aside0 (kq ≤ k) ∧ Aside0 (Kd.R (Kd.int .i64) 3 w' w.heap.size (fun _ => True) v5 x5_1) ∧ Aside0 (Below w.heap.size w w'))
  case atStart => exact ⟨(([] : List Int)), (0), (by first | rfl | (simp; done) | (simp [*]; done)), H', ⟨Nat.le_refl _⟩, ⟨by first | exact Kd.R_nil _ _ _ _ _ | exact Kd.N_nil _ _ _ _ _ | exact Kd.V_nil _ _ _ _ _ | exact Kd.Q_nil _ _ _ _ _ | exact Kd.S_nil _ _ _ _ _⟩, ⟨by repeat (first | (with_reducible first | exact HB.out | apply below_alloc | apply pw_below_drewN | apply below_drew1) | exact HB.out)⟩⟩
  case round =>
    clear H'
    try clear c1
    try clear p2
    obtain ⟨x5_1, x10_1, rfl, HA, HK1, HO_5, HB⟩ := hrel
    cases gk with
    | zero => exact absurd HA.out (by simp [order_Only.l0])
    | succ k1 =>
      have H := HA.out
      clear HA
      simp only [order_Only.l0] at H
      by_cases c3 : x10_1 < (l0.length : Int)
      rotate_left
      · rw [if_neg c3] at H
        have c3b0 : decide (x10_1 < (l0.length : Int)) = false := decide_eq_false c3
        clear c3
        obtain rfl := Option.some.inj H
        go_wp2
        go_ret
        exact ⟨_, by first | rfl | (simp [errW_none, errW_some] <;> rfl) | (simp [*, errW_none, errW_some] <;> rfl), by (with_reducible repeat (first | apply Kd.R_alloc | apply Kd.R_drewN | apply Kd.R_drew)); exact HO_5.out, by repeat (first | (with_reducible first | exact HB.out | apply below_alloc | apply pw_below_drewN | apply below_drew1) | exact HB.out)⟩
      rw [if_pos c3] at H
      have c3b0 : decide (x10_1 < (l0.length : Int)) = true := decide_eq_true c3
      clear c3
      by_cases c4 : 0 ≤ x10_1
      rotate_left
      · rw [if_neg c4] at H
        exact absurd H (by simp)
      rw [if_pos c4] at H
      have c4b0 : decide (0 ≤ x10_1) = true := decide_eq_true c4
      clear c4
      by_cases c5 : x10_1 < (l0.length : Int)
      rotate_left
      · rw [if_neg c5] at H
        exact absurd H (by simp)
      rw [if_pos c5] at H
      have c5b0 : decide (x10_1 < (l0.length : Int)) = true := decide_eq_true c5
      clear c5
      by_cases c6 : (rd l0 x10_1) ≥ 0
      rotate_left
      · rw [if_neg c6] at H
        have c6b0 : decide (0 ≤ (rd l0 x10_1)) = false := decide_eq_false c6
        clear c6
        have H' := Aside0.mk H
        clear H
        have p165 : 0 ≤ (x10_1 : Int) := of_decide_eq_true (by first | (with_reducible assumption) | assumption)
        have q165 : x10_1 < (l0.length : Int) := of_decide_eq_true (by first | (with_reducible assumption) | assumption)
        obtain ⟨ad165, e165, hx165_0⟩ := Kd.at_int HR0.out x10_1 p165 q165
        cases e165
        replace hx165_0 := (HB.out.cell (World.block_lt_of_cell? w _ hx165_0)).trans hx165_0
        replace p165 := eq_true p165
        replace q165 := eq_true q165
        go_wp2
        go_roundg k1
        case measure => have := HK1.out; omega
        case rel => exact ⟨(x5_1), (wrap64 (x10_1 + 1)), (by first | rfl | (simp; done) | (simp [*]; done)), H', ⟨by have := HK1.out; omega⟩, ⟨by (with_reducible repeat (first | apply Kd.R_alloc | apply Kd.R_drewN | apply Kd.R_drew)); exact HO_5.out⟩, ⟨by repeat (first | (with_reducible first | exact HB.out | apply below_alloc | apply pw_below_drewN | apply below_drew1) | exact HB.out)⟩⟩
      rw [if_pos c6] at H
      have c6b0 : decide (0 ≤ (rd l0 x10_1)) = true := decide_eq_true c6
      clear c6
      by_cases c7 : (rd l0 x10_1) < (l1.length : Int)
      rotate_left
      · rw [if_neg c7] at H
        have c7b0 : decide ((rd l0 x10_1) < (l1.length : Int)) = false := decide_eq_false c7
        clear c7
        have H' := Aside0.mk H
        clear H
        have p165 : 0 ≤ (x10_1 : Int) := of_decide_eq_true (by first | (with_reducible assumption) | assumption)
        have q165 : x10_1 < (l0.length : Int) := of_decide_eq_true (by first | (with_reducible assumption) | assumption)
        obtain ⟨ad165, e165, hx165_0⟩ := Kd.at_int HR0.out x10_1 p165 q165
        cases e165
        replace hx165_0 := (HB.out.cell (World.block_lt_of_cell? w _ hx165_0)).trans hx165_0
        replace p165 := eq_true p165
        replace q165 := eq_true q165
        go_wp2
        go_roundg k1
        case measure => have := HK1.out; omega
        case rel => exact ⟨(x5_1), (wrap64 (x10_1 + 1)), (by first | rfl | (simp; done) | (simp [*]; done)), H', ⟨by have := HK1.out; omega⟩, ⟨by (with_reducible repeat (first | apply Kd.R_alloc | apply Kd.R_drewN | apply Kd.R_drew)); exact HO_5.out⟩, ⟨by repeat (first | (with_reducible first | exact HB.out | apply below_alloc | apply pw_below_drewN | apply below_drew1) | exact HB.out)⟩⟩
      rw [if_pos c7] at H
      have c7b0 : decide ((rd l0 x10_1) < (l1.length : Int)) = true := decide_eq_true c7
      clear c7
      by_cases c8 : 0 ≤ (rd l0 x10_1)
      rotate_left
      · rw [if_neg c8] at H
        exact absurd H (by simp)
      rw [if_pos c8] at H
      have c8b0 : decide (0 ≤ (rd l0 x10_1)) = true := decide_eq_true c8
      clear c8
      obtain ⟨bq9, hbq9⟩ : ∃ b_ : Bool, b_ = (rdOf false l1 (rd l0 x10_1)) := ⟨_, rfl⟩
      replace H : (if bq9 = true then (if x5_1.length < 17592186044416 then (order_Only.l0 k1 l1 (x5_1 ++ [rd l0 x10_1]) l0 (l0.length : Int) (wrap64 (x10_1 + 1))) else (none)) else (order_Only.l0 k1 l1 x5_1 l0 (l0.length : Int) (wrap64 (x10_1 + 1)))) = some r := by rw [← hbq9] at H; exact H
      have Nbq9 := Aside0.mk hbq9
      clear hbq9
      by_cases c10 : bq9 = true
      rotate_left
      · replace c10 := Bool.eq_false_iff.mpr c10
        subst c10
        have H1 : (order_Only.l0 k1 l1 x5_1 l0 (l0.length : Int) (wrap64 (x10_1 + 1))) = some r := by rw [if_neg (show ¬ (false = true) by decide)] at H; exact H
        clear H
        have H := H1
        clear H1
        have H' := Aside0.mk H
        clear H
        have p165 : 0 ≤ (x10_1 : Int) := of_decide_eq_true (by first | (with_reducible assumption) | assumption)
        have q165 : x10_1 < (l0.length : Int) := of_decide_eq_true (by first | (with_reducible assumption) | assumption)
        obtain ⟨ad165, e165, hx165_0⟩ := Kd.at_int HR0.out x10_1 p165 q165
        cases e165
        replace hx165_0 := (HB.out.cell (World.block_lt_of_cell? w _ hx165_0)).trans hx165_0
        replace p165 := eq_true p165
        replace q165 := eq_true q165
        have p166 : 0 ≤ ((rd l0 x10_1) : Int) := of_decide_eq_true (by first | (with_reducible assumption) | assumption)
        have q166 : (rd l0 x10_1) < (l1.length : Int) := of_decide_eq_true (by first | (with_reducible assumption) | assumption)
        obtain ⟨ad166, e166, hx166_0⟩ := Kd.at_bool HR1.out (rd l0 x10_1) p166 q166
        (try rw [← Nbq9.out] at hx166_0)
        cases e166
        replace hx166_0 := (HB.out.cell (World.block_lt_of_cell? w _ hx166_0)).trans hx166_0
        replace p166 := eq_true p166
        replace q166 := eq_true q166
        go_wp2
        go_roundg k1
        case measure => have := HK1.out; omega
        case rel => exact ⟨(x5_1), (wrap64 (x10_1 + 1)), (by first | rfl | (simp; done) | (simp [*]; done)), H', ⟨by have := HK1.out; omega⟩, ⟨by (with_reducible repeat (first | apply Kd.R_alloc | apply Kd.R_drewN | apply Kd.R_drew)); exact HO_5.out⟩, ⟨by repeat (first | (with_reducible first | exact HB.out | apply below_alloc | apply pw_below_drewN | apply below_drew1) | exact HB.out)⟩⟩
      subst c10
      have H1 : (if x5_1.length < 17592186044416 then (order_Only.l0 k1 l1 (x5_1 ++ [rd l0 x10_1]) l0 (l0.length : Int) (wrap64 (x10_1 + 1))) else (none)) = some r := by rw [if_pos rfl] at H; exact H
      clear H
      have H := H1
      clear H1
      by_cases c11 : x5_1.length < 17592186044416
      rotate_left
      · rw [if_neg c11] at H
        exact absurd H (by simp)
      rw [if_pos c11] at H
      have LMc11 := Aside0.mk c11
      clear c11
      obtain ⟨y167, hy167⟩ : ∃ y_ : List Int, y_ = (x5_1 ++ [rd l0 x10_1]) := ⟨_, rfl⟩
      replace H : (order_Only.l0 k1 l1 y167 l0 (l0.length : Int) (wrap64 (x10_1 + 1))) = some r := by first | (rw [hy167]; with_reducible exact H) | (have H2_ := (Option.bind_some _ _).symm.trans H; rw [hy167]; with_reducible exact H2_) | (have H2_ := (Option.bind_some _ _).symm.trans H; with_reducible exact H2_) | with_reducible exact H | (rw [hy167]; exact H) | exact H
      have Ny167 := Aside0.mk hy167
      clear hy167
      have H' := Aside0.mk H
      clear H
      have p165 : 0 ≤ (x10_1 : Int) := of_decide_eq_true (by first | (with_reducible assumption) | assumption)
      have q165 : x10_1 < (l0.length : Int) := of_decide_eq_true (by first | (with_reducible assumption) | assumption)
      obtain ⟨ad165, e165, hx165_0⟩ := Kd.at_int HR0.out x10_1 p165 q165
      cases e165
      replace hx165_0 := (HB.out.cell (World.block_lt_of_cell? w _ hx165_0)).trans hx165_0
      replace p165 := eq_true p165
      replace q165 := eq_true q165
      have p166 : 0 ≤ ((rd l0 x10_1) : Int) := of_decide_eq_true (by first | (with_reducible assumption) | assumption)
      have q166 : (rd l0 x10_1) < (l1.length : Int) := of_decide_eq_true (by first | (with_reducible assumption) | assumption)
      obtain ⟨ad166, e166, hx166_0⟩ := Kd.at_bool HR1.out (rd l0 x10_1) p166 q166
      (try rw [← Nbq9.out] at hx166_0)
      cases e166
      replace hx166_0 := (HB.out.cell (World.block_lt_of_cell? w _ hx166_0)).trans hx166_0
      replace p166 := eq_true p166
      replace q166 := eq_true q166
      go_wp2_with (first | ((with_reducible refine gate_builtin (b := .append) (xs := #[.tmp 28, .tmp 30]) rfl ?_); (try (refine gate_guard (by rfl) ?_; dsimp only)); at_builtin; refine Kd.R_append (Kd.int .i64) (w0 := w) w.heap.size rfl (.tmp 28) (.tmp 30) 22 3 (.int .i64 0) 8 rfl Try.underlying22 info3 rfl (by decide) (by omega) u5 x5_1 (rd l0 x10_1) [.int .i64 (rd l0 x10_1)] (fun _ => True) (fun _ => False) rfl rfl ?aP (fun _ hk => hk.elim) ?aF ?aO ?aB ?aS ?aL ?_; (case aP => exact rfl); (case aB => exact (by repeat (first | (with_reducible first | exact HB.out | apply below_alloc | apply pw_below_drewN | apply below_drew1) | exact HB.out))); (case aF => exact (fun _ _ => trivial)); (case aO => exact (by (with_reducible repeat (first | apply Kd.R_alloc | apply Kd.R_drewN | apply Kd.R_drew)); exact HO_5.out)); (case aS => exact (below_size (by repeat (first | (with_reducible first | exact HB.out | apply below_alloc | apply pw_below_drewN | apply below_drew1) | exact HB.out)))); (case aL => have := LMc11.out; omega); intro v168 w12 ho hb hg hat; rw [← Ny167.out] at ho; have n0_ := Aside0.mk (hb); have n1_ := Aside0.mk (ho); clear HB; clear HO_5; have HB := n0_; have HO169 := n1_; clear n0_ n1_; clear ho hb hg hat))
      go_roundg k1
      case measure => have := HK1.out; omega
      case rel => exact ⟨(y167), (wrap64 (x10_1 + 1)), (by first | rfl | (simp; done) | (simp [*]; done)), H', ⟨by have := HK1.out; omega⟩, ⟨by (with_reducible repeat (first | apply Kd.R_alloc | apply Kd.R_drewN | apply Kd.R_drew)); exact HO169.out⟩, ⟨by repeat (first | (with_reducible first | exact HB.out | apply below_alloc | apply pw_below_drewN | apply below_drew1) | exact HB.out)⟩⟩

end Go.Proofs.Ytcmcajjdcbkfkaa.P
