/- Printed by a program of this claim's own over the translation: Lean functions of the Go functions, each with its proof; no condition beyond those written. -/
import Derived.Test.YtdidobaojpdmdaaPx0
import Derived.Test.YtdidobaojpdmdaaPx2
import Derived.Test.YtdidobaojpdmdaaPx3
namespace Go.Proofs.Ytdidobaojpdmdaa.P
open Go.RowKit Go.Proofs.YtdidobaojpdmdaaW.PrintWords Go.Proofs.YtdidobaojpdmdaaW.PrintLast Go.Proofs.YtdidobaojpdmdaaW.PrintMore
attribute [local go_sem] max2_int min2_int max_two min_two max_three min_three max_four min_four   -- for this text's walks alone
set_option linter.unusedVariables false
set_option linter.unusedSimpArgs false

/-! ### ductuslaw07_StripRanks: function 5 -/
def ductuslaw07_StripRanks.f (k : Nat) (l0 : List Int) (a1 : Int) : Option (Bool) := (ductuslaw07_alive.f k).bind fun t315 => (if t315 = true then (if (l0.length : Int) > 1000 then (some true) else (if (wrap64 ((l0.length : Int) + 1)) = 0 then (none) else ((strip_Rank.f k l0 (Int.tmod (wrap64 (a1)) (wrap64 ((l0.length : Int) + 1)))).bind fun t316 => ((strip_Rank.f k l0 (wrap64 ((Int.tmod (wrap64 (a1)) (wrap64 ((l0.length : Int) + 1))) + 1))).bind fun t317 => (if 0 ≤ (Int.tmod (wrap64 (a1)) (wrap64 ((l0.length : Int) + 1))) then (if (Int.tmod (wrap64 (a1)) (wrap64 ((l0.length : Int) + 1))) ≤ (l0.length : Int) then ((strip_Chars.f k (l0.take ((Int.tmod (wrap64 (a1)) (wrap64 ((l0.length : Int) + 1))) : Int).toNat)).bind fun t319 => (if t316 = (t319.length : Int) then (if t317 ≥ t316 then (if t317 ≤ (wrap64 (t316 + 1)) then ((strip_Rank.f k l0 (l0.length : Int)).bind fun t322 => ((strip_Kept.f k l0).bind fun t323 => (if t322 = (t323.length : Int) then ((strip_Rank.f k l0 (-1)).bind fun t326 => (some (t326 == 0))) else (none)))) else (none)) else (none)) else (none))) else (none)) else (none)))))) else (none))
theorem ductuslaw07_StripRanks.mono : ∀ a0 a1 k, LeO (ductuslaw07_StripRanks.f k a0 a1) (ductuslaw07_StripRanks.f (k + 1) a0 a1) := by
  intro a0 a1 k
  unfold ductuslaw07_StripRanks.f
  repeat' first
      | (with_reducible exact ductuslaw07_alive.mono _)
      | (with_reducible exact strip_Chars.mono _ _)
      | (with_reducible exact strip_Kept.mono _ _)
      | (with_reducible exact strip_Rank.mono _ _ _)
      | (with_reducible exact LeO.refl _)
      | (with_reducible exact LeO.none _)
      | (with_reducible refine LeO.ite ?_ ?_)
      | (with_reducible refine LeO.bind ?_ (fun _ => ?_))
      | exact ductuslaw07_alive.mono _
      | exact strip_Chars.mono _ _
      | exact strip_Kept.mono _ _
      | exact strip_Rank.mono _ _ _
      | exact LeO.none _
      | refine LeO.ite ?_ ?_
      | refine LeO.bind ?_ (fun _ => ?_)
set_option maxHeartbeats 8000000 in
set_option maxRecDepth 100000 in
theorem ductuslaw07_StripRanks.calls (k : Nat) (A0 : Option Addr) (c0 : Nat) (l0 : List Int) (a1 : Int) (r : Bool) (w : World) (hr0 : Kd.C (Kd.int .i64) w A0 l0.length l0) (hc0 : l0.length ≤ c0) (h : ductuslaw07_StripRanks.f k l0 a1 = some r) :
    Calls Try.prog 5 #[.slice A0 l0.length c0, .int .u16 a1] w fun e w' => e = .returned (.bool r) ∧ Below w.heap.size w w' := by
  have HR0 := Aside0.mk hr0
  have HC0 := Aside0.mk hc0
  clear hr0 hc0
  have HB := Aside0.mk (Below.refl w.heap.size w)
  have H : ((ductuslaw07_alive.f k).bind fun t315 => (if t315 = true then (if (l0.length : Int) > 1000 then (some true) else (if (wrap64 ((l0.length : Int) + 1)) = 0 then (none) else ((strip_Rank.f k l0 (Int.tmod (wrap64 (a1)) (wrap64 ((l0.length : Int) + 1)))).bind fun t316 => ((strip_Rank.f k l0 (wrap64 ((Int.tmod (wrap64 (a1)) (wrap64 ((l0.length : Int) + 1))) + 1))).bind fun t317 => (if 0 ≤ (Int.tmod (wrap64 (a1)) (wrap64 ((l0.length : Int) + 1))) then (if (Int.tmod (wrap64 (a1)) (wrap64 ((l0.length : Int) + 1))) ≤ (l0.length : Int) then ((strip_Chars.f k (l0.take ((Int.tmod (wrap64 (a1)) (wrap64 ((l0.length : Int) + 1))) : Int).toNat)).bind fun t319 => (if t316 = (t319.length : Int) then (if t317 ≥ t316 then (if t317 ≤ (wrap64 (t316 + 1)) then ((strip_Rank.f k l0 (l0.length : Int)).bind fun t322 => ((strip_Kept.f k l0).bind fun t323 => (if t322 = (t323.length : Int) then ((strip_Rank.f k l0 (-1)).bind fun t326 => (some (t326 == 0))) else (none)))) else (none)) else (none)) else (none))) else (none)) else (none)))))) else (none))) = some r := h
  clear h
  replace H := Option.bind_eq_some_iff.mp H
  obtain ⟨t315, A30, H⟩ := H
  replace H : (if t315 = true then (if (l0.length : Int) > 1000 then (some true) else (if (wrap64 ((l0.length : Int) + 1)) = 0 then (none) else ((strip_Rank.f k l0 (Int.tmod (wrap64 (a1)) (wrap64 ((l0.length : Int) + 1)))).bind fun t316 => ((strip_Rank.f k l0 (wrap64 ((Int.tmod (wrap64 (a1)) (wrap64 ((l0.length : Int) + 1))) + 1))).bind fun t317 => (if 0 ≤ (Int.tmod (wrap64 (a1)) (wrap64 ((l0.length : Int) + 1))) then (if (Int.tmod (wrap64 (a1)) (wrap64 ((l0.length : Int) + 1))) ≤ (l0.length : Int) then ((strip_Chars.f k (l0.take ((Int.tmod (wrap64 (a1)) (wrap64 ((l0.length : Int) + 1))) : Int).toNat)).bind fun t319 => (if t316 = (t319.length : Int) then (if t317 ≥ t316 then (if t317 ≤ (wrap64 (t316 + 1)) then ((strip_Rank.f k l0 (l0.length : Int)).bind fun t322 => ((strip_Kept.f k l0).bind fun t323 => (if t322 = (t323.length : Int) then ((strip_Rank.f k l0 (-1)).bind fun t326 => (some (t326 == 0))) else (none)))) else (none)) else (none)) else (none))) else (none)) else (none)))))) else (none)) = some r := H
  have A3 := Aside0.mk A30
  clear A30
  by_cases c4 : t315 = true
  · subst c4
    have H1 : (if (l0.length : Int) > 1000 then (some true) else (if (wrap64 ((l0.length : Int) + 1)) = 0 then (none) else ((strip_Rank.f k l0 (Int.tmod (wrap64 (a1)) (wrap64 ((l0.length : Int) + 1)))).bind fun t316 => ((strip_Rank.f k l0 (wrap64 ((Int.tmod (wrap64 (a1)) (wrap64 ((l0.length : Int) + 1))) + 1))).bind fun t317 => (if 0 ≤ (Int.tmod (wrap64 (a1)) (wrap64 ((l0.length : Int) + 1))) then (if (Int.tmod (wrap64 (a1)) (wrap64 ((l0.length : Int) + 1))) ≤ (l0.length : Int) then ((strip_Chars.f k (l0.take ((Int.tmod (wrap64 (a1)) (wrap64 ((l0.length : Int) + 1))) : Int).toNat)).bind fun t319 => (if t316 = (t319.length : Int) then (if t317 ≥ t316 then (if t317 ≤ (wrap64 (t316 + 1)) then ((strip_Rank.f k l0 (l0.length : Int)).bind fun t322 => ((strip_Kept.f k l0).bind fun t323 => (if t322 = (t323.length : Int) then ((strip_Rank.f k l0 (-1)).bind fun t326 => (some (t326 == 0))) else (none)))) else (none)) else (none)) else (none))) else (none)) else (none)))))) = some r := by rw [if_pos rfl] at H; exact H
    clear H
    have H := H1
    clear H1
    by_cases c5 : (l0.length : Int) > 1000
    · rw [if_pos c5] at H
      have c5b0 : decide (1000 < (l0.length : Int)) = true := decide_eq_true c5
      have c5b1 : decide (1000 < l0.length) = true := decide_eq_true (by omega)
      clear c5
      obtain rfl := Option.some.inj H
      go_enter Try.func5, Try.ntmps5
      go_wp2_with (first | ((with_reducible refine gate_callee (f := 6) rfl ?_); refine goesL_ (some 8) rfl rfl Try.func6 (by kernel_rfl) rfl #[] rfl (by (try simp only [List.map_toArray, List.map_cons, List.map_nil]); first | done | rfl | (simp only [List.length_drop, List.length_take]; rfl)) ?_; (with_reducible refine (ductuslaw07_alive.calls k  true _ A3.out).mono ?_); rintro e w6 ⟨rfl, hb⟩; refine ⟨_, rfl, ?_⟩; have n0_ := Aside0.mk (below_step (by repeat (first | (with_reducible first | exact HB.out | apply below_alloc | apply pw_below_drewN | apply below_drew1) | exact HB.out)) hb); clear HB; have HB := n0_; clear n0_; (try clear hb); (try clear hb2); (try clear hk); (try clear hi)))
      go_ret
      exact ⟨by first | rfl | (simp [errW_none, errW_some] <;> rfl) | (simp [*, errW_none, errW_some] <;> rfl), by repeat (first | (with_reducible first | exact HB.out | apply below_alloc | apply pw_below_drewN | apply below_drew1) | exact HB.out)⟩
    · rw [if_neg c5] at H
      have c5b0 : decide (1000 < (l0.length : Int)) = false := decide_eq_false c5
      have c5b1 : decide (1000 < l0.length) = false := decide_eq_false (by omega)
      clear c5
      by_cases c7 : (wrap64 ((l0.length : Int) + 1)) = 0
      · rw [if_pos c7] at H
        exact absurd H (by simp)
      · rw [if_neg c7] at H
        have c7b0 : ((wrap64 ((l0.length : Int) + 1)) == 0) = false := beq_eq_false_iff_ne.mpr c7
        have c7b1 : ((wrap64 ((l0.length : Int) + 1)) != 0) = true := bne_iff_ne.mpr c7
        replace H := Option.bind_eq_some_iff.mp H
        obtain ⟨t316, A80, H⟩ := H
        replace H : ((strip_Rank.f k l0 (wrap64 ((Int.tmod (wrap64 (a1)) (wrap64 ((l0.length : Int) + 1))) + 1))).bind fun t317 => (if 0 ≤ (Int.tmod (wrap64 (a1)) (wrap64 ((l0.length : Int) + 1))) then (if (Int.tmod (wrap64 (a1)) (wrap64 ((l0.length : Int) + 1))) ≤ (l0.length : Int) then ((strip_Chars.f k (l0.take ((Int.tmod (wrap64 (a1)) (wrap64 ((l0.length : Int) + 1))) : Int).toNat)).bind fun t319 => (if t316 = (t319.length : Int) then (if t317 ≥ t316 then (if t317 ≤ (wrap64 (t316 + 1)) then ((strip_Rank.f k l0 (l0.length : Int)).bind fun t322 => ((strip_Kept.f k l0).bind fun t323 => (if t322 = (t323.length : Int) then ((strip_Rank.f k l0 (-1)).bind fun t326 => (some (t326 == 0))) else (none)))) else (none)) else (none)) else (none))) else (none)) else (none))) = some r := H
        have A8 := Aside0.mk A80
        clear A80
        replace H := Option.bind_eq_some_iff.mp H
        obtain ⟨t317, A90, H⟩ := H
        replace H : (if 0 ≤ (Int.tmod (wrap64 (a1)) (wrap64 ((l0.length : Int) + 1))) then (if (Int.tmod (wrap64 (a1)) (wrap64 ((l0.length : Int) + 1))) ≤ (l0.length : Int) then ((strip_Chars.f k (l0.take ((Int.tmod (wrap64 (a1)) (wrap64 ((l0.length : Int) + 1))) : Int).toNat)).bind fun t319 => (if t316 = (t319.length : Int) then (if t317 ≥ t316 then (if t317 ≤ (wrap64 (t316 + 1)) then ((strip_Rank.f k l0 (l0.length : Int)).bind fun t322 => ((strip_Kept.f k l0).bind fun t323 => (if t322 = (t323.length : Int) then ((strip_Rank.f k l0 (-1)).bind fun t326 => (some (t326 == 0))) else (none)))) else (none)) else (none)) else (none))) else (none)) else (none)) = some r := H
        have A9 := Aside0.mk A90
        clear A90
        obtain ⟨ji10, hji10⟩ : ∃ j_ : Int, (Int.tmod (wrap64 (a1)) (wrap64 ((l0.length : Int) + 1))) = j_ := ⟨_, rfl⟩
        replace H : (if 0 ≤ (ji10) then (if (ji10) ≤ (l0.length : Int) then ((strip_Chars.f k (l0.take ((ji10) : Int).toNat)).bind fun t319 => (if t316 = (t319.length : Int) then (if t317 ≥ t316 then (if t317 ≤ (wrap64 (t316 + 1)) then ((strip_Rank.f k l0 (l0.length : Int)).bind fun t322 => ((strip_Kept.f k l0).bind fun t323 => (if t322 = (t323.length : Int) then ((strip_Rank.f k l0 (-1)).bind fun t326 => (some (t326 == 0))) else (none)))) else (none)) else (none)) else (none))) else (none)) else (none)) = some r := by first | (rw [hji10] at H; exact H) | (simp only [hji10] at H ⊢; exact H)
        (try rw [hji10] at A3)
        (try rw [hji10] at A8)
        (try rw [hji10] at A9)
        by_cases c11 : 0 ≤ (ji10)
        · rw [if_pos c11] at H
          have c11b0 := eq_true c11
          have c11b1 : decide (0 ≤ (ji10)) = true := decide_eq_true c11
          clear c11
          by_cases c12 : (ji10) ≤ (l0.length : Int)
          · rw [if_pos c12] at H
            have c12b0 := eq_true c12
            have c12b1 : decide ((ji10) ≤ (l0.length : Int)) = true := decide_eq_true c12
            clear c12
            replace H := Option.bind_eq_some_iff.mp H
            obtain ⟨t319, A130, H⟩ := H
            replace H : (if t316 = (t319.length : Int) then (if t317 ≥ t316 then (if t317 ≤ (wrap64 (t316 + 1)) then ((strip_Rank.f k l0 (l0.length : Int)).bind fun t322 => ((strip_Kept.f k l0).bind fun t323 => (if t322 = (t323.length : Int) then ((strip_Rank.f k l0 (-1)).bind fun t326 => (some (t326 == 0))) else (none)))) else (none)) else (none)) else (none)) = some r := H
            have A13 := Aside0.mk A130
            clear A130
            by_cases c14 : t316 = (t319.length : Int)
            · rw [if_pos c14] at H
              have c14b0 : (t316 == (t319.length : Int)) = true := beq_iff_eq.mpr c14
              have c14b1 : (t316 != (t319.length : Int)) = false := bne_eq_false_iff_eq.mpr c14
              clear c14
              by_cases c15 : t317 ≥ t316
              · rw [if_pos c15] at H
                have c15b0 : decide (t316 ≤ t317) = true := decide_eq_true c15
                clear c15
                by_cases c16 : t317 ≤ (wrap64 (t316 + 1))
                · rw [if_pos c16] at H
                  have c16b0 : decide (t317 ≤ (wrap64 (t316 + 1))) = true := decide_eq_true c16
                  clear c16
                  replace H := Option.bind_eq_some_iff.mp H
                  obtain ⟨t322, A170, H⟩ := H
                  replace H : ((strip_Kept.f k l0).bind fun t323 => (if t322 = (t323.length : Int) then ((strip_Rank.f k l0 (-1)).bind fun t326 => (some (t326 == 0))) else (none))) = some r := H
                  have A17 := Aside0.mk A170
                  clear A170
                  replace H := Option.bind_eq_some_iff.mp H
                  obtain ⟨t323, A180, H⟩ := H
                  replace H : (if t322 = (t323.length : Int) then ((strip_Rank.f k l0 (-1)).bind fun t326 => (some (t326 == 0))) else (none)) = some r := H
                  have A18 := Aside0.mk A180
                  clear A180
                  by_cases c19 : t322 = (t323.length : Int)
                  · rw [if_pos c19] at H
                    have c19b0 : (t322 == (t323.length : Int)) = true := beq_iff_eq.mpr c19
                    have c19b1 : (t322 != (t323.length : Int)) = false := bne_eq_false_iff_eq.mpr c19
                    clear c19
                    replace H := Option.bind_eq_some_iff.mp H
                    obtain ⟨t326, A200, H⟩ := H
                    replace H : (some (t326 == 0)) = some r := H
                    have A20 := Aside0.mk A200
                    clear A200
                    obtain rfl := Option.some.inj H
                    go_enter Try.func5, Try.ntmps5
                    go_wp2_with (first | ((with_reducible refine gate_callee (f := 6) rfl ?_); refine goesL_ (some 8) rfl rfl Try.func6 (by kernel_rfl) rfl #[] rfl (by (try simp only [List.map_toArray, List.map_cons, List.map_nil]); first | done | rfl | (simp only [List.length_drop, List.length_take]; rfl)) ?_; (with_reducible refine (ductuslaw07_alive.calls k  true _ A3.out).mono ?_); rintro e w21 ⟨rfl, hb⟩; refine ⟨_, rfl, ?_⟩; have n0_ := Aside0.mk (below_step (by repeat (first | (with_reducible first | exact HB.out | apply below_alloc | apply pw_below_drewN | apply below_drew1) | exact HB.out)) hb); clear HB; have HB := n0_; clear n0_; (try clear hb); (try clear hb2); (try clear hk); (try clear hi)) | ((with_reducible refine gate_callee (f := 14) rfl ?_); refine goesL_ (some 21) rfl rfl Try.func14 (by kernel_rfl) rfl #[.slice A0 l0.length c0, .int .i64 ji10] rfl (by (try simp only [List.map_toArray, List.map_cons, List.map_nil]); first | done | (simp only [hji10]; rfl) | rfl | (simp only [List.length_drop, List.length_take]; rfl)) ?_; (with_reducible refine (strip_Rank.calls k _ _ l0 ji10 t316 _ ?side1 ?side2 A8.out).mono ?_); (case side1 => repeat (first | exact (Kd.C_below HR0.out HB.out) | (with_reducible refine Kd.C_alloc ?_ _) | (with_reducible refine Kd.C_drewN ?_ _) | (with_reducible refine Kd.C_drew ?_))); (case side2 => exact HC0.out); rintro e w22 ⟨rfl, hb⟩; refine ⟨_, rfl, ?_⟩; have n0_ := Aside0.mk (below_step (by repeat (first | (with_reducible first | exact HB.out | apply below_alloc | apply pw_below_drewN | apply below_drew1) | exact HB.out)) hb); clear HB; have HB := n0_; clear n0_; (try clear hb); (try clear hb2); (try clear hk); (try clear hi)) | ((with_reducible refine gate_callee (f := 14) rfl ?_); refine goesL_ (some 25) rfl rfl Try.func14 (by kernel_rfl) rfl #[.slice A0 l0.length c0, .int .i64 (wrap64 ((ji10) + 1))] rfl (by (try simp only [List.map_toArray, List.map_cons, List.map_nil]); first | done | (simp only [hji10]; rfl) | rfl | (simp only [List.length_drop, List.length_take]; rfl)) ?_; (with_reducible refine (strip_Rank.calls k _ _ l0 (wrap64 ((ji10) + 1)) t317 _ ?side1 ?side2 A9.out).mono ?_); (case side1 => repeat (first | exact (Kd.C_below HR0.out HB.out) | (with_reducible refine Kd.C_alloc ?_ _) | (with_reducible refine Kd.C_drewN ?_ _) | (with_reducible refine Kd.C_drew ?_))); (case side2 => exact HC0.out); rintro e w23 ⟨rfl, hb⟩; refine ⟨_, rfl, ?_⟩; have n0_ := Aside0.mk (below_step (by repeat (first | (with_reducible first | exact HB.out | apply below_alloc | apply pw_below_drewN | apply below_drew1) | exact HB.out)) hb); clear HB; have HB := n0_; clear n0_; (try clear hb); (try clear hb2); (try clear hk); (try clear hi); obtain ⟨i024, hi024, _, hsz24, _⟩ := info_parts info3; obtain ⟨hcut24, hA24, hC24⟩ := print_take_of (P := Try.prog) (Value.int .i64) 0 22 3 .i64 Try.underlying22 hi024 hsz24 A0 c0 l0 (ji10) (of_decide_eq_true (by first | (with_reducible assumption) | assumption)) (of_decide_eq_true (by first | (with_reducible assumption) | assumption)) HC0.out; have HR318 := Aside0.mk (Kd.C_of_reads (h1 := fun _ => rfl) (hA24 _ (Kd.reads_of_C HR0.out))); have HC318 := Aside0.mk hC24; clear hA24 hC24 hi024 hsz24) | ((with_reducible refine gate_callee (f := 10) rfl ?_); refine goesL_ (some 30) rfl rfl Try.func10 (by kernel_rfl) rfl #[.slice A0 (l0.take ((ji10) : Int).toNat).length c0] rfl (by (try simp only [List.map_toArray, List.map_cons, List.map_nil]); first | done | (rw [show (l0.take ((ji10) : Int).toNat).length = (ji10).toNat from (by rw [List.length_take]; have h_ : ((ji10) : Int) ≤ (l0.length : Int) := of_decide_eq_true (by first | (with_reducible assumption) | assumption); omega)] <;> rfl) | (simp only [hji10]; rfl) | rfl | (simp only [List.length_drop, List.length_take]; rfl)) ?_; (with_reducible refine (strip_Chars.calls k _ _ (l0.take ((ji10) : Int).toNat) t319 _ ?side1 ?side2 A13.out).mono ?_); (case side1 => repeat (first | exact (Kd.C_below HR318.out HB.out) | (with_reducible refine Kd.C_alloc ?_ _) | (with_reducible refine Kd.C_drewN ?_ _) | (with_reducible refine Kd.C_drew ?_))); (case side2 => exact HC318.out); rintro e w25 ⟨v320, rfl, ho0, hb⟩; refine ⟨_, rfl, ?_⟩; have n0_ := Aside0.mk (Kd.R_lower ho0 (below_size (by repeat (first | (with_reducible first | exact HB.out | apply below_alloc | apply pw_below_drewN | apply below_drew1) | exact HB.out)))); have n1_ := Aside0.mk (below_step (by repeat (first | (with_reducible first | exact HB.out | apply below_alloc | apply pw_below_drewN | apply below_drew1) | exact HB.out)) hb); clear HB; have HO321 := n0_; have HB := n1_; clear n0_ n1_; (try clear hb); (try clear hb2); (try clear hk); (try clear hi); (try clear ho0); obtain ⟨Ao26, co26, eo26⟩ := Kd.R_slice HO321.out; subst eo26) | (go_at_call 14; (with_reducible refine (strip_Rank.calls k _ _ l0 (l0.length : Int) t322 _ ?side1 ?side2 A17.out).mono ?_); (case side1 => repeat (first | exact (Kd.C_below HR0.out HB.out) | (with_reducible refine Kd.C_alloc ?_ _) | (with_reducible refine Kd.C_drewN ?_ _) | (with_reducible refine Kd.C_drew ?_))); (case side2 => exact HC0.out); rintro e w27 ⟨rfl, hb⟩; have n0_ := Aside0.mk (Kd.R_below (by (with_reducible repeat (first | apply Kd.R_alloc | apply Kd.R_drewN | apply Kd.R_drew)); exact HO321.out) hb); have n1_ := Aside0.mk (below_step (by repeat (first | (with_reducible first | exact HB.out | apply below_alloc | apply pw_below_drewN | apply below_drew1) | exact HB.out)) hb); clear HO321; clear HB; have HO321 := n0_; have HB := n1_; clear n0_ n1_; (try clear hb); (try clear hb2); (try clear hk); (try clear hi)) | (go_at_call 8; (with_reducible refine (strip_Kept.calls k _ _ l0 t323 _ ?side1 ?side2 A18.out).mono ?_); (case side1 => repeat (first | exact (Kd.C_below HR0.out HB.out) | (with_reducible refine Kd.C_alloc ?_ _) | (with_reducible refine Kd.C_drewN ?_ _) | (with_reducible refine Kd.C_drew ?_))); (case side2 => exact HC0.out); rintro e w28 ⟨v324, rfl, ho0, hb⟩; have n0_ := Aside0.mk (Kd.R_elder' (by (with_reducible repeat (first | apply Kd.R_alloc | apply Kd.R_drewN | apply Kd.R_drew)); exact HO321.out) (Kd.R_base ho0) hb); have n1_ := Aside0.mk (Kd.R_lower (Kd.R_new' ho0 (Kd.R_lt (by (with_reducible repeat (first | apply Kd.R_alloc | apply Kd.R_drewN | apply Kd.R_drew)); exact HO321.out))) (below_size (by repeat (first | (with_reducible first | exact HB.out | apply below_alloc | apply pw_below_drewN | apply below_drew1) | exact HB.out)))); have n2_ := Aside0.mk (below_step (by repeat (first | (with_reducible first | exact HB.out | apply below_alloc | apply pw_below_drewN | apply below_drew1) | exact HB.out)) hb); clear HO321; clear HB; have HO321 := n0_; have HO325 := n1_; have HB := n2_; clear n0_ n1_ n2_; (try clear hb); (try clear hb2); (try clear hk); (try clear hi); (try clear ho0); obtain ⟨Ao29, co29, eo29⟩ := Kd.R_slice HO325.out; subst eo29) | (go_at_call 14; (with_reducible refine (strip_Rank.calls k _ _ l0 (-1) t326 _ ?side1 ?side2 A20.out).mono ?_); (case side1 => repeat (first | exact (Kd.C_below HR0.out HB.out) | (with_reducible refine Kd.C_alloc ?_ _) | (with_reducible refine Kd.C_drewN ?_ _) | (with_reducible refine Kd.C_drew ?_))); (case side2 => exact HC0.out); rintro e w30 ⟨rfl, hb⟩; have n0_ := Aside0.mk (Kd.R_below (by (with_reducible repeat (first | apply Kd.R_alloc | apply Kd.R_drewN | apply Kd.R_drew)); exact HO321.out) hb); have n1_ := Aside0.mk (Kd.R_below (by (with_reducible repeat (first | apply Kd.R_alloc | apply Kd.R_drewN | apply Kd.R_drew)); exact HO325.out) hb); have n2_ := Aside0.mk (below_step (by repeat (first | (with_reducible first | exact HB.out | apply below_alloc | apply pw_below_drewN | apply below_drew1) | exact HB.out)) hb); clear HO321; clear HO325; clear HB; have HO321 := n0_; have HO325 := n1_; have HB := n2_; clear n0_ n1_ n2_; (try clear hb); (try clear hb2); (try clear hk); (try clear hi)))
                    go_ret
                    exact ⟨by first | rfl | (simp [errW_none, errW_some] <;> rfl) | (simp only [← hji10]; first | rfl | (simp [errW_none, errW_some] <;> rfl)) | (simp [*, errW_none, errW_some] <;> rfl), by repeat (first | (with_reducible first | exact HB.out | apply below_alloc | apply pw_below_drewN | apply below_drew1) | exact HB.out)⟩
                  · rw [if_neg c19] at H
                    exact absurd H (by simp)
                · rw [if_neg c16] at H
                  exact absurd H (by simp)
              · rw [if_neg c15] at H
                exact absurd H (by simp)
            · rw [if_neg c14] at H
              exact absurd H (by simp)
          · rw [if_neg c12] at H
            exact absurd H (by simp)
        · rw [if_neg c11] at H
          exact absurd H (by simp)
  · replace c4 := Bool.eq_false_iff.mpr c4
    subst c4
    have H1 : (none) = some r := by rw [if_neg (show ¬ (false = true) by decide)] at H; exact H
    clear H
    have H := H1
    clear H1
    exact absurd H (by simp)

/-- THE ONE PURE STATEMENT of ductuslaw07_StripRanks: yours. -/
def ductuslaw07_StripRanks.Pure : Prop := ∀ (l0 : List Int) (a1 : Int), l0.length ≤ maxLen → l0.length * 8 ≤ 140737488351232 → (∀ x ∈ l0, (Lit.int .i64 x).wf = true) → (Lit.int .u16 a1).wf = true → ∃ k, ductuslaw07_StripRanks.f k l0 a1 = some true
theorem ductuslaw07_StripRanks.walk (P : ductuslaw07_StripRanks.Pure) (a0 : Option Addr) (len0 cap0 : Nat) (z0 : List Int) (a1 : Int) (w : World) (w0 : (a0 = none ∧ len0 = 0 ∧ cap0 = 0 ∧ z0 = []) ∨ ∃ x, a0 = some x ∧ len0 ≤ cap0 ∧ cap0 ≤ maxLen ∧ z0.length = cap0 ∧ (∀ i, i < z0.length → w.cell? (x.add i) = some (.int .i64 (z0.getD i 0))) ∧ ∀ n ∈ z0, (Lit.int .i64 n).wf = true) (y0 : len0 * 8 ≤ 140737488351232) (w1 : (Lit.int .u16 a1).wf = true) :
    Calls Try.prog 5 #[.slice a0 len0 cap0, .int .u16 a1] w fun e w' => e = .returned (.bool true) ∧ Below w.heap.size w w' := by
  obtain ⟨l0, rfl, hr0, hm0, hw0, hc0⟩ := ReadsInt.ofRowC w0
  obtain ⟨k, h⟩ := P l0 a1 hm0 y0 hw0 w1
  refine (ductuslaw07_StripRanks.calls k _ _ l0 a1 true w (Kd.C_of_reads (d := (0 : Int)) (h1 := fun _ => rfl) hr0) hc0 h).mono ?_
  rintro e w' ⟨rfl, hd⟩
  exact ⟨rfl, hd⟩

end Go.Proofs.Ytdidobaojpdmdaa.P
