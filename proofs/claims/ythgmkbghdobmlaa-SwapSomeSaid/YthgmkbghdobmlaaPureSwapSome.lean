/- Proved: the pure statement of the law SwapSome, that the Lean functions printed for it answer true for every input; no condition beyond the statement's own. -/
import Derived.Test.YthgmkbghdobmlaaN10
import Derived.Test.YthgmkbghdobmlaaN15
namespace Go.Proofs.Ythgmkbghdobmlaa.Pure
open Go.RowKit Go.Proofs.Ythgmkbghdobmlaa.P Go.Proofs.YthgmkbghdobmlaaW.PrintWords Go.Proofs.YthgmkbghdobmlaaW.PrintLast Go.Proofs.YthgmkbghdobmlaaW.PrintMore
set_option linter.unusedVariables false
set_option linter.unusedSimpArgs false

/-- The numbers 0, 1, .. -/
def upto (n : Nat) : List Int := (List.range n).map fun (i : Nat) => (i : Int)
theorem upto_len (n : Nat) : (upto n).length = n := by simp [upto]
theorem upto_succ (n : Nat) : upto (n + 1) = upto n ++ [(n : Int)] := by simp [upto, List.range_succ]
theorem upto_rd (n i : Nat) (h : i < n) : rd (upto n) (i : Int) = (i : Int) := by
  rw [rd_get _ i (by rw [upto_len]; exact h)]
  simp [upto]
theorem ch_all (sp : List S39) (d : Nat) : ∀ i : Nat, i + d = sp.length → chM sp (upto sp.length) d i ((i : Int) - 1) (sp.take i) = some sp := by
  induction d with
  | zero =>
    intro i hi
    simp only [chM]
    rw [List.take_of_length_le (by omega)]
  | succ d ih =>
    intro i hi
    simp only [chM]
    rw [upto_rd _ i (by omega), if_neg (by omega)]
    have h := ih (i + 1) (by omega)
    rw [List.take_succ_eq_append_getElem (by omega), ← getS sp i (by omega), show (((i + 1 : Nat) : Int) - 1) = (i : Int) by omega] at h
    exact h
theorem some_all (l w : List Int) (sp : List S39) : someM l sp (upto sp.length) w = allM l sp w := by
  unfold someM allM
  by_cases h : okM l w sp = true
  · rw [if_pos h, if_pos h, upto_len]
    have := ch_all sp sp.length 0 (by omega)
    rw [show chM sp (upto sp.length) sp.length 0 (-1) [] = some sp from this]
    rfl
  · rw [if_neg h, if_neg h]
theorem all_err (l w : List Int) (sp : List S39) (h : (allM l sp w).2 ≠ 1) : okM l w sp = true := by
  unfold allM at h
  by_cases c : okM l w sp = true
  · exact c
  · rw [if_neg c] at h
    exact (h rfl).elim
theorem right_one (s : S39) (n : Int) (h0 : 0 ≤ s.f0) (h1 : s.f0 ≤ s.f1) (h2 : s.f1 ≤ n) : rightM [s] n = true := by
  unfold rightM
  simp only [List.length_singleton, rightL]
  have e0 : rd_T39 [s] ((0 : Nat) : Int) = s := rfl
  rw [if_neg, if_neg]
  · unfold badP
    omega
  · unfold badS F0 F1
    rw [e0]
    omega
/-- One span, exchanged for what stands in it. -/
theorem one_same (l : List Int) (hl : l.length ≤ 500) (hr : allR l) (s : S39) (h0 : 0 ≤ s.f0) (h1 : s.f0 ≤ s.f1) (h2 : s.f1 ≤ cntM l) :
    ∃ o : List Int, allM l [s] (((l.filter nctl).take s.f1.toNat).drop s.f0.toNat) = (o, 0) ∧ o.filter nctl = l.filter nctl ∧ o.length ≤ 8000 := by
  obtain ⟨w, hw⟩ : ∃ w, ((l.filter nctl).take s.f1.toNat).drop s.f0.toNat = w := ⟨_, rfl⟩
  have hin : ∀ c ∈ w, c ∈ l.filter nctl := by
    rw [← hw]
    intro c hc
    exact List.mem_of_mem_take (List.mem_of_mem_drop hc)
  have hww : w.filter nctl = w := List.filter_eq_self.2 fun c hc => (List.mem_filter.1 (hin c hc)).2
  have hwr : allR w := fun c hc => hr c (List.mem_filter.1 (hin c hc)).1
  have hcn : cntM l = ((l.filter nctl).length : Int) := rfl
  have hfl := List.length_filter_le nctl l
  have hwl : w.length ≤ 500 := by
    rw [← hw, List.length_drop, List.length_take]
    omega
  have hrt := right_one s (cntM l) h0 h1 h2
  have hok : okM l w [s] = true := by
    unfold okM
    rw [decide_eq_true hr, decide_eq_true hwr, hrt]
    rfl
  have hg := right_good hrt
  have hlen : ∀ x, exM l (plcs l) (w.filter nctl) [s] [] 0 ≠ x → x = ([], 2) → exM l (plcs l) (w.filter nctl) [s] [] 0 ≠ ([], 2) := fun x h e => e ▸ h
  have hno : exM l (plcs l) (w.filter nctl) [s] [] 0 ≠ ([], 2) := by
    simp only [exM]
    have m1 := mid_len l (0 : Int).toNat (backOf (plcs l) s.f0 s.f1).1.toNat
    have m2 := mid_len l (backOf (plcs l) s.f0 s.f1).1.toNat (backOf (plcs l) s.f0 s.f1).2.1.toNat
    have m3 := List.length_filter_le opc ((l.take (backOf (plcs l) s.f0 s.f1).2.1.toNat).drop (backOf (plcs l) s.f0 s.f1).1.toNat)
    have m4 : (l.drop (backOf (plcs l) s.f0 s.f1).2.1.toNat).length ≤ l.length := by rw [List.length_drop]; omega
    rw [hww]
    rw [if_neg (by simp only [List.length_append, List.length_nil]; omega), if_neg (by simp only [List.length_append, List.length_nil]; omega)]
    intro h
    exact absurd (congrArg Prod.snd h) (show ¬ (0 : Int) = 2 by decide)
  rcases ex_ends l (plcs l) (w.filter nctl) [s] [] 0 with h | ⟨o, h, ho⟩
  · exact (hno h).elim
  · refine ⟨o, by unfold allM; rw [hw, if_pos hok]; exact h, ?_, ho⟩
    have hp := ex_plain l w (by omega) [s] [] 0 0 o hg (by omega) (by omega) (fun t ht => (hg.1 t ht).1) (by omega) (by omega) (fun t ht => (plcs_rng l t.f0 (hg.1 t ht).1 (by have := hg.1 t ht; omega)).1) (by simp) h
    rw [hp, hww]
    simp only [wantM, List.filter_nil, List.nil_append, Int.toNat_zero, List.drop_zero]
    rw [← hw]
    have e1 : (l.filter nctl).take s.f1.toNat = (l.filter nctl).take s.f0.toNat ++ ((l.filter nctl).take s.f1.toNat).drop s.f0.toNat := by
      have := (List.take_append_drop s.f0.toNat ((l.filter nctl).take s.f1.toNat)).symm
      rwa [List.take_take, Nat.min_eq_left (by omega)] at this
    rw [← e1, List.take_append_drop]
theorem some_loop (l w : List Int) (sp : List S39) (a : Int) (hl : l.length ≤ 500) (hs : sp.length ≤ 500) (hw : w.length ≤ 500) (ha : fits .u8 a) (d : Nat) : ∀ i : Nat, i + d = sp.length → Ev (fun k => ductuslaw27_SwapSome.l0 k a (upto i) (i : Int) l sp w) true := by
  induction d with
  | zero =>
    intro i hi
    obtain rfl : i = sp.length := by omega
    have hA := all_ev l w sp hl hs hw
    have hS := some_ev l w sp (upto sp.length) hl hs hw (by rw [upto_len]; exact hs)
    rw [some_all] at hS
    obtain ⟨R, hR⟩ : ∃ R, allM l sp w = R := ⟨_, rfl⟩
    rw [hR] at hA hS
    have hRl : R.1.length ≤ 8000 := by
      rw [← hR]
      unfold allM
      split
      · rcases ex_ends l (plcs l) (w.filter nctl) sp [] 0 with h | ⟨o, h, ho⟩
        · rw [h]; simp
        · rw [h]; exact ho
      · simp
    have hJ : Ev (fun k => ductuslaw27_SwapSome.j1 k a R.2 (!true) l sp w) true := by
      by_cases h1 : R.2 = 1
      · have h2 : Ev (fun k => ductuslaw27_SwapSome.j2 k a true l sp w) true := ev_one fun k => by
          simp only [ductuslaw27_SwapSome.j2, if_true]
        refine ev_step h2 fun k hk => ?_
        simp only [ductuslaw27_SwapSome.j1, Bool.not_true, Bool.false_eq_true, if_false]
        rw [if_pos h1]
        exact hk
      · have hok := all_err l w sp (by rw [hR]; exact h1)
        have h2 : Ev (fun k => ductuslaw27_SwapSome.j2 k a ((sp.length : Int) == 0) l sp w) true := by
          by_cases hz : sp.length = 0
          · rw [hz]
            exact ev_one fun k => by
              simp only [ductuslaw27_SwapSome.j2]
              rfl
          · have hzb : ((sp.length : Int) == 0) = false := by
              rw [beq_eq_false_iff_ne]
              omega
            rw [hzb]
            have hab : 0 ≤ a ∧ a < 256 := by
              have h8 : IntKind.u8.min = 0 ∧ IntKind.u8.max = 255 := ⟨rfl, rfl⟩
              unfold fits Lit.wf at ha
              simp at ha
              omega
            have hwa : wrap64 a = a := wrap_id (by omega) (by omega)
            obtain ⟨j, hj⟩ : ∃ j : Nat, Int.tmod a (sp.length : Int) = (j : Int) ∧ j < sp.length := by
              refine ⟨(a % (sp.length : Int)).toNat, ?_, ?_⟩
              · rw [Int.tmod_eq_emod_of_nonneg hab.1]
                have := Int.emod_nonneg a (show (sp.length : Int) ≠ 0 by omega)
                omega
              · have h1 := Int.emod_nonneg a (show (sp.length : Int) ≠ 0 by omega)
                have h2 := Int.emod_lt_of_pos a (show (0 : Int) < (sp.length : Int) by omega)
                omega
            have hb := right_in (okM_right hok) j hj.2
            have hr : allR l := by
              unfold okM at hok
              simp only [Bool.and_eq_true, decide_eq_true_eq] at hok
              exact hok.1
            obtain ⟨o, ho, hop, hol⟩ := one_same l hl hr (rd_T39 sp (j : Int)) hb.1 hb.2.1 hb.2.2
            have hfl := List.length_filter_le nctl l
            have hcn : cntM l = ((l.filter nctl).length : Int) := rfl
            have hX := all_ev l (((l.filter nctl).take (F1 sp j).toNat).drop (F0 sp j).toNat) [rd_T39 sp (j : Int)] hl (by simp) (by rw [List.length_drop, List.length_take]; omega)
            rw [ho] at hX
            have hP := rplain_ev l (by omega)
            have hQ := rplain_ev o (by omega)
            rw [hop] at hQ
            refine ev_step2 (ev_and hP hX) (ev_and hQ (P.ints_ev (l.filter nctl) (by omega))) fun k hk hk2 => ?_
            obtain ⟨e1, e2⟩ := ev_fst hk
            obtain ⟨e3, e4⟩ := ev_fst hk2
            simp only [ductuslaw27_SwapSome.j2, Bool.false_eq_true, if_false]
            rw [if_neg (by omega), hwa, hj.1, if_pos (by omega), if_pos (by omega), e1, Option.bind_some, if_pos hb.1, if_pos hb.2.1, if_pos (show (rd_T39 sp (j : Int)).f1 ≤ (((l.filter nctl).length : Nat) : Int) from hb.2.2)]
            have e2' : swap_All.f k l [(⟨F0 sp j, F1 sp j⟩ : S39)] (((l.filter nctl).take (F1 sp j).toNat).drop (F0 sp j).toNat) = some (o, 0) := e2
            rw [e2', Option.bind_some, if_pos rfl, e3, Option.bind_some, e4, Option.bind_some]
        refine ev_step h2 fun k hk => ?_
        simp only [ductuslaw27_SwapSome.j1, Bool.not_true, Bool.false_eq_true, if_false]
        rw [if_neg h1]
        exact hk
    refine ev_step2 (ev_and hA hS) (ev_and hJ (P.ints_ev R.1 (by omega))) fun k hk hk2 => ?_
    obtain ⟨e1, e2⟩ := ev_fst hk
    obtain ⟨e3, e4⟩ := ev_fst hk2
    simp only [ductuslaw27_SwapSome.l0]
    rw [if_neg (by omega), e1, Option.bind_some, e2, Option.bind_some, if_pos rfl, e4, Option.bind_some]
    exact e3
  | succ d ih =>
    intro i hi
    have hw1 : wrap64 ((i : Int) + 1) = ((i + 1 : Nat) : Int) := wrap_succ i (by omega)
    have h := ih (i + 1) (by omega)
    rw [upto_succ] at h
    refine ev_step h fun k hk => ?_
    simp only [ductuslaw27_SwapSome.l0]
    rw [if_pos (by omega), if_pos (by rw [upto_len]; omega), hw1]
    exact hk
theorem SwapSome (l0 : List Int) (l1 : List S39) (l2 : List Int) (a3 : Int) (h0 : ∀ x ∈ l0, P.fits .i64 x) (h1 : ∀ x ∈ l1, P.fits .i64 x.f0 ∧ P.fits .i64 x.f1) (h2 : ∀ x ∈ l2, P.fits .i64 x) (h3 : P.fits .u8 a3) : ∃ k, ductuslaw27_SwapSome.f k l0 l1 l2 a3 = some true := by
  refine Ev.rounds ?_
  by_cases hg : l0.length ≤ 500 ∧ l1.length ≤ 500 ∧ l2.length ≤ 500
  · refine ev_same2 alive27 (some_loop l0 l2 l1 a3 hg.1 hg.2.1 hg.2.2 h3 l1.length 0 (by omega)) fun k ha hk => ?_
    unfold ductuslaw27_SwapSome.f
    rw [ha, Option.bind_some, if_pos rfl, great_no hg.1 hg.2.1 hg.2.2, Option.bind_some, if_neg (by simp)]
    exact hk
  · refine ev_same alive27 fun k ha => ?_
    unfold ductuslaw27_SwapSome.f
    rw [ha, Option.bind_some, if_pos rfl, great_yes hg, Option.bind_some, if_pos rfl]
end Go.Proofs.Ythgmkbghdobmlaa.Pure
