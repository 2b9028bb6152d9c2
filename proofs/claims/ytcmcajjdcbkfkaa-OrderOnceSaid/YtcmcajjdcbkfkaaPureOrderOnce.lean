/- Proved: the pure statement of the law OrderOnce, that the Lean functions printed for it answer true for every input; no condition beyond the statement's own. -/
import Derived.Test.YtcmcajjdcbkfkaaPx9
import Derived.Test.YtcmcajjdcbkfkaaPOrd
namespace Go.Proofs.Ytcmcajjdcbkfkaa.Pure
open Go.RowKit Go.Proofs.Ytcmcajjdcbkfkaa.P Go.Proofs.YtcmcajjdcbkfkaaW.PrintWords Go.Proofs.YtcmcajjdcbkfkaaW.PrintLast Go.Proofs.YtcmcajjdcbkfkaaW.PrintMore
set_option linter.unusedVariables false
set_option linter.unusedSimpArgs false

theorem alive14 : Ev (fun k => ductuslaw14_alive.f k) true := Ev.of ductuslaw14_alive.mono (k := 300) (by decide +kernel)
theorem once_loop (l : List Int) (hl : l.length ≤ 200) (d : Nat) : ∀ (i : Nat), i ≤ l.length → l.length - i = d → Ev (fun k => ductuslaw14_OrderOnce.l0 k l (ordM l) (backOf (ordM l)) (i : Int)) true := by
  have hp := ordM_perm l
  have ho := ordM_len l
  have hr := perm_right hp
  have hb : (backOf (ordM l)).length = l.length := by rw [backOf_len, ho]
  induction d with
  | zero =>
    intro i hi hd
    refine ev_one fun k => ?_
    simp only [ductuslaw14_OrderOnce.l0]
    rw [if_neg (by omega)]
  | succ d ih =>
    intro i hi hd
    have hx := ((rightL_iff _).1 hr).2 _ (rd_mem (ordM l) i (by omega))
    have hon := backOf_on (ordM l) hr i (by omega)
    have next := ih (i + 1) (by omega) (by omega)
    have skip : Ev (fun k => ductuslaw14_OrderOnce.j3 k l (ordM l) (backOf (ordM l)) (i : Int) false) true := by
      refine ev_step next fun k hk => ?_
      simp only [ductuslaw14_OrderOnce.j3]
      rw [if_neg (by decide), wrap_succ i (by omega)]
      exact hk
    by_cases hi0 : i = 0
    · subst hi0
      refine ev_step skip fun k hk => ?_
      simp only [ductuslaw14_OrderOnce.l0]
      rw [if_pos (by omega), if_pos (by omega), if_pos hx.1, if_pos (by omega), if_pos hon, if_neg (by omega)]
      exact hk
    · have hw : wrap64 ((i : Int) - 1) = ((i - 1 : Nat) : Int) := by
        rw [wrap_id (by omega) (by omega)]
        omega
      have go : Ev (fun k => ductuslaw14_OrderOnce.j3 k l (ordM l) (backOf (ordM l)) (i : Int) ((rd l (i : Int)) == (rd l ((i - 1 : Nat) : Int)))) true := by
        by_cases he : rd l (i : Int) = rd l ((i - 1 : Nat) : Int)
        · have e1 : ((rd l (i : Int)) == (rd l ((i - 1 : Nat) : Int))) = true := by simpa using he
          rw [e1]
          have ha : Adj ((i - 1 : Nat) : Int) ((i - 1 + 1 : Nat) : Int) (rng l.length) := rng_adj l.length (i - 1) (by omega)
          have e2 : i - 1 + 1 = i := by omega
          rw [e2] at ha
          have h3 := down_adj (lvOf (l.map clampL)) 127 (rng l.length) ((i - 1 : Nat) : Int) (i : Int) (by
            unfold lvOf
            rw [rd_clamp, rd_clamp, he]) ha
          rw [← ord_clamp l _ 127 (Nat.le_refl _)] at h3
          have e3 : lvOf (l.map clampL) ((i - 1 : Nat) : Int) = mn 127 (mx 0 (rd l (i : Int))) := by
            unfold lvOf
            rw [rd_clamp, ← he]
            rfl
          rw [e3] at h3
          have hc := clampL_bd (rd l (i : Int))
          unfold clampL at hc
          obtain ⟨c, hce⟩ : ∃ c, mn 127 (mx 0 (rd l (i : Int))) = c := ⟨_, rfl⟩
          rw [hce] at h3 hc
          have hmem1 := ((rightL_iff _).1 (back_right hp)).2 _ (rd_mem (backOf (ordM l)) i (by omega))
          have hmem2 := ((rightL_iff _).1 (back_right hp)).2 _ (rd_mem (backOf (ordM l)) (i - 1) (by omega))
          rw [hb] at hmem1 hmem2
          by_cases hodd : c % 2 = 1
          · rw [if_neg (by omega)] at h3
            have h4 : Adj (i : Int) ((i - 1 : Nat) : Int) (ordM l) := h3
            have h5 := adj_back hp h4
            refine ev_step next fun k hk => ?_
            simp only [ductuslaw14_OrderOnce.j3]
            rw [if_pos trivial, if_pos (by omega), if_pos (by omega), hce, if_pos hodd, if_pos (by omega), hw, if_pos (by omega), if_pos (by omega), wrap_id (by omega) (by omega), if_pos (by omega), wrap_succ i (by omega)]
            exact hk
          · rw [if_pos (by omega)] at h3
            have h4 : Adj ((i - 1 : Nat) : Int) (i : Int) (ordM l) := h3
            have h5 := adj_back hp h4
            refine ev_step next fun k hk => ?_
            simp only [ductuslaw14_OrderOnce.j3]
            rw [if_pos trivial, if_pos (by omega), if_pos (by omega), hce, if_neg hodd, if_pos (by omega), hw, if_pos (by omega), if_pos (by omega), wrap_id (by omega) (by omega), if_pos (by omega), wrap_succ i (by omega)]
            exact hk
        · have e1 : ((rd l (i : Int)) == (rd l ((i - 1 : Nat) : Int))) = false := by simpa using he
          rw [e1]
          exact skip
      refine ev_step go fun k hk => ?_
      simp only [ductuslaw14_OrderOnce.l0]
      rw [if_pos (by omega), if_pos (by omega), if_pos hx.1, if_pos (by omega), if_pos hon, if_pos (by omega), if_pos (by omega), hw, if_pos (by omega), if_pos (by omega)]
      exact hk
theorem OrderOnce : ductuslaw14_OrderOnce.Pure := by
  intro l hm hl hw
  refine Ev.rounds ?_
  by_cases h : (l.length : Int) > 200
  · refine ev_same alive14 fun k hk => ?_
    unfold ductuslaw14_OrderOnce.f
    rw [hk, Option.bind_some, if_pos rfl, if_pos h]
  · have hp := ordM_perm l
    have ho := ordM_len l
    have hr := perm_right hp
    have hwo := perm_wf hp (by omega)
    have h0 := once_loop l (by omega) l.length 0 (by omega) (by omega)
    have h1 : Ev (fun k => ductuslaw14_OrderOnce.j1 k l (ordM l) (backOf (ordM l)) false) true := ev_step h0 fun k hk => by
      simp only [ductuslaw14_OrderOnce.j1]
      rw [if_neg (by decide)]
      exact hk
    have h2 : Ev (fun k => ductuslaw14_OrderOnce.j0 k l (ordM l) false) true := ev_step2 h1 (back_ev (ordM l) (by omega) hwo) fun k hk hb => by
      simp only [ductuslaw14_OrderOnce.j0]
      rw [if_neg (by decide), hb, Option.bind_some]
      unfold backM
      rw [if_pos hr]
      simp only []
      have e : ((((backOf (ordM l)).length : Nat) : Int) != ((ordM l).length : Int)) = false := by
        rw [backOf_len]
        simp
      rw [if_pos trivial, e]
      exact hk
    refine ev_same3 alive14 (of_ev l (by omega)) h2 fun k ha hof h2 => ?_
    unfold ductuslaw14_OrderOnce.f
    rw [ha, Option.bind_some, if_pos rfl, if_neg h, hof, Option.bind_some, if_pos (by omega), right_f _ (by omega) hwo, Option.bind_some, hr]
    exact h2
end Go.Proofs.Ytcmcajjdcbkfkaa.Pure
