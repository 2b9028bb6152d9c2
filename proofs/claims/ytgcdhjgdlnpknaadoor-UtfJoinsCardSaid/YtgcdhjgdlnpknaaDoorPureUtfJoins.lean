/- Proved: the pure statement of the law UtfJoins, that the Lean functions printed for it answer true for every input; no condition beyond the statement's own. -/
import Derived.Test.YtgcdhjgdlnpknaaDoorPx7
import Derived.Test.YtgcdhjgdlnpknaaDoorPUtf
namespace Go.Proofs.YtgcdhjgdlnpknaaDoor.Pure
open Go.RowKit Go.Proofs.YtgcdhjgdlnpknaaDoor.P Go.Proofs.YtgcdhjgdlnpknaaDoorW.PrintWords Go.Proofs.YtgcdhjgdlnpknaaDoorW.PrintLast Go.Proofs.YtgcdhjgdlnpknaaDoorW.PrintMore
set_option linter.unusedVariables false
set_option linter.unusedSimpArgs false

theorem offset_at2 (l : List Int) (i : Nat) (h : i < l.length) : utf_Offset.f l (i : Int) = some (rd l (i : Int)) := by
  unfold utf_Offset.f
  rw [if_neg (by omega), if_neg (by omega), if_pos (by omega), if_pos (by omega)]
theorem offset_out (l : List Int) (i : Nat) (h : l.length ≤ i) : utf_Offset.f l (i : Int) = some (-1) := by
  unfold utf_Offset.f
  rw [if_neg (by omega), if_pos (by omega)]
theorem joins_j0 (a b : List Int) (ha : a.length ≤ 1000) (hb : b.length ≤ 1000) : Ev (fun k => ductuslaw01_UtfJoins.j0 k a b false) true := by
  have h1 := encU_ev a (by omega)
  have h2 := encU_ev b (by omega)
  have ht : ∀ x y, Ev (fun k => ductuslaw01_UtfJoins.j1 k a b x y true) true := fun x y => ev_one fun k => by
    simp only [ductuslaw01_UtfJoins.j1]
    rw [if_pos trivial]
  by_cases oa : allR a ∧ (encB a).length ≤ 4000
  · have e1 : encM a = (encB a, 0) := by
      unfold encM
      rw [if_pos oa.1, if_pos oa.2]
    rw [e1] at h1
    by_cases ob : allR b ∧ (encB b).length ≤ 4000
    · have e2 : encM b = (encB b, 0) := by
        unfold encM
        rw [if_pos ob.1, if_pos ob.2]
      rw [e2] at h2
      have hw : wrap64 (((encB a).length : Int) + ((encB b).length : Int)) = ((encB a).length : Int) + ((encB b).length : Int) := wrap_id (by omega) (by omega)
      by_cases hs : ((encB a).length : Int) + ((encB b).length : Int) > 4000
      · refine ev_step3 h1 h2 (ht (encB a) (encB b)) fun k hk hk2 hk3 => ?_
        simp only [ductuslaw01_UtfJoins.j0]
        rw [if_neg (by simp), hk, Option.bind_some, hk2, Option.bind_some, if_pos rfl, if_pos rfl]
        dsimp only
        rw [hw, decide_eq_true hs]
        exact hk3
      · have hr : allR (a ++ b) := fun x hx => by
          rcases List.mem_append.1 hx with q | q
          · exact oa.1 x q
          · exact ob.1 x q
        have eab := encB_app a b
        have hlen : (encB (a ++ b)).length ≤ 4000 := by rw [eab, List.length_append]; omega
        have hd := decU_ev (encB (a ++ b)) (encB_bytes _)
        have e3 : decM (encB (a ++ b)) = (decC (encB (a ++ b)), decA (encB (a ++ b)), 0) := by
          unfold decM
          rw [if_pos hlen]
        rw [e3, decC_enc _ hr] at hd
        have hi := ints_ev (a ++ b) (by rw [List.length_append]; omega)
        have hal := decA_len (encB (a ++ b))
        rw [decC_enc _ hr, List.length_append] at hal
        have o1 : utf_Offset.f (decA (encB (a ++ b))) (a.length : Int) = some ((encB a).length : Int) := by
          rw [offset_at2 _ _ (by omega), decA_at _ a.length (by rw [decC_enc _ hr, List.length_append]; omega), preC_enc a b hr]
        have w1 : wrap64 (wrap64 ((a.length : Int) + (b.length : Int)) + 1) = ((a.length + b.length + 1 : Nat) : Int) := by
          rw [wrap_id (x := (a.length : Int) + (b.length : Int)) (by omega) (by omega), wrap_id (by omega) (by omega)]
          omega
        have o2 : utf_Offset.f (decA (encB (a ++ b))) ((a.length + b.length + 1 : Nat) : Int) = some (-1) := offset_out _ _ (by omega)
        have hj : Ev (fun k => ductuslaw01_UtfJoins.j1 k a b (encB a) (encB b) false) true := by
          refine ev_step2 hd hi fun k hk hk2 => ?_
          simp only [ductuslaw01_UtfJoins.j1]
          rw [if_neg (by simp), Option.bind_some, if_pos (by simp; omega), Option.bind_some, List.nil_append, if_pos (by omega), ← eab, hk, Option.bind_some, if_pos rfl, Option.bind_some, if_pos (by simp; omega), Option.bind_some, List.nil_append, if_pos (by omega)]
          dsimp only
          rw [hk2, Option.bind_some, if_pos rfl, o1, Option.bind_some, if_pos rfl, w1, o2, Option.bind_some]
          rfl
        refine ev_step3 h1 h2 hj fun k hk hk2 hk3 => ?_
        simp only [ductuslaw01_UtfJoins.j0]
        rw [if_neg (by simp), hk, Option.bind_some, hk2, Option.bind_some, if_pos rfl, if_pos rfl]
        dsimp only
        rw [hw, decide_eq_false hs]
        exact hk3
    · have e : ¬ (encM b).2 = 0 := by
        unfold encM
        by_cases q : allR b
        · rw [if_pos q, if_neg (fun z => ob ⟨q, z⟩)]
          decide
        · rw [if_neg q]
          decide
      refine ev_step3 h1 h2 (ht (encB a) (encM b).1) fun k hk hk2 hk3 => ?_
      simp only [ductuslaw01_UtfJoins.j0]
      rw [if_neg (by simp), hk, Option.bind_some, hk2, Option.bind_some, if_pos rfl, if_neg e]
      exact hk3
  · have e : ¬ (encM a).2 = 0 := by
      unfold encM
      by_cases q : allR a
      · rw [if_pos q, if_neg (fun z => oa ⟨q, z⟩)]
        decide
      · rw [if_neg q]
        decide
    refine ev_step3 h1 h2 (ht (encM a).1 (encM b).1) fun k hk hk2 hk3 => ?_
    simp only [ductuslaw01_UtfJoins.j0]
    rw [if_neg (by simp), hk, Option.bind_some, hk2, Option.bind_some, if_neg e]
    exact hk3
theorem UtfJoins : ductuslaw01_UtfJoins.Pure := by
  intro a b hm hl hw hm2 hl2 hw2
  refine Ev.rounds ?_
  have ht : Ev (fun k => ductuslaw01_UtfJoins.j0 k a b true) true := ev_one fun k => by
    simp only [ductuslaw01_UtfJoins.j0]
    rw [if_pos trivial]
  by_cases h : (a.length : Int) > 1000
  · refine ev_same2 alive01 ht fun k hk hk2 => ?_
    unfold ductuslaw01_UtfJoins.f
    rw [hk, Option.bind_some, if_pos rfl, if_pos h]
    exact hk2
  · by_cases h2 : (b.length : Int) > 1000
    · refine ev_same2 alive01 ht fun k hk hk2 => ?_
      unfold ductuslaw01_UtfJoins.f
      rw [hk, Option.bind_some, if_pos rfl, if_neg h, decide_eq_true h2]
      exact hk2
    · refine ev_same2 alive01 (joins_j0 a b (by omega) (by omega)) fun k hk hk2 => ?_
      unfold ductuslaw01_UtfJoins.f
      rw [hk, Option.bind_some, if_pos rfl, if_neg h, decide_eq_false h2]
      exact hk2
end Go.Proofs.YtgcdhjgdlnpknaaDoor.Pure
