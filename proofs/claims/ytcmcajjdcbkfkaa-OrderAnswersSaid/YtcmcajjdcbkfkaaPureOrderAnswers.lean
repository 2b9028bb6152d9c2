/- Proved: the pure statement of the law OrderAnswers, that the Lean functions printed for it answer true for every input; no condition beyond the statement's own. -/
import Derived.Test.YtcmcajjdcbkfkaaPx8
import Derived.Test.YtcmcajjdcbkfkaaPInts
import Derived.Test.YtcmcajjdcbkfkaaPOrdRef
namespace Go.Proofs.Ytcmcajjdcbkfkaa.Pure
open Go.RowKit Go.Proofs.Ytcmcajjdcbkfkaa.P Go.Proofs.YtcmcajjdcbkfkaaW.PrintWords Go.Proofs.YtcmcajjdcbkfkaaW.PrintLast Go.Proofs.YtcmcajjdcbkfkaaW.PrintMore
set_option linter.unusedVariables false
set_option linter.unusedSimpArgs false

theorem alive14a : Ev (fun k => ductuslaw14_alive.f k) true := Ev.of ductuslaw14_alive.mono (k := 300) (by decide +kernel)
theorem answers_go (l0 l1 : List Int) (l2 : List Bool) (h0 : l0.length ≤ 200) (h1 : l1.length ≤ 200) (h2 : l2.length ≤ 200) (hw : ∀ x ∈ l1, (Lit.int .i64 x).wf = true) : Ev (fun k => ductuslaw14_OrderAnswers.j0 k l0 l1 l2 false) true := by
  obtain ⟨K1, e1⟩ := back_ev l1 (by omega) hw
  obtain ⟨K2, e2⟩ := rback_ev l1 (by omega)
  obtain ⟨K3, e3⟩ := of_ev l0 (by omega)
  obtain ⟨K4, e4⟩ := rof_ev l0 (by omega)
  obtain ⟨K5, e5⟩ := rright_ev l1 (by omega)
  obtain ⟨K6, e6⟩ := seen_ev l1 l0 (by omega)
  obtain ⟨K7, e7⟩ := rseen_ev l1 l0 (by omega)
  obtain ⟨K8, e8⟩ := only_ev l2 l1 (by omega)
  obtain ⟨K9, e9⟩ := ronly_ev l2 l1 (by omega)
  have n1 : (backM l1).1.length ≤ 200 := by
    unfold backM
    split
    · rw [backOf_len]
      exact h1
    · simp
  have n2 : (seenM l1 l0).length ≤ 200 := by
    unfold seenM
    split
    · rw [List.length_map, ordM_len]
      exact h0
    · simp
  have n3 : (onlyM l2 l1).length ≤ 200 := Nat.le_trans (List.length_filter_le _ _) h1
  have n4 := ordM_len l0
  refine ⟨K1 + K2 + K3 + K4 + K5 + K6 + K7 + K8 + K9 + 300, fun k hk => ?_⟩
  obtain ⟨k, rfl⟩ : ∃ m, k = m + 1 := ⟨k - 1, by omega⟩
  replace e1 := e1 k (by omega)
  replace e2 := e2 k (by omega)
  replace e3 := e3 k (by omega)
  replace e4 := e4 k (by omega)
  replace e5 := e5 k (by omega)
  replace e6 := e6 k (by omega)
  replace e7 := e7 k (by omega)
  replace e8 := e8 k (by omega)
  replace e9 := e9 k (by omega)
  dsimp only at e1 e2 e3 e4 e5 e6 e7 e8 e9
  simp only [ductuslaw14_OrderAnswers.j0]
  rw [if_neg (by decide), Option.bind_some, if_pos (by simp; omega), Option.bind_some, List.nil_append, e1, Option.bind_some, e2, Option.bind_some, e3, Option.bind_some, e4, Option.bind_some, ints_same k _ (by omega) (by omega), Option.bind_some, if_pos rfl,
    ints_same k _ (by omega) (by omega), Option.bind_some, if_pos rfl, if_pos rfl, right_f l1 (by omega) hw, Option.bind_some, e5, Option.bind_some, if_pos (by simp), e6, Option.bind_some, e7, Option.bind_some, ints_same k _ (by omega) (by omega), Option.bind_some, if_pos rfl,
    e8, Option.bind_some, e9, Option.bind_some, ints_same k _ (by omega) (by omega), Option.bind_some, if_pos rfl, ints_same k _ (by omega) (by omega), Option.bind_some]
theorem OrderAnswers : ductuslaw14_OrderAnswers.Pure := by
  intro l0 l1 l2 hm hl hw hm1 hl1 hw1 hm2 hl2
  refine Ev.rounds ?_
  have yes : Ev (fun k => ductuslaw14_OrderAnswers.j0 k l0 l1 l2 true) true := ev_one fun k => by simp only [ductuslaw14_OrderAnswers.j0, if_true]
  by_cases h0 : (l0.length : Int) > 200
  · refine ev_same2 alive14a yes fun k ha h => ?_
    unfold ductuslaw14_OrderAnswers.f
    rw [ha, Option.bind_some, if_pos rfl, if_pos h0]
    exact h
  · by_cases h1 : (l1.length : Int) > 200
    · refine ev_same2 alive14a yes fun k ha h => ?_
      unfold ductuslaw14_OrderAnswers.f
      rw [ha, Option.bind_some, if_pos rfl, if_neg h0, if_pos h1]
      exact h
    · by_cases h2 : (l2.length : Int) > 200
      · refine ev_same2 alive14a yes fun k ha h => ?_
        unfold ductuslaw14_OrderAnswers.f
        rw [ha, Option.bind_some, if_pos rfl, if_neg h0, if_neg h1, decide_eq_true h2]
        exact h
      · refine ev_same2 alive14a (answers_go l0 l1 l2 (by omega) (by omega) (by omega) hw1) fun k ha h => ?_
        unfold ductuslaw14_OrderAnswers.f
        rw [ha, Option.bind_some, if_pos rfl, if_neg h0, if_neg h1, decide_eq_false h2]
        exact h
end Go.Proofs.Ytcmcajjdcbkfkaa.Pure
