/- Proved: the pure statement of the law LineLevels, that the Lean functions printed for it answer true for every input; no condition beyond the statement's own. -/
import Derived.Test.YtmjipbmpapcboaaPx11
import Derived.Test.YtmjipbmpapcboaaPInts
import Derived.Test.YtmjipbmpapcboaaPLineLv
namespace Go.Proofs.Ytmjipbmpapcboaa.Pure
open Go.RowKit Go.Proofs.Ytmjipbmpapcboaa.P Go.Proofs.YtmjipbmpapcboaaW.PrintWords Go.Proofs.YtmjipbmpapcboaaW.PrintLast Go.Proofs.YtmjipbmpapcboaaW.PrintMore
set_option linter.unusedVariables false
set_option linter.unusedSimpArgs false

theorem alive13l : Ev (fun k => ductuslaw13_alive.f k) true := Ev.of ductuslaw13_alive.mono (k := 300) (by decide +kernel)
theorem LineLevels : ductuslaw13_LineLevels.Pure := by
  intro c l a b base hm hl hw hm1 hl1 hw1 wa wb wc
  refine Ev.rounds ?_
  have yes : Ev (fun k => ductuslaw13_LineLevels.j0 k c l true a b base) true := ev_one fun k => by simp only [ductuslaw13_LineLevels.j0, if_true]
  by_cases h : (c.length : Int) > 300
  · refine ev_same2 alive13l yes fun k ha h1 => ?_
    unfold ductuslaw13_LineLevels.f
    rw [ha, Option.bind_some, if_pos rfl, if_pos h]
    exact h1
  · by_cases h2 : (l.length : Int) > 300
    · refine ev_same2 alive13l yes fun k ha h1 => ?_
      unfold ductuslaw13_LineLevels.f
      rw [ha, Option.bind_some, if_pos rfl, if_neg h, decide_eq_true h2]
      exact h1
    · have hn := lvM_len c l base a b
      have main : Ev (fun k => ductuslaw13_LineLevels.j0 k c l false a b base) true := by
        obtain ⟨K1, e1⟩ := lv_ev c l base a b (by omega)
        obtain ⟨K2, e2⟩ := rlv_ev c l base a b (by omega)
        refine ⟨K1 + K2 + 400, fun k hk => ?_⟩
        obtain ⟨k, rfl⟩ : ∃ m, k = m + 1 := ⟨k - 1, by omega⟩
        replace e1 := e1 k (by omega)
        replace e2 := e2 k (by omega)
        dsimp only at e1 e2
        simp only [ductuslaw13_LineLevels.j0]
        rw [if_neg (by decide), Option.bind_some, if_pos (by rw [List.length_nil]; omega), Option.bind_some, List.nil_append, e1, Option.bind_some, e2, Option.bind_some, ints_same k _ (by omega) (by omega), Option.bind_some, if_pos rfl, ints_same k _ (by omega) (by omega), Option.bind_some]
      refine ev_same2 alive13l main fun k ha h1 => ?_
      unfold ductuslaw13_LineLevels.f
      rw [ha, Option.bind_some, if_pos rfl, if_neg h, decide_eq_false h2]
      exact h1
end Go.Proofs.Ytmjipbmpapcboaa.Pure
