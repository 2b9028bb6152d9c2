/- Proved: the pure statement of the law ClassAnswers, that the Lean functions printed for it answer true for every input; no condition beyond the statement's own. -/
import Derived.Test.YtnbhncmggfjgdaaDoorPx3
import Derived.Test.YtnbhncmggfjgdaaDoorPCls
namespace Go.Proofs.YtnbhncmggfjgdaaDoor.Pure
open Go.RowKit Go.Proofs.YtnbhncmggfjgdaaDoor.P Go.Proofs.YtnbhncmggfjgdaaDoorW.PrintWords Go.Proofs.YtnbhncmggfjgdaaDoorW.PrintLast Go.Proofs.YtnbhncmggfjgdaaDoorW.PrintMore
set_option linter.unusedVariables false
set_option linter.unusedSimpArgs false

theorem answers_loop (l : List Int) (c : Int) (hl : l.length ≤ 5000) (d : Nat) : ∀ i : Nat, i ≤ l.length → l.length - i = d → Ev (fun k => ductuslaw02_ClassAnswers.l0 k l c (i : Int)) true := by
  induction d with
  | zero =>
    intro i hi hd
    obtain ⟨K1, e1⟩ := all_ev l (by omega)
    obtain ⟨K2, e2⟩ := rall_ev l (by omega)
    obtain ⟨K3, e3⟩ := ints_ev (l.map cls) (by rw [List.length_map]; omega)
    obtain ⟨K4, e4⟩ := stg_ev c
    obtain ⟨K5, e5⟩ := out_ev c
    obtain ⟨K6, e6⟩ := opens_ev c
    obtain ⟨K7, e7⟩ := neu_ev c
    have g : ¬ (i : Int) < (l.length : Int) := by omega
    refine ⟨K1 + K2 + K3 + K4 + K5 + K6 + K7 + 1, fun k hk => ?_⟩
    obtain ⟨k, rfl⟩ : ∃ j, k = j + 1 := ⟨k - 1, by omega⟩
    replace e1 := e1 k (by omega)
    replace e2 := e2 k (by omega)
    replace e3 := e3 k (by omega)
    replace e4 := e4 k (by omega)
    replace e5 := e5 k (by omega)
    replace e6 := e6 k (by omega)
    replace e7 := e7 k (by omega)
    dsimp only at e1 e2 e3 e4 e5 e6 e7
    show ductuslaw02_ClassAnswers.l0 (k + 1) l c (i : Int) = some true
    simp only [ductuslaw02_ClassAnswers.l0]
    rw [if_neg g, e1, Option.bind_some, e2, Option.bind_some, e3, Option.bind_some, if_pos rfl, word_eq, word_f, Option.bind_some, Option.bind_some, if_pos rfl, e4, Option.bind_some, rstg_eq, Option.bind_some, if_pos (by simp), e5, Option.bind_some, rout0_eq, Option.bind_some, if_pos (by simp), e6, Option.bind_some, ropens_eq, Option.bind_some, if_pos (by simp), e7, Option.bind_some, rneu_eq, Option.bind_some]
    simp
  | succ d ih =>
    intro i hi hd
    have w1 : wrap64 ((i : Int) + 1) = ((i + 1 : Nat) : Int) := wrap_succ i (by omega)
    have g1 : (i : Int) < (l.length : Int) := by omega
    have g2 : (0 : Int) ≤ (i : Int) := by omega
    refine ev_step2 (of_ev (rd l (i : Int))) (ih (i + 1) (by omega) (by omega)) fun k hk hk2 => ?_
    simp only [ductuslaw02_ClassAnswers.l0]
    rw [if_pos g1, if_pos g2, hk, Option.bind_some, rcls_eq, Option.bind_some, if_pos rfl, w1]
    exact hk2
theorem ClassAnswers : ductuslaw02_ClassAnswers.Pure := by
  intro l c hm hl hw hc
  refine Ev.rounds ?_
  by_cases h : (l.length : Int) > 5000
  · refine ev_same alive02 fun k ha => ?_
    unfold ductuslaw02_ClassAnswers.f
    rw [ha, Option.bind_some, if_pos rfl, if_pos h]
  · refine ev_same2 alive02 (answers_loop l c (by omega) l.length 0 (by omega) (by omega)) fun k ha hk => ?_
    unfold ductuslaw02_ClassAnswers.f
    rw [ha, Option.bind_some, if_pos rfl, if_neg h]
    exact hk
end Go.Proofs.YtnbhncmggfjgdaaDoor.Pure
