/- Proved: the pure statement of the law BalanceAnswers, that the Lean functions printed for it answer true for every input; no condition beyond the statement's own. -/
import Derived.Test.YtpgpckglgkichaaPx9
import Derived.Test.YtpgpckglgkichaaPBalP
namespace Go.Proofs.Ytpgpckglgkichaa.Pure
open Go.RowKit Go.Proofs.Ytpgpckglgkichaa.P Go.Proofs.YtpgpckglgkichaaW.PrintWords Go.Proofs.YtpgpckglgkichaaW.PrintLast Go.Proofs.YtpgpckglgkichaaW.PrintMore
set_option linter.unusedVariables false
set_option linter.unusedSimpArgs false

theorem BalanceAnswers : ductuslaw26_BalanceAnswers.Pure := by
  intro l hm hl hw
  refine Ev.rounds ?_
  by_cases h : (l.length : Int) > 1000
  · refine ev_same alive26 fun k ha => ?_
    unfold ductuslaw26_BalanceAnswers.f
    rw [ha, Option.bind_some, if_pos rfl, if_pos h]
  · have hn : l.length ≤ 1000 := by omega
    have hc := close_len l
    have hf := List.length_filter_le opc l
    obtain ⟨K0, e0⟩ := alive26
    obtain ⟨K1, e1⟩ := rright_ev l (by omega)
    obtain ⟨K2, e2⟩ := rwrong_ev l (by omega)
    obtain ⟨K3, e3⟩ := rctl_ev l (by omega)
    obtain ⟨K4, e4⟩ := rdepth_ev l (by omega)
    obtain ⟨K5, e5⟩ := rclose_ev l (by omega)
    obtain ⟨K6, e6⟩ := ints_ev (l.filter opc) (by omega)
    obtain ⟨K7, e7⟩ := ints_ev (closeM l) (by omega)
    refine ⟨K0 + K1 + K2 + K3 + K4 + K5 + K6 + K7, fun k hk => ?_⟩
    replace e0 := e0 k (by omega)
    replace e1 := e1 k (by omega)
    replace e2 := e2 k (by omega)
    replace e3 := e3 k (by omega)
    replace e4 := e4 k (by omega)
    replace e5 := e5 k (by omega)
    replace e6 := e6 k (by omega)
    replace e7 := e7 k (by omega)
    dsimp only at e0 e1 e2 e3 e4 e5 e6 e7
    have hn2 : l.length < 4398046511104 := by omega
    show ductuslaw26_BalanceAnswers.f k l = some true
    unfold ductuslaw26_BalanceAnswers.f
    rw [e0, Option.bind_some, if_pos rfl, if_neg h, right_f l (by omega), Option.bind_some, e1, Option.bind_some, if_pos (by simp), wrong_f l (by omega), Option.bind_some, e2, Option.bind_some, if_pos rfl, ctl_f l (by omega), Option.bind_some, e3, Option.bind_some, e6, Option.bind_some, if_pos rfl, depth_f l (by omega), Option.bind_some, e4, Option.bind_some, if_pos rfl, close_f l hn2, Option.bind_some, e5, Option.bind_some, e7]
    rfl
end Go.Proofs.Ytpgpckglgkichaa.Pure
