/- Proved: the pure statement of the law UtfWrites, that the Lean functions printed for it answer true for every input; no condition beyond the statement's own. -/
import Derived.Test.YtgcdhjgdlnpknaaDoorPx5
import Derived.Test.YtgcdhjgdlnpknaaDoorPUtf
namespace Go.Proofs.YtgcdhjgdlnpknaaDoor.Pure
open Go.RowKit Go.Proofs.YtgcdhjgdlnpknaaDoor.P Go.Proofs.YtgcdhjgdlnpknaaDoorW.PrintWords Go.Proofs.YtgcdhjgdlnpknaaDoorW.PrintLast Go.Proofs.YtgcdhjgdlnpknaaDoorW.PrintMore
set_option linter.unusedVariables false
set_option linter.unusedSimpArgs false

theorem UtfWrites : ductuslaw01_UtfWrites.Pure := by
  intro l c hm hl hw wc
  refine Ev.rounds ?_
  by_cases h : (l.length : Int) > 5000
  · refine ev_same alive01 fun k hk => ?_
    unfold ductuslaw01_UtfWrites.f
    rw [hk, Option.bind_some, if_pos rfl, if_pos h]
  · obtain ⟨K0, h0⟩ := alive01
    obtain ⟨K1, h1⟩ := encU_ev l (by omega)
    obtain ⟨K2, h2⟩ := encR_ev l (by omega)
    obtain ⟨K3, h3⟩ := rightU_ev c
    obtain ⟨K4, h4⟩ := sizeU_ev c
    refine ⟨K0 + K1 + K2 + K3 + K4, fun k hk => ?_⟩
    have g0 := h0 k (by omega)
    have g1 := h1 k (by omega)
    have g2 := h2 k (by omega)
    have g3 := h3 k (by omega)
    have g4 := h4 k (by omega)
    dsimp only at g0 g1 g2 g3 g4
    show ductuslaw01_UtfWrites.f k l c = some true
    unfold ductuslaw01_UtfWrites.f
    rw [g0, Option.bind_some, if_pos rfl, if_neg h, g1, Option.bind_some, g2, Option.bind_some, if_pos rfl, if_pos rfl, g3, Option.bind_some, rightR, Option.bind_some, if_pos (by simp), g4, Option.bind_some, size_eq, Option.bind_some]
    simp
end Go.Proofs.YtgcdhjgdlnpknaaDoor.Pure
