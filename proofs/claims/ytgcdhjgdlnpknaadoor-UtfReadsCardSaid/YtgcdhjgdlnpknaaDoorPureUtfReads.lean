/- Proved: the pure statement of the law UtfReads, that the Lean functions printed for it answer true for every input; no condition beyond the statement's own. -/
import Derived.Test.YtgcdhjgdlnpknaaDoorPx5
import Derived.Test.YtgcdhjgdlnpknaaDoorPUtf
namespace Go.Proofs.YtgcdhjgdlnpknaaDoor.Pure
open Go.RowKit Go.Proofs.YtgcdhjgdlnpknaaDoor.P Go.Proofs.YtgcdhjgdlnpknaaDoorW.PrintWords Go.Proofs.YtgcdhjgdlnpknaaDoorW.PrintLast Go.Proofs.YtgcdhjgdlnpknaaDoorW.PrintMore
set_option linter.unusedVariables false
set_option linter.unusedSimpArgs false

theorem u8_bytes {l : List Int} (h : ∀ x ∈ l, (Lit.int .u8 x).wf = true) : bytesB l := fun x hx => by
  have := h x hx
  have hmin : IntKind.u8.min = 0 := rfl
  have hmax : IntKind.u8.max = 255 := rfl
  simp only [Lit.wf, Bool.and_eq_true, decide_eq_true_eq] at this
  omega
theorem UtfReads : ductuslaw01_UtfReads.Pure := by
  intro l a hm hl hw wa
  have hb := u8_bytes hw
  refine Ev.rounds ?_
  by_cases h : (l.length : Int) > 5000
  · refine ev_same alive01 fun k hk => ?_
    unfold ductuslaw01_UtfReads.f
    rw [hk, Option.bind_some, if_pos rfl, if_pos h]
  · have hc : (decM l).1.length < 9223372036854775807 ∧ (decM l).2.1.length < 9223372036854775807 := by
      unfold decM
      split
      · have := decC_len l
        have := decA_len l
        dsimp only
        omega
      · dsimp only [List.length_nil]
        omega
    obtain ⟨K0, h0⟩ := alive01
    obtain ⟨K1, h1⟩ := decU_ev l hb
    obtain ⟨K2, h2⟩ := refDec_ev l
    obtain ⟨K3, h3⟩ := ints_ev (decM l).1 hc.1
    obtain ⟨K4, h4⟩ := ints_ev (decM l).2.1 hc.2
    obtain ⟨K5, h5⟩ := validR_ev l hb
    obtain ⟨o, ho⟩ := offset_some (decM l).2.1 a
    refine ⟨K0 + K1 + K2 + K3 + K4 + K5, fun k hk => ?_⟩
    have g0 := h0 k (by omega)
    have g1 := h1 k (by omega)
    have g2 := h2 k (by omega)
    have g3 := h3 k (by omega)
    have g4 := h4 k (by omega)
    have g5 := h5 k (by omega)
    dsimp only at g0 g1 g2 g3 g4 g5
    show ductuslaw01_UtfReads.f k l a = some true
    unfold ductuslaw01_UtfReads.f
    rw [g0, Option.bind_some, if_pos rfl, if_neg h, g1, Option.bind_some, g2, Option.bind_some, g3, Option.bind_some, if_pos rfl, g4, Option.bind_some, if_pos rfl, if_pos rfl, validU l hb, Option.bind_some, g5, Option.bind_some, if_pos (by simp), ho, Option.bind_some, offset_same, ho, Option.bind_some]
    simp
end Go.Proofs.YtgcdhjgdlnpknaaDoor.Pure
