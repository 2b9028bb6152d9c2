/- Proved: the pure statement of the law ClassOnce, that the Lean functions printed for it answer true for every input; no condition beyond the statement's own. -/
import Derived.Test.YtnbhncmggfjgdaaDoorPx4
import Derived.Test.YtnbhncmggfjgdaaDoorPCls
namespace Go.Proofs.YtnbhncmggfjgdaaDoor.Pure
open Go.RowKit Go.Proofs.YtnbhncmggfjgdaaDoor.P Go.Proofs.YtnbhncmggfjgdaaDoorW.PrintWords Go.Proofs.YtnbhncmggfjgdaaDoorW.PrintLast Go.Proofs.YtnbhncmggfjgdaaDoorW.PrintMore
set_option linter.unusedVariables false
set_option linter.unusedSimpArgs false

/-- What is left behind all that the class alone decides. -/
def onceR (c k : Int) : Option Bool := if c ≥ 0 then (if c ≤ 1114111 then some true else some (k == 0)) else some (k == 0)
set_option maxRecDepth 100000 in
theorem once_l0 (c : Int) : ∀ k ∈ classes, ductuslaw02_ClassOnce.l0 40 c k 0 0 = onceR c k := by
  intro k hk
  simp only [classes, List.mem_cons, List.not_mem_nil, or_false] at hk
  rcases hk with rfl | rfl | rfl | rfl | rfl | rfl | rfl | rfl | rfl | rfl | rfl | rfl | rfl | rfl | rfl | rfl | rfl | rfl | rfl | rfl | rfl | rfl | rfl
  all_goals kernel_rfl
theorem cls_out (c : Int) (h : c < 0 ∨ 1114111 < c) : cls c = 0 := by
  rcases h with h | h
  · have h1 := cls_eq c 0 (by omega) (fun a ha => by omega) (fun a _ ha => by
      have : ∀ a < 90, 0 ≤ thi a := by decide +kernel
      have := this a ha
      omega)
    rw [h1, if_neg]
    intro h2
    have : tlo 0 = 0 := by decide +kernel
    omega
  · have h1 := cls_eq c 90 (by omega) (fun a ha => by
      have : ∀ a < 90, thi a ≤ 1114111 := by decide +kernel
      have := this a ha
      omega) (fun a h1 h2 => by omega)
    rw [h1, if_neg (by omega)]
theorem ClassOnce : ductuslaw02_ClassOnce.Pure := by
  intro c hc
  have hr := cls_range c
  have hk := in_classes hr.1 hr.2
  have hR : onceR c (cls c) = some true := by
    unfold onceR
    by_cases h0 : c ≥ 0
    · by_cases h1 : c ≤ 1114111
      · rw [if_pos h0, if_pos h1]
      · rw [if_pos h0, if_neg h1, cls_out c (.inr (by omega))]
        rfl
    · rw [if_neg h0, cls_out c (.inl (by omega))]
      rfl
  have hl : Ev (fun k => ductuslaw02_ClassOnce.l0 k c (cls c) 0 0) true := ⟨40, fun k hk2 => more (fun k => ductuslaw02_ClassOnce.mono_l k c (cls c) 0 0) 40 k hk2 _ ((once_l0 c _ hk).trans hR)⟩
  refine Ev.rounds (ev_same3 alive02 (of_ev c) hl fun k h0 h1 h2 => ?_)
  unfold ductuslaw02_ClassOnce.f
  rw [h0, Option.bind_some, if_pos rfl, h1, Option.bind_some]
  exact h2
end Go.Proofs.YtnbhncmggfjgdaaDoor.Pure
