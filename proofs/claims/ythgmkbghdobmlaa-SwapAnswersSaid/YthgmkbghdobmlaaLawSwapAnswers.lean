/- Made by a program of this claim's own: the law SwapAnswers over its own Lean function; no condition beyond the statement's own. -/
import Derived.Test.YthgmkbghdobmlaaRows
import Derived.Test.YthgmkbghdobmlaaC23
import Derived.Test.YthgmkbghdobmlaaC24
import Derived.WalkKit
import Derived.ProofKit
import Derived.OpenShut
import Derived.ShutString
import Derived.ChangeOld
import Derived.Below
import Derived.SizedLaws
import Derived.ChangeSlices
namespace Go.Proofs.Ythgmkbghdobmlaa.swapAnswers
open Go.ChangeShapes Go.WideShapes Go.ChangeAt Go.RowKit Go.Proofs.YthgmkbghdobmlaaW.PrintWords
set_option linter.unusedVariables false
theorem own : ownKnob Try.prog.godebug = none := by kernel_rfl
theorem laidOut : laidOutB Try.prog = true := by kernel_rfl
set_option maxRecDepth 100000 in
theorem lifted (os : Os) (started : os.Started) (H : Type) (enc : TypeId × Value → H) :
    ReturnsInHanded {} Try.checked os 3 .any (Rows.swapAnswersSpec.pre6 enc Try.prog Try.f3 Rows.swapAnswersRow.domain false) (Rows.swapAnswersSpec.post enc Try.prog Try.f3 false true false false) := by
  refine returnsInHanded_of_change_sized (C := Try.checked) own started (by kernel_rfl) Try.func3
    (ChangeSpec.witness6 (enc := enc) (C := Try.checked) false ⟨#[], #[.agg #[.slice none 0 0, .slice none 0 0, .slice none 0 0], .slice none 0 0], []⟩ 8 (by kernel_rfl) (by kernel_rfl) (by kernel_rfl) (by kernel_rfl)) ?_
  intro W base args ds gs before hval0 hW hcnd hsz0 _
  have hval : ∀ (j : Nat) t v, Try.f3.params[j]? = some t → args[j]? = some v → Value.okWide Try.prog W .any base t v := hval0
  have hW' := hW
  obtain ⟨p, q, hA0, hV, rfl, hfz, hnd⟩ := hW
  have hA : DataW.TrodAll enc Try.prog W 0 (fun _ => true) true Try.f3.params.toList args.toList ds p := hA0
  rw [Try.params3] at hA hval
  obtain ⟨v0, vs0, d0, ds0, p0, q0, hargs, rfl, rfl, h0, r0⟩ := trodAll_cons hA
  obtain ⟨v1, vs1, d1, ds1, p1, q1, rfl, rfl, rfl, h1, r1⟩ := trodAll_cons r0
  obtain ⟨rfl, rfl, rfl⟩ := trodAll_nil r1
  obtain rfl : args = #[v0, v1] := by cases args; simp_all
  obtain ⟨rfl, rfl⟩ := trodVars_none hV
  have k0 := h0
  have lt0 : ∀ x ∈ p0, x.block < W.heap.size := by obtain ⟨m, hm⟩ := k0; exact DataW.trod_lt m _ _ _ hm
  obtain ⟨c0, c1, c2, y0, y1, y2, n0, rfl, _, _, t0, t1, t2⟩ := Go.Proofs.Ythgmkbghdobmlaa.P.open_str3 Try.underlying25 (by kernel_rfl) (by kernel_rfl) (hval 0 25 v0 rfl rfl) h0
  obtain ⟨a0, cap0, l0, rfl, hl0, hm0, hC0, hw0⟩ := P.open_ints1 Try.underlying22 Try.underlying3 (by kernel_rfl) t0
  obtain ⟨a1, cap1, l1, rfl, hl1, hm1, hC1, hw1⟩ := P.open_spans1 Try.underlying23 Try.underlying39 (by kernel_rfl) rfl rfl (by kernel_rfl) (by kernel_rfl) Try.underlying3 Try.underlying3 t1
  obtain ⟨a2, cap2, l2, rfl, hl2, hm2, hC2, hw2⟩ := P.open_ints1 Try.underlying22 Try.underlying3 (by kernel_rfl) t2
  obtain ⟨ax, lenx, capx, hv1⟩ := okWide_slice Try.underlying22 (hval 1 22 v1 rfl rfl)
  have k1 := h1
  have lt1 : ∀ x ∈ p1, x.block < W.heap.size := by obtain ⟨m, hm⟩ := k1; exact DataW.trod_lt m _ _ _ hm
  obtain ⟨a3, cap3, l3, rfl, hl3, hm3, hC3, hw3⟩ := P.open_ints1T hv1 Try.underlying22 Try.underlying3 (by kernel_rfl) h1
  clear hA0 hval0 hsz0
  obtain ⟨k, hk⟩ := Pure.SwapAnswers l0 l1 l2 l3 hw0 hw1 hw2 hw3
  refine (P.ductuslaw27_SwapAnswers.calls k _ _ l0 _ _ l1 _ _ l2 _ _ l3 true W hC0 hl0 hC1 hl1 hC2 hl2 hC3 hl3 hk).mono fun e W' ⟨he, bel⟩ => ?_
  subst he
  exact ⟨_, rfl, _, _, _, [], _, [], hW', trodAll_mk1 (shut_bool Try.underlying4 _), (trodAll_cons_mk (Below.trod laidOut (by kernel_rfl) (of_decide_eq_true (by kernel_rfl)) k0 bel lt0) (trodAll_cons_mk (Below.trod laidOut (by kernel_rfl) (of_decide_eq_true (by kernel_rfl)) k1 bel lt1) trodAll_mk0)), rfl, bel.frame _, fun h => by cases h⟩
theorem over : Rows.swapAnswersRow.holds Try.pinned (OpenSpec.ofChange Rows.swapAnswersSpec) :=
  OpenClaim.holds_of_wide 3 Try.f3 rfl rfl rfl rfl rfl rfl rfl ⟨rfl, rfl, rfl, rfl, rfl⟩ rfl rfl rfl rfl rfl (by kernel_rfl) Try.func3 (by kernel_rfl)
    (of_decide_eq_true (by kernel_rfl)) (by unfold Func.isWrapper; first | (rw [if_pos (by decide +kernel)]; kernel_rfl) | (rw [if_neg (by decide +kernel)]; exact ⟨rfl, rfl⟩))
    (fun os started H enc _ => lifted os started H enc)
theorem proved : Rows.SwapAnswersSaid := over
#print axioms proved
end Go.Proofs.Ythgmkbghdobmlaa.swapAnswers
namespace Go.Proofs.Ythgmkbghdobmlaa
/-- The row, under a short name, for the claim. -/
theorem swapAnswers_holds : Rows.SwapAnswersSaid := swapAnswers.proved
end Go.Proofs.Ythgmkbghdobmlaa
