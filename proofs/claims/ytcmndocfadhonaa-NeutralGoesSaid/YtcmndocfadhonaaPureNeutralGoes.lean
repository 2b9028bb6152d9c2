/- Proved: the pure statement of the law NeutralGoes, that the Lean functions printed for it answer true for every input; no condition beyond the statement's own. -/
import Derived.Test.YtcmndocfadhonaaPx7
import Derived.Test.YtcmndocfadhonaaPNeutRef
namespace Go.Proofs.Ytcmndocfadhonaa.Pure
open Go.RowKit Go.Proofs.Ytcmndocfadhonaa.P Go.Proofs.YtcmndocfadhonaaW.PrintWords Go.Proofs.YtcmndocfadhonaaW.PrintLast Go.Proofs.YtcmndocfadhonaaW.PrintMore
set_option linter.unusedVariables false
set_option linter.unusedSimpArgs false

theorem alive11g (k : Nat) (hk : 60 ≤ k) : ductuslaw11_alive.f k = some true := more ductuslaw11_alive.mono 60 k hk _ (by decide +kernel)
theorem goes_loop (l : List Int) (x1 x2 x3 : Int) (hn : l.length ≤ 500) (d : Nat) : ∀ (k i : Nat), i ≤ l.length → l.length - i = d → d < k → ductuslaw11_NeutralGoes.l0 k l (neutOf l x1 x2 x3) (i : Int) = some true := by
  have hlen := neut_len l x1 x2 x3
  induction d with
  | zero =>
    intro k i hi hd hk
    obtain ⟨k, rfl⟩ : ∃ m, k = m + 1 := ⟨k - 1, by omega⟩
    simp only [ductuslaw11_NeutralGoes.l0]
    rw [if_neg (by omega)]
  | succ d ih =>
    intro k i hi hd hk
    obtain ⟨k, rfl⟩ : ∃ m, k = m + 1 := ⟨k - 1, by omega⟩
    have hil : i < l.length := by omega
    have next := ih k (i + 1) (by omega) (by omega) (by omega)
    rw [← wrap_succ i (by omega)] at next
    have hno := neut_none l x1 x2 x3 i hil
    have hno' : ¬ neuK (rd (neutOf l x1 x2 x3) (i : Int)) = true := by rw [hno]; decide
    simp only [ductuslaw11_NeutralGoes.l0]
    rw [if_pos (by omega), if_pos (by omega), if_pos (by omega)]
    simp only [rneutral_eq, Option.bind_some]
    rw [if_neg hno']
    rw [rd_get l i hil]
    by_cases hq : neuK l[i] = true
    · rw [if_pos hq, if_pos hq]
      rcases neut_goes l x1 x2 x3 i hil hq with e | e
      · rw [e, if_pos rfl]
        exact next
      · rw [e, if_neg (by decide), if_pos rfl]
        exact next
    · rw [if_neg hq, if_pos (neut_stays l x1 x2 x3 i hil hq), if_neg hq]
      exact next
theorem goes_j1 (l : List Int) (x1 x2 x3 : Int) (hn : l.length ≤ 500) (k : Nat) (hk : (l.length + 10) * (l.length + 10) + 60 < k) : ductuslaw11_NeutralGoes.j1 k l x1 x2 x3 = some true := by
  obtain ⟨k, rfl⟩ : ∃ m, k = m + 2 := ⟨k - 2, by omega⟩
  have m2 : (l.length + 10) * (l.length + 10) ≥ (l.length + 2) * (l.length + 3) := Nat.mul_le_mul (by omega) (by omega)
  have m3 : (l.length + 10) * (l.length + 10) ≥ (l.length + 10) * 2 := Nat.mul_le_mul (Nat.le_refl _) (by omega)
  have hlen := neut_len l (wrap64 x1) x2 x3
  simp only [ductuslaw11_NeutralGoes.j1]
  rw [nof_eq (k + 1) l (wrap64 x1) x2 x3 hn (by omega)]
  simp only [Option.bind_some]
  rw [if_pos (by omega), nof_eq (k + 1) (neutOf l (wrap64 x1) x2 x3) (wrap64 x1) x2 x3 (by omega) (by rw [hlen]; omega), neut_twice]
  simp only [Option.bind_some, ints_same (k + 1) (neutOf l (wrap64 x1) x2 x3) (by omega) (by omega), ductuslaw11_NeutralGoes.j2]
  exact goes_loop l (wrap64 x1) x2 x3 hn l.length k 0 (by omega) (by omega) (by omega)
theorem NeutralGoes : ductuslaw11_NeutralGoes.Pure := by
  intro l a b c hm hl hw wa
  refine ⟨(l.length + 10) * (l.length + 10) + 100, ?_⟩
  obtain ⟨k, hk⟩ : ∃ k, k + 1 = (l.length + 10) * (l.length + 10) + 100 := ⟨(l.length + 10) * (l.length + 10) + 99, rfl⟩
  rw [← hk]
  unfold ductuslaw11_NeutralGoes.f
  rw [alive11g _ (by omega)]
  simp only [Option.bind_some, if_true]
  by_cases h : (l.length : Int) > 500
  · rw [if_pos h]
  · rw [if_neg h]
    simp only [ductuslaw11_NeutralGoes.j0]
    repeat' split
    all_goals exact goes_j1 _ _ _ _ (by omega) _ (by omega)
end Go.Proofs.Ytcmndocfadhonaa.Pure
