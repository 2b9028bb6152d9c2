/- Proved: the pure statement of the law NeutralLevels, that the Lean functions printed for it answer true for every input; no condition beyond the statement's own. -/
import Derived.Test.YtcmndocfadhonaaPx8
import Derived.Test.YtcmndocfadhonaaPNeutRef
namespace Go.Proofs.Ytcmndocfadhonaa.Pure
open Go.RowKit Go.Proofs.Ytcmndocfadhonaa.P Go.Proofs.YtcmndocfadhonaaW.PrintWords Go.Proofs.YtcmndocfadhonaaW.PrintLast Go.Proofs.YtcmndocfadhonaaW.PrintMore
set_option linter.unusedVariables false
set_option linter.unusedSimpArgs false

theorem alive11l (k : Nat) (hk : 60 ≤ k) : ductuslaw11_alive.f k = some true := more ductuslaw11_alive.mono 60 k hk _ (by decide +kernel)
theorem wf8 {x : Int} (h : (Lit.int .u8 x).wf = true) : 0 ≤ x ∧ x ≤ 255 := by
  have hmin : IntKind.u8.min = 0 := rfl
  have hmax : IntKind.u8.max = 255 := rfl
  simp only [Lit.wf, Bool.and_eq_true, decide_eq_true_eq] at h
  omega
theorem tm (n : Int) (h : 0 ≤ n) : Int.tmod n 2 = n % 2 := by
  rw [Int.tmod_eq_emod_of_nonneg h]
theorem levels_law (l : List Int) (a : Int) (ha : 0 ≤ a ∧ a ≤ 255) (hn : l.length ≤ 500) (d : Nat) : ∀ (k i : Nat), i ≤ l.length → l.length - i = d → 2 * d < k → ductuslaw11_NeutralLevels.l0 k l a (l.map fun c => levelOf c a) (i : Int) = some true := by
  induction d with
  | zero =>
    intro k i hi hd hk
    obtain ⟨k, rfl⟩ : ∃ m, k = m + 1 := ⟨k - 1, by omega⟩
    simp only [ductuslaw11_NeutralLevels.l0]
    rw [if_neg (by omega)]
  | succ d ih =>
    intro k i hi hd hk
    obtain ⟨k, rfl⟩ : ∃ m, k = m + 2 := ⟨k - 2, by omega⟩
    have hil : i < l.length := by omega
    have next := ih k (i + 1) (by omega) (by omega) (by omega)
    rw [← wrap_succ i (by omega)] at next
    have hw : wrap64 a = a := wrap_id (by omega) (by omega)
    have hr : rd (l.map fun c => levelOf c a) (i : Int) = levelOf l[i] a := by
      rw [rd_get _ i (by simpa using hil)]
      simp
    obtain ⟨c, hc⟩ : ∃ c, c = l[i] := ⟨_, rfl⟩
    rw [← hc] at hr
    have j1 : ∀ up, (c = 0 → ((up == 0) != (dirOf a == 0)) = false) → (c = 1 → ((up == 0) != (dirOf a == 1)) = false) → ductuslaw11_NeutralLevels.j1 (k + 1) l a (l.map fun c => levelOf c a) (i : Int) up false = some true := by
      intro up h0 h1
      simp only [ductuslaw11_NeutralLevels.j1]
      rw [if_neg (by decide), if_pos (by omega), if_pos (by omega), rd_get l i hil, ← hc]
      simp only [hw, rdir_eq, Option.bind_some]
      by_cases c0 : c = 0
      · rw [if_pos c0, if_neg (by rw [c0, h0 c0]; decide)]
        exact next
      · rw [if_neg c0]
        by_cases c1 : c = 1
        · rw [if_pos c1, if_neg (by rw [c1, h1 c1]; decide)]
          exact next
        · rw [if_neg c1]
          exact next
    simp only [ductuslaw11_NeutralLevels.l0]
    rw [if_pos (by omega), if_pos (by omega), if_pos (by simp; omega)]
    simp only [hr, rd_get l i hil, ← hc, hw]
    have hd2 : dirOf a = a % 2 := by
      unfold dirOf
      split <;> omega
    by_cases c0 : c = 0
    · have e : levelOf c a = a + a % 2 := by
        unfold levelOf
        rw [if_pos c0, wrap_id (by omega) (by omega)]
      have e2 : wrap64 (a + a % 2 - a) = a % 2 := by
        rw [wrap_id (by omega) (by omega)]
        omega
      simp only [e, e2, tm (a + a % 2) (by omega)]
      rw [if_neg (by omega), if_neg (by omega), if_pos c0, if_pos (by omega), if_neg (by omega), if_neg (by omega), if_neg (by omega)]
      refine j1 _ (fun _ => ?_) (fun h => by omega)
      rw [hd2]
      have : a % 2 = 0 ∨ a % 2 = 1 := by omega
      rcases this with h | h <;> rw [h] <;> decide
    · by_cases c1 : c = 1
      · have e : levelOf c a = a + 1 - a % 2 := by
          unfold levelOf
          rw [if_neg c0, if_pos c1, wrap_id (by omega) (by omega)]
        have e2 : wrap64 (a + 1 - a % 2 - a) = 1 - a % 2 := by
          rw [wrap_id (by omega) (by omega)]
          omega
        simp only [e, e2, tm (a + 1 - a % 2) (by omega)]
        rw [if_neg (by omega), if_neg (by omega), if_neg c0, if_pos c1, if_pos (by omega), if_neg (by omega), if_neg (by omega)]
        refine j1 _ (fun h => by omega) (fun _ => ?_)
        rw [hd2]
        have : a % 2 = 0 ∨ a % 2 = 1 := by omega
        rcases this with h | h <;> rw [h] <;> decide
      · by_cases c3 : c = 3 ∨ c = 6
        · have e : levelOf c a = a + 2 - a % 2 := by
            unfold levelOf
            rw [if_neg c0, if_neg c1, if_pos c3, wrap_id (by omega) (by omega)]
          have e2 : wrap64 (a + 2 - a % 2 - a) = 2 - a % 2 := by
            rw [wrap_id (by omega) (by omega)]
            omega
          have e3 : (2 - a % 2 == 0) = false := by
            rw [beq_eq_false_iff_ne]
            omega
          simp only [e, e2, tm (a + 2 - a % 2) (by omega), e3]
          rw [if_neg (by omega), if_neg (by omega), if_neg c0, if_neg c1]
          have j := j1 (2 - a % 2) (fun h => by omega) (fun h => by omega)
          by_cases h3 : c = 3
          · rw [if_pos h3, if_pos (by omega)]
            exact j
          · rw [if_neg h3, if_pos (by omega), if_pos (by omega)]
            exact j
        · have e : levelOf c a = a := by
            unfold levelOf
            rw [if_neg c0, if_neg c1, if_neg c3]
          have e2 : wrap64 (a - a) = 0 := by
            rw [Int.sub_self]
            exact wrap_id (by omega) (by omega)
          simp only [e, e2]
          rw [if_neg (by omega), if_neg (by omega), if_neg c0, if_neg c1, if_neg (by omega), if_neg (by omega)]
          exact j1 _ (fun h => by omega) (fun h => by omega)
theorem NeutralLevels : ductuslaw11_NeutralLevels.Pure := by
  intro l a hm hl hw wa
  have ha := wf8 wa
  refine ⟨2 * l.length + 100, ?_⟩
  unfold ductuslaw11_NeutralLevels.f
  rw [alive11l _ (by omega)]
  simp only [Option.bind_some, if_true]
  by_cases h : (l.length : Int) > 500
  · rw [if_pos h]
  · rw [if_neg h]
    rw [wrap_id (by omega) (by omega), levels_eq _ l a (by omega) (by omega) (by omega) (by omega)]
    simp only [Option.bind_some]
    rw [if_pos (by simp)]
    exact levels_law l a ha (by omega) l.length _ 0 (by omega) (by omega) (by omega)
end Go.Proofs.Ytcmndocfadhonaa.Pure
