/- Proved: the pure statement of the law NeutralGroups, that the Lean functions printed for it answer true for every input; no condition beyond the statement's own. -/
import Derived.Test.YtcmndocfadhonaaPx9
import Derived.Test.YtcmndocfadhonaaPNeutRef
namespace Go.Proofs.Ytcmndocfadhonaa.Pure
open Go.RowKit Go.Proofs.Ytcmndocfadhonaa.P Go.Proofs.YtcmndocfadhonaaW.PrintWords Go.Proofs.YtcmndocfadhonaaW.PrintLast Go.Proofs.YtcmndocfadhonaaW.PrintMore
set_option linter.unusedVariables false
set_option linter.unusedSimpArgs false

theorem alive11p (k : Nat) (hk : 60 ≤ k) : ductuslaw11_alive.f k = some true := more ductuslaw11_alive.mono 60 k hk _ (by decide +kernel)
theorem cnt_loop (l : List Int) (hn : l.length ≤ 500) (d : Nat) : ∀ (k i c : Nat), i ≤ l.length → l.length - i = d → d < k → c + cntN (l.drop i) = cntN l → c ≤ i → ductuslaw11_NeutralGroups.l2 k l (cntN l : Int) (c : Int) (i : Int) = some true := by
  induction d with
  | zero =>
    intro k i c hi hd hk hc hci
    obtain ⟨k, rfl⟩ : ∃ m, k = m + 1 := ⟨k - 1, by omega⟩
    simp only [ductuslaw11_NeutralGroups.l2]
    rw [List.drop_eq_nil_of_le (by omega)] at hc
    have : cntN [] = 0 := rfl
    rw [if_neg (by omega), show (c : Int) = (cntN l : Int) by omega, beq_self_eq_true]
  | succ d ih =>
    intro k i c hi hd hk hc hci
    obtain ⟨k, rfl⟩ : ∃ m, k = m + 1 := ⟨k - 1, by omega⟩
    simp only [ductuslaw11_NeutralGroups.l2]
    rw [if_pos (by omega), if_pos (by omega), rneutral_eq]
    simp only [Option.bind_some]
    rw [drop_cons l i (by omega)] at hc
    rw [wrap_succ i (by omega)]
    by_cases hq : neuK (rd l (i : Int)) = true
    · have : cntN (rd l (i : Int) :: l.drop (i + 1)) = cntN (l.drop (i + 1)) + 1 := by simp [cntN, hq]
      rw [if_pos hq, wrap_succ c (by omega)]
      exact ih k (i + 1) (c + 1) (by omega) (by omega) (by omega) (by omega) (by omega)
    · have : cntN (rd l (i : Int) :: l.drop (i + 1)) = cntN (l.drop (i + 1)) := by simp [cntN, hq]
      rw [if_neg hq]
      exact ih k (i + 1) c (by omega) (by omega) (by omega) (by omega) (by omega)
theorem in_loop (l : List Int) (hn : l.length ≤ 500) (gs : List G11) (y : Nat) (hy : y < gs.length) (g : G11) (hg : rd_T38 gs (y : Int) = g) (hgood : goodG l.length g) (hin : ∀ i : Nat, ∀ h : i < l.length, holds g i → neuK l[i] = true) (r : Option Bool) (K c0 : Nat) (hc0 : c0 < 1000000)
    (hr : ∀ k, K ≤ k → ductuslaw11_NeutralGroups.l0 k l gs ((c0 : Nat) : Int) (wrap64 ((y : Int) + 1)) = r) (d : Nat) : ∀ (k p c : Nat), ((p + d : Nat) : Int) = g.f1 → g.f0 ≤ (p : Int) → c + d = c0 → K + d < k → ductuslaw11_NeutralGroups.l1 k l gs (c : Int) (y : Int) (p : Int) = r := by
  obtain ⟨g0, g1, g2⟩ := hgood
  induction d with
  | zero =>
    intro k p c hp h0 hc hk
    obtain ⟨k, rfl⟩ : ∃ m, k = m + 1 := ⟨k - 1, by omega⟩
    simp only [ductuslaw11_NeutralGroups.l1]
    rw [if_pos (by omega), if_pos (by omega), hg, if_neg (by omega)]
    obtain rfl : c = c0 := by omega
    exact hr k (by omega)
  | succ d ih =>
    intro k p c hp h0 hc hk
    obtain ⟨k, rfl⟩ : ∃ m, k = m + 1 := ⟨k - 1, by omega⟩
    have hpl : p < l.length := by omega
    simp only [ductuslaw11_NeutralGroups.l1]
    rw [if_pos (by omega), if_pos (by omega), hg, if_pos (by omega), if_pos (by omega), if_pos (by omega), rneutral_eq, rd_get l p hpl]
    simp only [Option.bind_some]
    rw [if_pos (hin p hpl ⟨h0, by omega⟩), wrap_succ p (by omega), wrap_succ c (by omega)]
    exact ih k (p + 1) (c + 1) (by omega) (by omega) (by omega) (by omega)
theorem out_loop (l : List Int) (hn : l.length ≤ 500) (gs : List G11) (hgs : gs = groupsOf l) (d : Nat) : ∀ (k i c : Nat), i ≤ gs.length → gs.length - i = d → d * (l.length + 3) + l.length + 5 < k → c + sumG (gs.drop i) = cntN l → ductuslaw11_NeutralGroups.l0 k l gs (c : Int) (i : Int) = some true := by
  have hgl := groups_len l
  have hcn : cntN l ≤ l.length := List.countP_le_length
  rw [← hgs] at hgl
  induction d with
  | zero =>
    intro k i c hi hd hk hc
    obtain ⟨k, rfl⟩ : ∃ m, k = m + 1 := ⟨k - 1, by omega⟩
    simp only [ductuslaw11_NeutralGroups.l0]
    rw [List.drop_eq_nil_of_le (by omega)] at hc
    have : sumG [] = 0 := rfl
    rw [if_neg (by omega), show (c : Int) = (cntN l : Int) by omega]
    exact cnt_loop l hn l.length k 0 0 (by omega) (by omega) (by omega) (by simp) (by omega)
  | succ d ih =>
    intro k i c hi hd hk hc
    have hmul : (d + 1) * (l.length + 3) = d * (l.length + 3) + (l.length + 3) := Nat.succ_mul _ _
    obtain ⟨k, rfl⟩ : ∃ m, k = m + 2 := ⟨k - 2, by omega⟩
    obtain ⟨g, hge⟩ : ∃ g, g = gs[i]'(by omega) := ⟨_, rfl⟩
    have hmem : g ∈ gs := by rw [hge]; exact List.getElem_mem _
    have hgood : goodG l.length g := groups_good l _ (by rw [← hgs]; exact hmem)
    have hin : ∀ j : Nat, ∀ h : j < l.length, holds g j → neuK l[j] = true := fun j h hh => (groups_mem l j h).1 ⟨_, by rw [← hgs]; exact hmem, hh⟩
    have hap : ∀ j : Nat, ∀ h : j + 1 = i, (gs[j]'(by omega)).f1 < g.f0 := by
      intro j h
      have hp : List.Pairwise (fun g h : G11 => g.f1 < h.f0) gs := by rw [hgs]; exact grp_apart l 0 none
      rw [hge]
      exact List.pairwise_iff_getElem.1 hp j i (by omega) (by omega) (by omega)
    have hrd := rdG gs i (by omega)
    rw [← hge] at hrd
    rw [dropG gs i (by omega), hrd] at hc
    obtain ⟨g0, g1, g2⟩ := hgood
    simp only [sumG] at hc
    have j1 : ductuslaw11_NeutralGroups.j1 (k + 1) l gs (c : Int) (i : Int) false = some true := by
      simp only [ductuslaw11_NeutralGroups.j1]
      rw [if_neg (by decide), if_pos (by omega), if_pos (by omega), hrd]
      have h0 : g.f0 = ((g.f0.toNat : Nat) : Int) := by omega
      rw [h0]
      refine in_loop l hn gs i (by omega) g hrd ⟨g0, g1, g2⟩ hin _ (d * (l.length + 3) + l.length + 6) (c + (g.f1 - g.f0).toNat) (by omega) (fun k hk => ?_) (g.f1 - g.f0).toNat k g.f0.toNat c (by omega) (by omega) rfl (by omega)
      rw [wrap_succ i (by omega)]
      exact ih k (i + 1) _ (by omega) (by omega) (by omega) (by omega)
    simp only [ductuslaw11_NeutralGroups.l0]
    rw [if_pos (by omega), if_pos (by omega), hrd, if_neg (by omega), if_neg (by omega), if_neg (by omega)]
    by_cases hi0 : i = 0
    · subst hi0
      rw [if_neg (by omega)]
      exact j1
    · have hw : wrap64 ((i : Int) - 1) = ((i - 1 : Nat) : Int) := by rw [wrap_id (by omega) (by omega)]; omega
      have := hap (i - 1) (by omega)
      rw [if_pos (by omega), hw, if_pos (by omega), if_pos (by omega), rdG gs (i - 1) (by omega), decide_eq_false (by omega)]
      exact j1
theorem NeutralGroups : ductuslaw11_NeutralGroups.Pure := by
  intro l hm hl hw
  refine ⟨(l.length + 10) * (l.length + 10) + 100, ?_⟩
  obtain ⟨k, hk⟩ : ∃ k, k = (l.length + 10) * (l.length + 10) + 100 := ⟨_, rfl⟩
  rw [← hk]
  have m3 : (l.length + 10) * (l.length + 10) ≥ (l.length + 10) * 2 := Nat.mul_le_mul (Nat.le_refl _) (by omega)
  have m4 : (l.length + 10) * (l.length + 10) = l.length * (l.length + 10) + 10 * (l.length + 10) := Nat.add_mul _ _ _
  unfold ductuslaw11_NeutralGroups.f
  rw [alive11p _ (by omega)]
  simp only [Option.bind_some, if_true]
  by_cases h : (l.length : Int) > 500
  · rw [if_pos h]
  · rw [if_neg h]
    have h5 : l.length ≤ 500 := by omega
    have hgl := groups_len l
    have m1 : (groupsOf l).length * (l.length + 3) ≤ (l.length + 1) * (l.length + 3) := Nat.mul_le_mul_right _ hgl
    have m2 : (l.length + 1) * (l.length + 3) ≤ (l.length + 8) * (l.length + 10) := Nat.mul_le_mul (by omega) (by omega)
    have m5 : (l.length + 8) * (l.length + 10) = l.length * (l.length + 10) + 8 * (l.length + 10) := Nat.add_mul _ _ _
    rw [groups_eq k l h5 (by omega)]
    simp only [Option.bind_some]
    have hsum : sumG (groupsOf l) = cntN l := by
      have := grp_sum l 0 none (fun a ha => by cases ha)
      unfold groupsOf
      simpa using this
    exact out_loop l h5 (groupsOf l) rfl (groupsOf l).length k 0 0 (by omega) (by omega) (by omega) (by rw [List.drop_zero, hsum]; omega)
end Go.Proofs.Ytcmndocfadhonaa.Pure
