/- Proved: the pure statement of the law NormSpans, that the Lean functions printed for it answer true for every input; no condition beyond the statement's own. -/
import Derived.Test.YtmgagebjdldenaaPx12
import Derived.Test.YtmgagebjdldenaaPNorm
namespace Go.Proofs.Ytmgagebjdldenaa.Pure
open Go.RowKit Go.Proofs.Ytmgagebjdldenaa.P Go.Proofs.YtmgagebjdldenaaW.PrintWords Go.Proofs.YtmgagebjdldenaaW.PrintLast Go.Proofs.YtmgagebjdldenaaW.PrintMore
set_option linter.unusedVariables false
set_option linter.unusedSimpArgs false

theorem alive23s (k : Nat) (hk : 200 ≤ k) : ductuslaw23_alive.f k = some true := more ductuslaw23_alive.mono 200 k hk _ (by decide +kernel)
theorem wf16 {x : Int} (h : (Lit.int .u16 x).wf = true) : 0 ≤ x ∧ x ≤ 65535 := by
  have hmin : IntKind.u16.min = 0 := rfl
  have hmax : IntKind.u16.max = 65535 := rfl
  simp only [Lit.wf, Bool.and_eq_true, decide_eq_true_eq] at h
  omega
theorem mod_bound (x : Int) (hx : 0 ≤ x ∧ x ≤ 65535) (n : Nat) (hn : n ≤ 4000) : ∃ m : Nat, Int.tmod (wrap64 x) (wrap64 ((n : Int) + 1)) = (m : Int) ∧ m ≤ n := by
  rw [wrap_id (x := x) (by omega) (by omega), wrap_id (x := (n : Int) + 1) (by omega) (by omega), Int.tmod_eq_emod_of_nonneg hx.1]
  have h0 := Int.emod_nonneg x (show (n : Int) + 1 ≠ 0 by omega)
  have h1 := Int.emod_lt_of_pos x (show (0 : Int) < (n : Int) + 1 by omega)
  exact ⟨(x % ((n : Int) + 1)).toNat, by omega, by omega⟩
theorem mn_nat (a b : Nat) : mn (a : Int) (b : Int) = ((min a b : Nat) : Int) := by
  unfold mn
  split <;> omega
theorem mx_nat (a b : Nat) : mx (a : Int) (b : Int) = ((max a b : Nat) : Int) := by
  unfold mx
  split <;> omega
theorem span_of (flags : Int) (l : List Int) (m n : Nat) (hmn : m ≤ n) (hn : n ≤ (l.filter nctl).length) (hl : l.length ≤ 4000) :
    ∃ s t : Nat, backOf (plcs l) (m : Int) (n : Int) = ((s : Int), (t : Int), true) ∧ s ≤ t ∧ t ≤ l.length ∧ (s = t ↔ m = n) ∧ chrs flags ((l.take t).drop s) = ((chrs flags l).take n).drop m ∧ (s : Int) = rd (plcs l) (m : Int) ∧
      (m < n → ctl (rd l (s : Int)) = false ∧ ctl (rd l ((t : Int) - 1)) = false) := by
  have hpl := plcs_len l
  have hin : ∀ i : Nat, i ≤ (l.filter nctl).length → 0 ≤ rd (plcs l) (i : Int) ∧ rd (plcs l) (i : Int) ≤ (l.length : Int) := by
    intro i hi
    rw [rd_get _ i (by omega)]
    exact plcs_in l _ (List.getElem_mem _)
  unfold backOf
  rw [if_pos (by omega)]
  have hm := hin m (by omega)
  by_cases h : m = n
  · subst h
    refine ⟨(rd (plcs l) (m : Int)).toNat, (rd (plcs l) (m : Int)).toNat, ?_, Nat.le_refl _, by omega, ⟨fun _ => rfl, fun _ => rfl⟩, ?_, by omega, fun h => by omega⟩
    · rw [if_neg (by omega)]
      congr 1
      · omega
      · congr 1
        omega
    · rw [List.drop_eq_nil_of_le (by rw [List.length_take]; omega), List.drop_eq_nil_of_le (by rw [List.length_take]; omega)]
      rfl
  · have hlt := plcs_lt l m (by omega)
    have hn1 := plcs_lt l (n - 1) (by omega)
    have hle : rd (plcs l) (m : Int) ≤ rd (plcs l) ((n - 1 : Nat) : Int) := by
      by_cases e : m = n - 1
      · rw [e]
        omega
      · have := plcs_mono l m (n - 1) (by omega) (by omega)
        omega
    have e1 : (n : Int) - 1 = ((n - 1 : Nat) : Int) := by omega
    refine ⟨(rd (plcs l) (m : Int)).toNat, (rd (plcs l) ((n - 1 : Nat) : Int)).toNat + 1, ?_, by omega, by omega, by omega, ?_, by omega, fun _ => ⟨?_, ?_⟩⟩
    · rw [if_pos (by omega), e1, wrap_id (by omega) (by omega)]
      congr 1
      · omega
      · congr 1
        omega
    · have hpm : (placesOf nctl 0 l)[m]? = some (rd (plcs l) (m : Int)) := by
        rw [plcs_at l m (by omega), List.getElem?_eq_getElem]
      have hpn : (placesOf nctl 0 l)[n - 1]? = some (rd (plcs l) ((n - 1 : Nat) : Int)) := by
        rw [plcs_at l (n - 1) (by omega), List.getElem?_eq_getElem]
      have t1 := (take_place nctl l 0 m _ hpm).1
      have t2 := (take_place nctl l 0 (n - 1) _ hpn).2.1
      simp only [Nat.sub_zero] at t1 t2
      rw [show n - 1 + 1 = n by omega] at t2
      unfold chrs
      rw [mid_filter nctl l _ _ m n (by omega) hmn hn t1 t2, List.map_drop, List.map_take]
    · rw [show (((rd (plcs l) (m : Int)).toNat : Nat) : Int) = rd (plcs l) (m : Int) by omega]
      exact plcs_nctl l m (by omega)
    · rw [show ((((rd (plcs l) ((n - 1 : Nat) : Int)).toNat + 1 : Nat) : Int) - 1) = rd (plcs l) ((n - 1 : Nat) : Int) by omega]
      exact plcs_nctl l (n - 1) (by omega)
theorem NormSpans : ductuslaw23_NormSpans.Pure := by
  intro l a x y hm hl hw wa wx wy
  have hx := wf16 wx
  have hy := wf16 wy
  refine ⟨10 * l.length + 500, ?_⟩
  unfold ductuslaw23_NormSpans.f
  rw [alive23s _ (by omega)]
  simp only [Option.bind_some, if_true]
  by_cases h : (l.length : Int) > 2000
  · rw [if_pos h]
  · rw [if_neg h, norm_of_eq _ l (wrap64 a) (by omega) (by omega)]
    have hf := filter_len l
    have hcl := chrs_len (wrap64 a) l
    have hpl := plcs_len l
    simp only [Option.bind_some]
    rw [if_neg (by omega), if_neg (by rw [wrap_id (by omega) (by omega)]; omega)]
    obtain ⟨m, em, hmn⟩ := mod_bound x hx (chrs (wrap64 a) l).length (by omega)
    obtain ⟨n, en, hnn⟩ := mod_bound y hy (chrs (wrap64 a) l).length (by omega)
    rw [em, en, mn_nat, mx_nat]
    have hle : min m n ≤ max m n := by omega
    obtain ⟨s, t, hb, hst, htl, hiff, hpart, hs, hends⟩ := span_of (wrap64 a) l (min m n) (max m n) hle (by omega) (by omega)
    rw [back_eq _ (by omega), hb]
    simp only [Option.bind_some, if_true]
    rw [if_neg (by omega), if_neg (by omega), if_neg (by omega)]
    obtain ⟨k, hk⟩ : ∃ k, 10 * l.length + 500 = k + 1 := ⟨10 * l.length + 499, by omega⟩
    rw [hk]
    have he : (((s : Int) == (t : Int)) != ((m : Int) == (n : Int))) = false := by
      by_cases q : s = t
      · have : m = n := by
          have := hiff.1 q
          omega
        simp [q, this]
      · have : m ≠ n := fun e => q (hiff.2 (by omega))
        have e1 : ((s : Int) == (t : Int)) = false := by rw [beq_eq_false_iff_ne]; omega
        have e2 : ((m : Int) == (n : Int)) = false := by rw [beq_eq_false_iff_ne]; omega
        rw [e1, e2]
        rfl
    simp only [he, ductuslaw23_NormSpans.j0]
    rw [if_neg (by decide), if_pos (by omega), if_pos (by omega), if_pos (by omega), Int.toNat_natCast, Int.toNat_natCast, norm_of_eq k _ (wrap64 a) (by rw [List.length_drop, List.length_take]; omega) (by rw [List.length_drop, List.length_take]; omega), mn_nat, mx_nat]
    simp only [Option.bind_some]
    rw [if_pos (by omega), if_pos (by omega), if_pos (by omega), Int.toNat_natCast, Int.toNat_natCast, hpart, ints_same k _ (by rw [List.length_drop, List.length_take]; omega) (by rw [List.length_drop, List.length_take]; omega)]
    simp only [Option.bind_some, if_true]
    rw [ahead_eq k (plcs l) _ (by omega) (by omega), hs, ahead_place l (min m n) (by omega)]
    simp only [Option.bind_some, if_true]
    by_cases q : (m : Int) = (n : Int)
    · rw [if_pos q]
    · rw [if_neg q, ← hs]
      obtain ⟨e1, e2⟩ := hends (by omega)
      have hlt : s < t := by
        have : s ≠ t := fun e => by have := hiff.1 e; omega
        omega
      rw [if_pos (by omega), control_eq k (by omega), e1]
      simp only [Option.bind_some]
      rw [if_neg (by decide), wrap_id (by omega) (by omega), if_pos (by omega), if_pos (by omega), control_eq k (by omega), e2]
      simp only [Option.bind_some, Bool.not_false]
end Go.Proofs.Ytmgagebjdldenaa.Pure
