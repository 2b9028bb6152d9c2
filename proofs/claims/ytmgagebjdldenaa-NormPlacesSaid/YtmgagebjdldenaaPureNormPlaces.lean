/- Proved: the pure statement of the law NormPlaces, that the Lean functions printed for it answer true for every input; no condition beyond the statement's own. -/
import Derived.Test.YtmgagebjdldenaaPx11
import Derived.Test.YtmgagebjdldenaaPNorm
namespace Go.Proofs.Ytmgagebjdldenaa.Pure
open Go.RowKit Go.Proofs.Ytmgagebjdldenaa.P Go.Proofs.YtmgagebjdldenaaW.PrintWords Go.Proofs.YtmgagebjdldenaaW.PrintLast Go.Proofs.YtmgagebjdldenaaW.PrintMore
set_option linter.unusedVariables false
set_option linter.unusedSimpArgs false

attribute [local irreducible] chrs plcs ctl nctl tr
theorem alive23p (k : Nat) (hk : 200 ≤ k) : ductuslaw23_alive.f k = some true := more ductuslaw23_alive.mono 200 k hk _ (by decide +kernel)
theorem and_three (a : Int) (h : 0 ≤ a ∧ a ≤ 255) (h3 : Go.bits .and .u8 a 3 = 0) : Go.bits .and .i64 a 1 = 0 ∧ Go.bits .and .i64 a 2 = 0 := by
  have key : ∀ n < 256, Go.bits .and .u8 ((n : Nat) : Int) 3 = 0 → Go.bits .and .i64 ((n : Nat) : Int) 1 = 0 ∧ Go.bits .and .i64 ((n : Nat) : Int) 2 = 0 := by decide +kernel
  have := key a.toNat (by omega)
  rw [show ((a.toNat : Nat) : Int) = a by omega] at this
  exact this h3
theorem wf8 {x : Int} (h : (Lit.int .u8 x).wf = true) : 0 ≤ x ∧ x ≤ 255 := by
  have hmin : IntKind.u8.min = 0 := rfl
  have hmax : IntKind.u8.max = 255 := rfl
  simp only [Lit.wf, Bool.and_eq_true, decide_eq_true_eq] at h
  omega
attribute [local semireducible] tr in
theorem tr_one (flags c : Int) : tr flags c = c ∨ tr flags c = foldc c ∨ tr flags c = mir c := by
  have h2 : ∀ c, mn (foldc c) (mir (foldc c)) = c ∨ mn (foldc c) (mir (foldc c)) = foldc c ∨ mn (foldc c) (mir (foldc c)) = mir c := by
    refine by_fkeys _ (by decide +kernel) fun c h => ?_
    rw [fold_out h]
    unfold mn
    split <;> first | exact .inl rfl | exact .inr (.inr rfl)
  have h1 : mn c (mir c) = c ∨ mn c (mir c) = foldc c ∨ mn c (mir c) = mir c := by
    unfold mn
    split <;> first | exact .inl rfl | exact .inr (.inr rfl)
  unfold tr trM trF
  split <;> split
  · exact .inl rfl
  · exact .inr (.inl rfl)
  · exact h1
  · exact h2 c
theorem cnt_loop (l : List Int) (a : Int) (hn : l.length ≤ 2000) (x5 : List Int) (hx : x5 = chrs (wrap64 a) l) (d : Nat) : ∀ (k i n : Nat), i ≤ l.length → l.length - i = d → d + 2 * l.length + 200 < k → n ≤ i → n + (l.drop i).countP ctl = l.countP ctl →
    ductuslaw23_NormPlaces.l1 k l a x5 (n : Int) (i : Int) = some true := by
  have hf := filter_len l
  have hcl : x5.length = (l.filter nctl).length := by rw [hx, chrs_len]
  induction d with
  | zero =>
    intro k i n hi hd hk hni hc
    obtain ⟨k, rfl⟩ : ∃ m, k = m + 1 := ⟨k - 1, by omega⟩
    simp only [ductuslaw23_NormPlaces.l1]
    rw [List.drop_eq_nil_of_le (by omega)] at hc
    have h0 := cnt_ctl l
    simp only [List.countP_nil] at hc
    have e : chrs (wrap64 a) x5 = x5 := by rw [hx]; exact chrs_twice _ _
    have e2 : wrap64 ((n : Int) + (x5.length : Int)) = (l.length : Int) := by rw [wrap_id (by omega) (by omega)]; omega
    rw [if_neg (by omega), norm_of_eq k x5 (wrap64 a) (by omega) (by omega), Option.bind_some, if_pos e2]
    show (ductusref01_Ints.f k (chrs (wrap64 a) x5) x5).bind (fun t => some t) = some true
    rw [e, ints_same k x5 (by omega) (by omega), Option.bind_some]
  | succ d ih =>
    intro k i n hi hd hk hni hc
    obtain ⟨k, rfl⟩ : ∃ m, k = m + 1 := ⟨k - 1, by omega⟩
    simp only [ductuslaw23_NormPlaces.l1]
    rw [drop_cons l i (by omega), List.countP_cons] at hc
    rw [if_pos (by omega), if_pos (by omega), control_eq k (by omega), Option.bind_some, wrap_succ i (by omega)]
    by_cases h : ctl (rd l (i : Int)) = true
    · rw [if_pos h] at hc
      rw [if_pos h, wrap_succ n (by omega)]
      exact ih k (i + 1) (n + 1) (by omega) (by omega) (by omega) (by omega) (by omega)
    · rw [if_neg h] at hc
      rw [if_neg h]
      exact ih k (i + 1) n (by omega) (by omega) (by omega) (by omega) (by omega)
theorem pl_loop (l : List Int) (a : Int) (ha : 0 ≤ a ∧ a ≤ 255) (hn : l.length ≤ 2000) (d : Nat) : ∀ (k i : Nat), i ≤ (l.filter nctl).length → (l.filter nctl).length - i = d → 2 * d + 4 * l.length + 300 < k →
    ductuslaw23_NormPlaces.l0 k l a (chrs (wrap64 a) l) (plcs l) (i : Int) = some true := by
  have hf := filter_len l
  have hcl := chrs_len (wrap64 a) l
  have hpl := plcs_len l
  induction d with
  | zero =>
    intro k i hi hd hk
    obtain ⟨k, rfl⟩ : ∃ m, k = m + 1 := ⟨k - 1, by omega⟩
    simp only [ductuslaw23_NormPlaces.l0]
    rw [if_neg (by omega)]
    exact cnt_loop l a hn _ rfl l.length k 0 0 (by omega) (by omega) (by omega) (by omega) (by simp)
  | succ d ih =>
    intro k i hi hd hk
    obtain ⟨k, rfl⟩ : ∃ m, k = m + 2 := ⟨k - 2, by omega⟩
    have hilt : i < (l.filter nctl).length := by omega
    have hp := plcs_lt l i hilt
    have hno := plcs_nctl l i hilt
    have hah := ahead_place l i (by omega)
    have hch := chrs_at (wrap64 a) l i hilt
    have next := ih k (i + 1) (by omega) (by omega) (by omega)
    rw [← wrap_succ i (by omega)] at next
    have j2 : ductuslaw23_NormPlaces.j2 (k + 1) l a (chrs (wrap64 a) l) (plcs l) (i : Int) false = some true := by
      simp only [ductuslaw23_NormPlaces.j2]
      rw [if_neg (by decide), if_pos (by omega), if_pos (by omega), if_pos hp.1, if_pos hp.2, if_pos (by omega)]
      obtain ⟨c, hc⟩ : ∃ c, c = rd l (rd (plcs l) (i : Int)) := ⟨_, rfl⟩
      rw [hch, ← hc]
      by_cases e : tr (wrap64 a) c = c
      · rw [if_pos e]
        split
        · exact next
        · exact next
      · rw [if_neg e, rfold_eq k (by omega)]
        have h3 : ¬ Go.bits .and .u8 a 3 = 0 := by
          intro h3
          obtain ⟨h1, h2⟩ := and_three a ha h3
          refine e ?_
          rw [wrap_id (by omega) (by omega)]
          unfold tr trM trF
          rw [if_pos h2, if_pos h1]
        simp only [Option.bind_some]
        by_cases e2 : tr (wrap64 a) c = foldc c
        · rw [if_pos e2, if_neg h3]
          exact next
        · rw [if_neg e2, rmirror_eq k (by omega)]
          simp only [Option.bind_some]
          rcases tr_one (wrap64 a) c with q | q | q
          · exact absurd q e
          · exact absurd q e2
          · rw [if_pos q, if_neg h3]
            exact next
    simp only [ductuslaw23_NormPlaces.l0]
    rw [if_pos (by omega), if_pos (by omega), if_pos (by omega), if_neg (by omega), if_neg (by omega), if_pos hp.1, if_pos hp.2, control_eq (k + 1) (by omega), hno, ahead_eq (k + 1) (plcs l) _ (by omega) (by omega), hah]
    simp only [Option.bind_some, bne_self_eq_false, j2]
    by_cases h0 : i = 0
    · subst h0
      rfl
    · have hm := plcs_mono l (i - 1) i (by omega) (by omega)
      have hw : wrap64 ((i : Int) - 1) = ((i - 1 : Nat) : Int) := by rw [wrap_id (by omega) (by omega)]; omega
      rw [if_pos (by omega), hw, if_pos (by omega), if_pos (by omega), if_neg (by omega)]
      rfl
theorem NormPlaces : ductuslaw23_NormPlaces.Pure := by
  intro l a hm hl hw wa
  have ha := wf8 wa
  obtain ⟨k, hk⟩ : ∃ k, k = 10 * l.length + 499 := ⟨_, rfl⟩
  refine ⟨k + 1, ?_⟩
  unfold ductuslaw23_NormPlaces.f
  rw [alive23p _ (by omega), Option.bind_some, if_pos rfl]
  by_cases h : (l.length : Int) > 2000
  · rw [if_pos h]
  · rw [if_neg h, norm_of_eq _ l (wrap64 a) (by omega) (by omega), Option.bind_some]
    have hf := filter_len l
    have hcl := chrs_len (wrap64 a) l
    have hpl := plcs_len l
    have e : rd (plcs l) ((chrs (wrap64 a) l).length : Int) = (l.length : Int) := by
      rw [hcl]
      exact plcs_end l
    have e1 : ((plcs l).length : Int) = wrap64 (((chrs (wrap64 a) l).length : Int) + 1) := by
      rw [wrap_id (by omega) (by omega)]
      omega
    have main := pl_loop l a ha (by omega) (l.filter nctl).length k 0 (by omega) (by omega) (by omega)
    show (if ((plcs l).length : Int) = wrap64 (((chrs (wrap64 a) l).length : Int) + 1) then (if 0 ≤ ((chrs (wrap64 a) l).length : Int) then (if ((chrs (wrap64 a) l).length : Int) < ((plcs l).length : Int) then ductuslaw23_NormPlaces.j0 (k + 1) l a (chrs (wrap64 a) l) (plcs l) (rd (plcs l) ((chrs (wrap64 a) l).length : Int) != (l.length : Int)) else none) else none) else none) = some true
    rw [if_pos e1, if_pos (by omega), if_pos (by omega), e, bne_self_eq_false]
    have j : ∀ x5 x6 : List Int, ductuslaw23_NormPlaces.j0 (k + 1) l a x5 x6 false = ductuslaw23_NormPlaces.l0 k l a x5 x6 0 := by
      intro x5 x6
      simp only [ductuslaw23_NormPlaces.j0]
      exact if_neg (by decide)
    rw [j]
    exact main
end Go.Proofs.Ytmgagebjdldenaa.Pure
