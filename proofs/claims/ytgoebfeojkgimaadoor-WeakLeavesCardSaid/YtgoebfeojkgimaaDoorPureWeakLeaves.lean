/- Proved: the pure statement of the law WeakLeaves, that the Lean functions printed for it answer true for every input; no condition beyond the statement's own. -/
import Derived.Test.YtgoebfeojkgimaaDoorPx5
import Derived.Test.YtgoebfeojkgimaaDoorPWkR
namespace Go.Proofs.YtgoebfeojkgimaaDoor.Pure
open Go.RowKit Go.Proofs.YtgoebfeojkgimaaDoor.P Go.Proofs.YtgoebfeojkgimaaDoorW.PrintWords Go.Proofs.YtgoebfeojkgimaaDoorW.PrintLast Go.Proofs.YtgoebfeojkgimaaDoorW.PrintMore
set_option linter.unusedVariables false
set_option linter.unusedSimpArgs false

/-- What is asked of a class and what it becomes. -/
def LeafP (a b : Int) : Prop := (b ≠ 8 ∧ b ≠ 2 ∧ b ≠ 4 ∧ b ≠ 5 ∧ b ≠ 7 ∧ 0 ≤ b ∧ b ≤ 22) ∧ (a = 0 → b = 0) ∧ (a = 1 → b = 1) ∧ (a = 2 → b = 1) ∧ (10 ≤ a → a ≤ 22 → b = a) ∧ (a = 6 → b = 6)
theorem swap_iff {t : Int} {f : List Int} {a b : Int} (h : SwapP t f a b) : (a ∈ f → b = t) ∧ (a ∉ f → b = a) := by
  unfold SwapP at h
  constructor
  · intro hm
    rw [h, if_pos hm]
  · intro hm
    rw [h, if_neg hm]
theorem leaf_fact {a p m1 m2 m3 m4 m5 m6 m7 : Int} (hp : PlainP a p) (h1 : MarkP p m1) (h2 : BecP 3 6 m1 m2) (h3 : SwapP 1 [2] m2 m3) (h4 : PartP m3 m4) (h5 : BecP 5 3 m4 m5) (h6 : SwapP 13 [4, 5, 7] m5 m6) (h7 : BecP 3 0 m6 m7) : LeafP a m7 := by
  have A0 : (0 ≤ a → a ≤ 22 → p = a) ∧ 0 ≤ p ∧ p ≤ 22 := by
    refine ⟨fun x y => ?_, hp.rng⟩
    unfold PlainP at hp
    rw [hp, if_neg (noK_in ⟨x, y⟩)]
  have A1 : (m1 ≠ 8 ∧ 0 ≤ m1 ∧ m1 ≤ 22) ∧ (a = 0 → m1 = 0) ∧ (a = 1 → m1 = 1) ∧ (a = 2 → m1 = 2) ∧ (10 ≤ a → a ≤ 22 → m1 = a) ∧ (a = 6 → m1 = 6) := by
    obtain ⟨q1, q2, q3⟩ := h1
    omega
  have A2 : (m2 ≠ 8 ∧ 0 ≤ m2 ∧ m2 ≤ 22) ∧ (a = 0 → m2 = 0) ∧ (a = 1 → m2 = 1) ∧ (a = 2 → m2 = 2) ∧ (10 ≤ a → a ≤ 22 → m2 = a) ∧ (a = 6 → m2 = 6) := by
    rcases h2 with h | h
    · subst h
      exact A1
    · omega
  have A3 : (m3 ≠ 8 ∧ m3 ≠ 2 ∧ 0 ≤ m3 ∧ m3 ≤ 22) ∧ (a = 0 → m3 = 0) ∧ (a = 1 → m3 = 1) ∧ (a = 2 → m3 = 1) ∧ (10 ≤ a → a ≤ 22 → m3 = a) ∧ (a = 6 → m3 = 6) := by
    have := swap_iff h3
    simp only [List.mem_singleton] at this
    omega
  have A4 : (m4 ≠ 8 ∧ m4 ≠ 2 ∧ 0 ≤ m4 ∧ m4 ≤ 22) ∧ (a = 0 → m4 = 0) ∧ (a = 1 → m4 = 1) ∧ (a = 2 → m4 = 1) ∧ (10 ≤ a → a ≤ 22 → m4 = a) ∧ (a = 6 → m4 = 6) := by
    unfold PartP at h4
    rcases h4 with h | h
    · subst h
      exact A3
    · omega
  have A5 : (m5 ≠ 8 ∧ m5 ≠ 2 ∧ 0 ≤ m5 ∧ m5 ≤ 22) ∧ (a = 0 → m5 = 0) ∧ (a = 1 → m5 = 1) ∧ (a = 2 → m5 = 1) ∧ (10 ≤ a → a ≤ 22 → m5 = a) ∧ (a = 6 → m5 = 6) := by
    rcases h5 with h | h
    · subst h
      exact A4
    · omega
  have A6 : LeafP a m6 := by
    have := swap_iff h6
    simp only [List.mem_cons, List.not_mem_nil, or_false] at this
    unfold LeafP
    omega
  unfold LeafP at A6 ⊢
  rcases h7 with h | h
  · subst h
    exact A6
  · omega
theorem chain_leaf {l p r : List Int} {sos : Int} (hs : sos = 0 ∨ sos = 1) (hp : Step PlainP l p) (hc : Chain sos 1 7 p r) : r.length = l.length ∧ Rng r ∧ ∀ i : Nat, i < l.length → LeafP (rd l (i : Int)) (rd r (i : Int)) ∧ (rd r (i : Int) = 3 → strongM r sos i ≠ 0) := by
  obtain ⟨m1, _, s1, _, m2, _, s2, _, m3, _, s3, _, m4, _, s4, _, m5, _, s5, _, m6, _, s6, _, m7, _, s7, b7, hr⟩ := hc
  have hr : r = m7 := hr
  subst hr
  have hsd : sideM sos = sos := by
    unfold sideM
    split <;> omega
  have b7 : r = becomeM 3 0 0 sos m6 := by
    rw [← hsd]
    exact b7 rfl
  have l0 := hp.1
  have l1 := s1.1
  have l2 := s2.1
  have l3 := s3.1
  have l4 := s4.1
  have l5 := s5.1
  have l6 := s6.1
  have l7 := s7.1
  have hrng : Rng r := step_rng (step_rng (step_rng (step_rng (step_rng (step_rng (step_rng (plain_rng hp) s1) s2) s3) s4) s5) s6) s7
  refine ⟨by omega, hrng, fun i hi => ⟨leaf_fact (hp.2 i hi) (s1.2 i (by omega)) (s2.2 i (by omega)) (s3.2 i (by omega)) (s4.2 i (by omega)) (s5.2 i (by omega)) (s6.2 i (by omega)) (s7.2 i (by omega)), fun h3 => ?_⟩⟩
  rw [strongM_last r sos hrng i (by omega), b7, last_become sos m6 i (by omega)]
  rw [b7, becomeM_rd _ _ _ _ _ _ (by omega)] at h3
  intro e
  by_cases h : rd m6 (i : Int) = 3 ∧ lastM m6 sos i = 0
  · rw [if_pos h] at h3
    omega
  · rw [if_neg h] at h3
    exact h ⟨h3, e⟩
theorem leaf_loop (l r : List Int) (sos : Int) (hs : sos = 0 ∨ sos = 1) (hl : l.length ≤ 200) (hlen : r.length = l.length) (H : ∀ i : Nat, i < l.length → LeafP (rd l (i : Int)) (rd r (i : Int)) ∧ (rd r (i : Int) = 3 → strongM r sos i ≠ 0)) (d : Nat) : ∀ i : Nat, i + d = l.length → Ev (fun k => ductuslaw09_WeakLeaves.l0 k l sos r (i : Int)) true := by
  induction d with
  | zero =>
    intro i hi
    refine ev_one fun k => ?_
    simp only [ductuslaw09_WeakLeaves.l0]
    rw [if_neg (by omega)]
  | succ d ih =>
    intro i hi
    have hw1 : wrap64 ((i : Int) + 1) = ((i + 1 : Nat) : Int) := wrap_succ i (by omega)
    have key := ih (i + 1) (by omega)
    obtain ⟨hL, hS⟩ := H i (by omega)
    have g1 : (i : Int) < (l.length : Int) := by omega
    have g2 : (0 : Int) ≤ (i : Int) := by omega
    have g3 : (i : Int) < (r.length : Int) := by omega
    generalize ha : rd l (i : Int) = a at hL
    generalize hb : rd r (i : Int) = b at hL hS
    obtain ⟨⟨n8, n2, n4, n5, n7, n0, n22⟩, q0, q1, q2, qn, q6⟩ := hL
    have j3 : Ev (fun k => ductuslaw09_WeakLeaves.j3 k l sos r (i : Int) b false) true := by
      by_cases h3 : b = 3
      · have hst := strong_ev r sos hs (by omega) i (by omega)
        refine ev_step2 key hst fun k hk hk2 => ?_
        simp only [ductuslaw09_WeakLeaves.j3]
        rw [if_neg (by simp), if_pos h3, hk2, Option.bind_some, if_neg (hS h3), hw1]
        exact hk
      · refine ev_step key fun k hk => ?_
        simp only [ductuslaw09_WeakLeaves.j3]
        rw [if_neg (by simp), if_neg h3, hw1]
        exact hk
    have j2 : Ev (fun k => ductuslaw09_WeakLeaves.j2 k l sos r (i : Int) b false) true := by
      refine ev_step j3 fun k hk => ?_
      simp only [ductuslaw09_WeakLeaves.j2]
      rw [if_neg (by simp), if_pos g2, if_pos g1, ha]
      by_cases a0 : a = 0
      · rw [if_pos a0, if_pos (q0 a0), if_neg (by omega), if_neg (by omega), if_neg (by omega), if_neg (by omega)]
        exact hk
      · rw [if_neg a0]
        by_cases a1 : a = 1
        · rw [if_pos a1, if_pos (q1 a1), if_neg (by omega), if_neg (by omega)]
          exact hk
        · rw [if_neg a1]
          by_cases a2 : a = 2
          · rw [if_pos a2, if_pos (q2 a2), if_neg (by omega), if_neg (by omega)]
            exact hk
          · rw [if_neg a2]
            have fin : (if a = 6 then (ductuslaw09_WeakLeaves.j3 k l sos r (i : Int) b (b != 6)) else (ductuslaw09_WeakLeaves.j3 k l sos r (i : Int) b false)) = some true := by
              by_cases a6 : a = 6
              · have e : (b != 6) = false := by
                  rw [q6 a6]
                  rfl
                rw [if_pos a6, e]
                exact hk
              · rw [if_neg a6]
                exact hk
            by_cases a10 : a ≥ 10
            · rw [if_pos a10]
              by_cases a22 : a ≤ 22
              · rw [if_pos a22, if_pos (qn a10 a22)]
                exact fin
              · rw [if_neg a22]
                exact fin
            · rw [if_neg a10]
              exact fin
    refine ev_step j2 fun k hk => ?_
    simp only [ductuslaw09_WeakLeaves.l0]
    rw [if_pos g1, if_pos g2, if_pos g3, hb, if_neg n8, if_neg n2, if_neg n4, if_neg n5, if_neg n7, if_neg (by omega), decide_eq_false (show ¬ b > 22 by omega)]
    exact hk
theorem leaf_j0 (l : List Int) (sos : Int) (hs : sos = 0 ∨ sos = 1) (hl : l.length ≤ 200) : Ev (fun k => ductuslaw09_WeakLeaves.j0 k l sos) true := by
  obtain ⟨p, r, _, sp, hc, he⟩ := of_ev l (by omega) sos
  obtain ⟨h1, h2, h3⟩ := chain_leaf hs sp hc
  have h4 := leaf_loop l r sos hs hl h1 h3 l.length 0 (by omega)
  refine ev_step2 he h4 fun k hk hk2 => ?_
  simp only [ductuslaw09_WeakLeaves.j0]
  rw [hk, Option.bind_some, if_pos (by omega)]
  exact hk2
theorem WeakLeaves : ductuslaw09_WeakLeaves.Pure := by
  intro l b hm hl hw
  refine Ev.rounds ?_
  by_cases h : (l.length : Int) > 200
  · refine ev_same alive09 fun k hk => ?_
    unfold ductuslaw09_WeakLeaves.f
    rw [hk, Option.bind_some, if_pos rfl, if_pos h]
  · cases b with
    | true =>
      refine ev_same2 alive09 (leaf_j0 l 1 (.inr rfl) (by omega)) fun k hk hk2 => ?_
      unfold ductuslaw09_WeakLeaves.f
      rw [hk, Option.bind_some, if_pos rfl, if_neg h, if_pos rfl]
      exact hk2
    | false =>
      refine ev_same2 alive09 (leaf_j0 l 0 (.inl rfl) (by omega)) fun k hk hk2 => ?_
      unfold ductuslaw09_WeakLeaves.f
      rw [hk, Option.bind_some, if_pos rfl, if_neg h, if_neg (by simp)]
      exact hk2
end Go.Proofs.YtgoebfeojkgimaaDoor.Pure
