/- Proved: the pure statement of the law LineWraps, that the Lean functions printed for it answer true for every input; no condition beyond the statement's own. -/
import Derived.Test.YtmjipbmpapcboaaPx30
import Derived.Test.YtmjipbmpapcboaaPLinePl
namespace Go.Proofs.Ytmjipbmpapcboaa.Pure
open Go.RowKit Go.Proofs.Ytmjipbmpapcboaa.P Go.Proofs.YtmjipbmpapcboaaW.PrintWords Go.Proofs.YtmjipbmpapcboaaW.PrintLast Go.Proofs.YtmjipbmpapcboaaW.PrintMore
set_option linter.unusedVariables false
set_option linter.unusedSimpArgs false

theorem alive13w : Ev (fun k => ductuslaw13_alive.f k) true := Ev.of ductuslaw13_alive.mono (k := 300) (by decide +kernel)
theorem wraps_loop (n w : Nat) (hn : 1 ≤ n) (hn2 : n ≤ 4000) (hw : 1 ≤ w) (hw2 : w ≤ 4000) (d : Nat) : ∀ (i : Nat), i ≤ (n - 1) / w + 1 → (n - 1) / w + 1 - i = d →
    Ev (fun k => ductuslaw13_LineWraps.l0 k (n : Int) (w : Int) (wrapN n w) (spansB 0 (wrapN n w)) (i : Int)) true := by
  have hb := wrapN_bd n w hn hw
  have hlen := wrapN_len n w
  have hsl : (spansB 0 (wrapN n w)).length = (n - 1) / w + 1 := by rw [spansB_len, hlen]
  have hq : (n - 1) / w ≤ n - 1 := Nat.div_le_self _ _
  obtain ⟨q, hqe⟩ : ∃ q, (n - 1) / w = q := ⟨_, rfl⟩
  rw [hqe] at hsl hlen hb hq
  rw [hqe]
  induction d with
  | zero =>
    intro i hi hd
    have hv := right_ev (wrapN n w) (n : Int) (by omega)
    rw [wrapN_valid n w hn hw] at hv
    have h0 := wrap_ev 0 (w : Int) (by omega)
    have e0 : wrapM 0 (w : Int) = [] := by
      unfold wrapM
      rw [if_pos (Or.inl (by decide))]
    rw [e0] at h0
    refine ev_step2 hv h0 fun k h1 h2 => ?_
    simp only [ductuslaw13_LineWraps.l0]
    rw [if_neg (by omega), h1, Option.bind_some, if_pos rfl, h2, Option.bind_some]
    rfl
  | succ d ih =>
    intro i hi hd
    have hsp := span_at (wrapN n w) 0 i (by omega)
    have hpr := wrapN_prev n w i (by omega)
    have hnext := ih (i + 1) (by omega) (by omega)
    by_cases h : i < q
    · have hr := wrapN_rd n w i (by omega)
      have e : (i + 1) * w = i * w + w := Nat.succ_mul i w
      have hle : (i + 1) * w ≤ q * w := Nat.mul_le_mul_right _ (by omega)
      refine ev_step hnext fun k hk => ?_
      simp only [ductuslaw13_LineWraps.l0]
      have e2 : wrap64 ((((i + 1) * w : Nat) : Int) - ((i * w : Nat) : Int)) = (w : Int) := by
        rw [wrap_id (by omega) (by omega)]
        omega
      have q1 : (i : Int) < ((spansB 0 (wrapN n w)).length : Int) := by clear e2; omega
      have q2 : (0 : Int) ≤ (i : Int) := Int.natCast_nonneg i
      rw [if_pos q1, if_pos q2, hsp, hpr, hr, e2, if_pos rfl, if_neg (Int.lt_irrefl _), wrap_succ i (by clear e2; omega)]
      exact hk
    · obtain rfl : i = q := by omega
      have hr : rd (wrapN n w) (i : Int) = (n : Int) := by
        rw [← hqe]
        exact wrapN_last n w
      refine ev_step hnext fun k hk => ?_
      simp only [ductuslaw13_LineWraps.l0]
      have q1 : (i : Int) < ((spansB 0 (wrapN n w)).length : Int) := by omega
      have q2 : (0 : Int) ≤ (i : Int) := Int.natCast_nonneg i
      have q3 : ¬ ((n : Int) - ((i * w : Nat) : Int)) > (w : Int) := by omega
      have q4 : ¬ (i : Int) < wrap64 (((spansB 0 (wrapN n w)).length : Int) - 1) := by
        rw [wrap_id (by omega) (by omega)]
        omega
      rw [if_pos q1, if_pos q2, hsp, hpr, hr]
      have hw3 : wrap64 ((n : Int) - ((i * w : Nat) : Int)) = (n : Int) - ((i * w : Nat) : Int) := wrap_id (by clear q4; omega) (by clear q4; omega)
      have hw4 : wrap64 ((i : Int) + 1) = ((i + 1 : Nat) : Int) := wrap_succ i (by clear q4 hw3; omega)
      dsimp only
      rw [hw3, hw4]
      by_cases hc : (n : Int) - ((i * w : Nat) : Int) = (w : Int)
      · rw [if_pos hc, if_neg q3]
        exact hk
      · rw [if_neg hc, if_neg q4, if_neg q3]
        exact hk
theorem u16_bd {x : Int} (h : (Lit.int .u16 x).wf = true) : 0 ≤ x ∧ x ≤ 65535 := by
  have hmin : IntKind.u16.min = 0 := rfl
  have hmax : IntKind.u16.max = 65535 := rfl
  simp only [Lit.wf, Bool.and_eq_true, decide_eq_true_eq] at h
  omega
theorem size_of (a : Int) (h : 0 ≤ a ∧ a ≤ 65535) : ∃ n : Nat, 1 ≤ n ∧ n ≤ 4000 ∧ wrap64 (1 + (Int.tmod (wrap64 a) 4000)) = (n : Int) := by
  have e1 : wrap64 a = a := wrap_id (by omega) (by omega)
  have e2 : Int.tmod a 4000 = a % 4000 := Int.tmod_eq_emod_of_nonneg h.1
  refine ⟨(1 + a % 4000).toNat, by clear e1; omega, by clear e1; omega, ?_⟩
  rw [e1, e2, wrap_id (by clear e1; omega) (by clear e1; omega)]
  clear e1
  omega
theorem LineWraps : ductuslaw13_LineWraps.Pure := by
  intro a b c wa wb wc
  obtain ⟨n, hn, hn2, en⟩ := size_of a (u16_bd wa)
  obtain ⟨w, hw, hw2, ew⟩ := size_of b (u16_bd wb)
  have hc := u16_bd wc
  obtain ⟨m, hm⟩ : ∃ m : Nat, c = (m : Int) := ⟨c.toNat, by omega⟩
  subst hm
  have e1 : wrapM (n : Int) (w : Int) = wrapN n w := by
    unfold wrapM
    rw [if_neg (by omega), Int.toNat_natCast, Int.toNat_natCast]
  have e2 : wrapM (n : Int) ((w + m : Nat) : Int) = wrapN n (w + m) := by
    unfold wrapM
    rw [if_neg (by omega), Int.toNat_natCast, Int.toNat_natCast]
  have h1 := wrap_ev (n : Int) (w : Int) (by omega)
  have h2 := wrap_ev (n : Int) ((w + m : Nat) : Int) (by omega)
  rw [e1] at h1
  rw [e2] at h2
  have hl := wrapN_len n w
  have hl2 := wrapN_len n (w + m)
  have hq : (n - 1) / w ≤ n - 1 := Nat.div_le_self _ _
  have hle : (n - 1) / (w + m) ≤ (n - 1) / w := Nat.div_le_div_left (by omega) (by omega)
  have h3 := lines_ev (wrapN n w) (n : Int) (by omega)
  unfold linesM at h3
  rw [if_pos (wrapN_valid n w hn hw)] at h3
  have h4 := wraps_loop n w hn hn2 hw hw2 ((n - 1) / w + 1) 0 (Nat.zero_le _) (Nat.sub_zero _)
  have h5 : Ev (fun k => ductuslaw13_LineWraps.j0 k (n : Int) (w : Int) (wrapN n w) (spansB 0 (wrapN n w)) false) true := ev_step h4 fun k hk => by
    simp only [ductuslaw13_LineWraps.j0]
    rw [if_neg (by decide)]
    exact hk
  have hdiv : Int.tdiv ((n : Int) + (w : Int) - 1) (w : Int) = (((n - 1) / w + 1 : Nat) : Int) := by
    have e : (n : Int) + (w : Int) - 1 = ((n - 1 + w : Nat) : Int) := by omega
    rw [e, Int.tdiv_eq_ediv_of_nonneg (by omega), ← Nat.add_div_right _ (show 0 < w by omega)]
    rfl
  have hsl : ((spansB 0 (wrapN n w)).length : Int) = (((n - 1) / w + 1 : Nat) : Int) := by rw [spansB_len, hl]
  have hgt : decide ((((wrapN n (w + m)).length : Nat) : Int) > ((wrapN n w).length : Int)) = false := decide_eq_false (by omega)
  refine Ev.rounds ?_
  refine ev_same3 alive13w (ev_and h1 h2) (ev_and h3 h5) fun k ha h12 h35 => ?_
  obtain ⟨h1, h2⟩ := ev_fst h12
  obtain ⟨h3, h5⟩ := ev_fst h35
  have q0 : ¬ (w : Int) = 0 := by clear en ew; omega
  have w1 : wrap64 ((w : Int) + wrap64 (m : Int)) = ((w + m : Nat) : Int) := by
    rw [wrap_id (x := (m : Int)) (by clear en ew; omega) (by clear en ew; omega), wrap_id (by clear en ew; omega) (by clear en ew; omega)]
    rfl
  have w2 : wrap64 (wrap64 ((n : Int) + (w : Int)) - 1) = (n : Int) + (w : Int) - 1 := by
    rw [wrap_id (x := (n : Int) + (w : Int)) (by clear en ew w1; omega) (by clear en ew w1; omega), wrap_id (by clear en ew w1; omega) (by clear en ew w1; omega)]
  have w3 : wrap64 ((((n - 1) / w + 1 : Nat) : Int)) = (((n - 1) / w + 1 : Nat) : Int) := wrap_id (by clear en ew w1 w2; omega) (by clear en ew w1 w2; omega)
  unfold ductuslaw13_LineWraps.f
  rw [ha, Option.bind_some, if_pos rfl, en, ew, h1, Option.bind_some, h3, Option.bind_some, w1, h2, Option.bind_some, if_pos rfl, if_neg q0, w2, hdiv, w3]
  dsimp only
  rw [if_pos hsl, hgt]
  exact h5
end Go.Proofs.Ytmjipbmpapcboaa.Pure
