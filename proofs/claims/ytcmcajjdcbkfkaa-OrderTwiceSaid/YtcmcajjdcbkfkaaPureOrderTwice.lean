/- Proved: the pure statement of the law OrderTwice, that the Lean functions printed for it answer true for every input; no condition beyond the statement's own. -/
import Derived.Test.YtcmcajjdcbkfkaaPx10
import Derived.Test.YtcmcajjdcbkfkaaPInts
import Derived.Test.YtcmcajjdcbkfkaaPOrd
namespace Go.Proofs.Ytcmcajjdcbkfkaa.Pure
open Go.RowKit Go.Proofs.Ytcmcajjdcbkfkaa.P Go.Proofs.YtcmcajjdcbkfkaaW.PrintWords Go.Proofs.YtcmcajjdcbkfkaaW.PrintLast Go.Proofs.YtcmcajjdcbkfkaaW.PrintMore
set_option linter.unusedVariables false
set_option linter.unusedSimpArgs false

theorem alive14t : Ev (fun k => ductuslaw14_alive.f k) true := Ev.of ductuslaw14_alive.mono (k := 300) (by decide +kernel)
theorem rep_rd (n : Nat) (c x : Int) (h : x ∈ rng n) : rd (List.replicate n c) x = c := by
  have := (rng_mem n x).1 h
  unfold rd
  rw [List.getD_eq_getElem?_getD, List.getElem?_replicate, if_pos (by omega)]
  rfl
theorem rev_rd (n i : Nat) (h : i < n) : rd (rng n).reverse (i : Int) = (n : Int) - 1 - (i : Int) := by
  rw [rd_get _ _ (by rw [List.length_reverse, rng_len]; exact h), List.getElem_reverse]
  have e := rng_rd n ((rng n).length - 1 - i) (by rw [rng_len]; omega)
  rw [rd_get _ _ (by rw [rng_len]; omega)] at e
  rw [e, rng_len]
  omega
/-- The order of one level. -/
def oneM (n : Nat) (c : Int) : List Int := if c % 2 = 1 then (rng n).reverse else rng n
theorem one_ord (n : Nat) (c : Int) (h0 : 0 ≤ c) (h1 : c ≤ 127) : ordM (List.replicate n c) = oneM n c := by
  unfold ordM oneM
  rw [List.length_replicate, down_one _ c 127 (rng n) (fun x hx => rep_rd n c x hx)]
  by_cases h : c % 2 = 1
  · rw [if_neg (by omega), if_pos h]
  · rw [if_pos (by omega), if_neg h]
theorem one_len (n : Nat) (c : Int) : (oneM n c).length = n := by
  unfold oneM
  split <;> simp [rng_len]
theorem twice_l1 (l : List Int) (hl : l.length ≤ 200) (a1 c : Int) (h0 : 0 ≤ a1) (hc : c % 2 = a1 % 2) (x5 : List Int) (h5 : x5.length < 9223372036854775807) (d : Nat) : ∀ (i : Nat), i ≤ l.length → l.length - i = d →
    Ev (fun k => ductuslaw14_OrderTwice.l1 k l a1 x5 0 x5 0 (oneM l.length c) (i : Int)) true := by
  have hlen := one_len l.length c
  have ht : Int.tmod a1 2 = a1 % 2 := Int.tmod_eq_emod_of_nonneg h0
  induction d with
  | zero =>
    intro i hi hd
    refine ev_step (f := fun k => ductusref01_Ints.f k x5 x5) (a := true) ⟨x5.length + 1, fun k hk => ints_same k x5 h5 (by omega)⟩ fun k hk => ?_
    simp only [ductuslaw14_OrderTwice.l1]
    rw [if_neg (by omega), hk]
    simp [hlen]
  | succ d ih =>
    intro i hi hd
    refine ev_step (ih (i + 1) (by omega) (by omega)) fun k hk => ?_
    simp only [ductuslaw14_OrderTwice.l1]
    rw [if_pos (by omega), ht, wrap_succ i (by omega)]
    by_cases h : a1 % 2 = 1
    · rw [if_pos h, if_pos (by omega), hlen, wrap_id (by rw [wrap_id (by omega) (by omega)]; omega) (by rw [wrap_id (by omega) (by omega)]; omega), wrap_id (by omega) (by omega)]
      have e : rd (oneM l.length c) (i : Int) = (l.length : Int) - 1 - (i : Int) := by
        unfold oneM
        rw [if_pos (by omega)]
        exact rev_rd _ _ (by omega)
      rw [if_pos e]
      exact hk
    · rw [if_neg h, if_pos (by omega)]
      have e : rd (oneM l.length c) (i : Int) = (i : Int) := by
        unfold oneM
        rw [if_neg (by omega)]
        exact rng_rd _ _ (by omega)
      rw [if_pos e]
      exact hk
theorem twice_l0 (l : List Int) (hl : l.length ≤ 200) (a1 : Int) (h0 : 0 ≤ a1) (h1 : a1 ≤ 255) (x5 : List Int) (h5 : x5.length < 9223372036854775807) (d : Nat) : ∀ (i : Nat), i ≤ l.length → l.length - i = d →
    Ev (fun k => ductuslaw14_OrderTwice.l0 k l a1 x5 0 x5 0 (List.replicate i (a1 % 128)) (i : Int)) true := by
  induction d with
  | zero =>
    intro i hi hd
    obtain rfl : i = l.length := by omega
    have ho := of_ev (List.replicate l.length (a1 % 128)) (by simp; omega)
    rw [one_ord _ _ (by omega) (by omega)] at ho
    refine ev_step2 ho (twice_l1 l hl a1 (a1 % 128) h0 (by omega) x5 h5 l.length 0 (by omega) (by omega)) fun k hk h2 => ?_
    simp only [ductuslaw14_OrderTwice.l0]
    rw [if_neg (by omega), hk]
    exact h2
  | succ d ih =>
    intro i hi hd
    refine ev_step (ih (i + 1) (by omega) (by omega)) fun k hk => ?_
    have ht : Int.tmod (wrap64 a1) 128 = a1 % 128 := by
      rw [wrap_id (by omega) (by omega)]
      exact Int.tmod_eq_emod_of_nonneg h0
    simp only [ductuslaw14_OrderTwice.l0]
    rw [if_pos (by omega), if_pos (by simp; omega), ht, wrap_succ i (by omega), ← List.replicate_succ']
    exact hk
theorem OrderTwice : ductuslaw14_OrderTwice.Pure := by
  intro l a1 hm hl hw wa
  have ha : 0 ≤ a1 ∧ a1 ≤ 255 := by
    have hmin : IntKind.u8.min = 0 := rfl
    have hmax : IntKind.u8.max = 255 := rfl
    simp only [Lit.wf, Bool.and_eq_true, decide_eq_true_eq] at wa
    omega
  refine Ev.rounds ?_
  by_cases h : (l.length : Int) > 200
  · refine ev_same alive14t fun k hk => ?_
    unfold ductuslaw14_OrderTwice.f
    rw [hk, Option.bind_some, if_pos rfl, if_pos h]
  · have hp := ordM_perm l
    have ho := ordM_len l
    have hr := perm_right hp
    have hr2 := back_right hp
    have hb1 := back_ev (ordM l) (by omega) (perm_wf hp (by omega))
    have hb2 := back_ev (backOf (ordM l)) (by rw [backOf_len]; omega) (right_wf hr2 (by rw [backOf_len]; omega))
    unfold backM at hb1 hb2
    rw [if_pos hr] at hb1
    rw [if_pos hr2, back_back hp] at hb2
    have h0 := twice_l0 l (by omega) a1 ha.1 ha.2 (ordM l) (by omega) l.length 0 (by omega) (by omega)
    rw [List.replicate_zero, show ((0 : Nat) : Int) = 0 from rfl] at h0
    refine ev_same3 alive14t (ev_and (of_ev l (by omega)) h0) (ev_and hb1 hb2) fun k ha h1 h2 => ?_
    obtain ⟨hof, h0⟩ := ev_fst h1
    obtain ⟨hb1, hb2⟩ := ev_fst h2
    unfold ductuslaw14_OrderTwice.f
    rw [ha, Option.bind_some, if_pos rfl, if_neg h, hof, Option.bind_some, hb1, Option.bind_some, hb2, Option.bind_some]
    dsimp only
    exact h0
end Go.Proofs.Ytcmcajjdcbkfkaa.Pure
