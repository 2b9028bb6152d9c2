/- Proved: the pure statement of the law OrderSeen, that the Lean functions printed for it answer true for every input; no condition beyond the statement's own. -/
import Derived.Test.YtcmcajjdcbkfkaaPx10
import Derived.Test.YtcmcajjdcbkfkaaPOrdSeen
namespace Go.Proofs.Ytcmcajjdcbkfkaa.Pure
open Go.RowKit Go.Proofs.Ytcmcajjdcbkfkaa.P Go.Proofs.YtcmcajjdcbkfkaaW.PrintWords Go.Proofs.YtcmcajjdcbkfkaaW.PrintLast Go.Proofs.YtcmcajjdcbkfkaaW.PrintMore
set_option linter.unusedVariables false
set_option linter.unusedSimpArgs false

theorem alive14s : Ev (fun k => ductuslaw14_alive.f k) true := Ev.of ductuslaw14_alive.mono (k := 300) (by decide +kernel)
theorem rep_rd (n : Nat) (c x : Int) (h : x ∈ rng n) : rd (List.replicate n c) x = c := by
  have := (rng_mem n x).1 h
  unfold rd
  rw [List.getD_eq_getElem?_getD, List.getElem?_replicate, if_pos (by omega)]
  rfl
theorem rev_rd (n i : Nat) (h : i < n) : rd (rng n).reverse (i : Int) = ((n - 1 - i : Nat) : Int) := by
  rw [rd_get _ _ (by rw [List.length_reverse, rng_len]; exact h), List.getElem_reverse]
  have e := rng_rd n ((rng n).length - 1 - i) (by rw [rng_len]; omega)
  rw [rd_get _ _ (by rw [rng_len]; omega)] at e
  rw [e, rng_len]
def lev (b : Bool) : Int := if b = true then 1 else 0
theorem ord_lev (n : Nat) (b : Bool) : ordM (List.replicate n (lev b)) = if b = true then (rng n).reverse else rng n := by
  unfold ordM
  rw [List.length_replicate, down_one _ (lev b) 127 (rng n) (fun x hx => rep_rd n _ x hx)]
  cases b <;> rfl
theorem rd_map (f : Int → Int) (l : List Int) (i : Nat) (h : i < l.length) : rd (l.map f) (i : Int) = f (rd l (i : Int)) := by
  rw [rd_get _ _ (by simpa using h), rd_get _ _ h, List.getElem_map]
/-- What is seen at a place. -/
theorem seen_rd (l : List Int) (b : Bool) (i : Nat) (h : i < l.length) : rd (seenM l (List.replicate l.length (lev b))) (i : Int) = if b = true then mir (rd l ((l.length - 1 - i : Nat) : Int)) else rd l (i : Int) := by
  unfold seenM
  rw [if_pos (by simp), ord_lev]
  cases b with
  | true =>
    rw [if_pos rfl, if_pos rfl, rd_map _ _ _ (by rw [List.length_reverse, rng_len]; exact h), rev_rd _ _ h]
    unfold seenC
    rw [rep_rd _ _ _ ((rng_mem _ _).2 ⟨by omega, by omega⟩), if_pos (by decide)]
  | false =>
    rw [if_neg (by decide), if_neg (by decide), rd_map _ _ _ (by rw [rng_len]; exact h), rng_rd _ _ h]
    unfold seenC
    rw [rep_rd _ _ _ ((rng_mem _ _).2 ⟨by omega, by omega⟩), if_neg (by decide)]
theorem seen_len (l : List Int) (b : Bool) : (seenM l (List.replicate l.length (lev b))).length = l.length := by
  unfold seenM
  rw [if_pos (by simp), List.length_map, ordM_len, List.length_replicate]
theorem seen_l1 (l : List Int) (hl : l.length ≤ 200) (b : Bool) (d : Nat) : ∀ (i : Nat), i ≤ l.length → l.length - i = d →
    Ev (fun k => ductuslaw14_OrderSeen.l1 k l b (List.replicate l.length (lev b)) (seenM l (List.replicate l.length (lev b))) (i : Int)) true := by
  have hlen := seen_len l b
  induction d with
  | zero =>
    intro i hi hd
    have h := seen_ev l (List.replicate l.length (lev b) ++ [0]) (by simp; omega)
    refine ev_step h fun k hk => ?_
    simp only [ductuslaw14_OrderSeen.l1]
    rw [if_neg (by omega), if_pos (by simp; omega), hk]
    unfold seenM
    rw [if_neg (by simp)]
    rfl
  | succ d ih =>
    intro i hi hd
    have hs := seen_rd l b i (by omega)
    have next := ih (i + 1) (by omega) (by omega)
    cases b with
    | true =>
      rw [if_pos rfl] at hs
      have hm : Ev (fun k => ductusref03_Mirror.f k (rd l ((l.length - 1 - i : Nat) : Int))) (mir (rd l ((l.length - 1 - i : Nat) : Int))) := ⟨14, fun k hk => rmirror_eq k hk _⟩
      refine ev_step2 next hm fun k hk hm => ?_
      have hw : wrap64 ((wrap64 (((seenM l (List.replicate l.length (lev true))).length : Int) - 1)) - (i : Int)) = ((l.length - 1 - i : Nat) : Int) := by
        rw [hlen, wrap_id (x := (l.length : Int) - 1) (by omega) (by omega), wrap_id (by omega) (by omega)]
        omega
      simp only [ductuslaw14_OrderSeen.l1]
      rw [if_pos (by omega), if_pos (by omega), if_pos (by omega), if_pos trivial, hw, if_pos (by omega), if_pos (by omega), hm, Option.bind_some, if_pos hs, wrap_succ i (by omega)]
      exact hk
    | false =>
      rw [if_neg (by decide)] at hs
      refine ev_step next fun k hk => ?_
      simp only [ductuslaw14_OrderSeen.l1]
      rw [if_pos (by omega), if_pos (by omega), if_pos (by omega), if_neg (by decide), if_pos hs, wrap_succ i (by omega)]
      exact hk
theorem seen_l0 (l : List Int) (hl : l.length ≤ 200) (b : Bool) (d : Nat) : ∀ (i : Nat), i ≤ l.length → l.length - i = d →
    Ev (fun k => ductuslaw14_OrderSeen.l0 k l b (List.replicate i (lev b)) (i : Int)) true := by
  induction d with
  | zero =>
    intro i hi hd
    obtain rfl : i = l.length := by omega
    refine ev_step2 (seen_ev l (List.replicate l.length (lev b)) (by simp; omega)) (seen_l1 l hl b l.length 0 (by omega) (by omega)) fun k hk h2 => ?_
    have hlen := seen_len l b
    simp only [ductuslaw14_OrderSeen.l0]
    rw [if_neg (by omega), hk, Option.bind_some, if_pos (by omega)]
    exact h2
  | succ d ih =>
    intro i hi hd
    refine ev_step (ih (i + 1) (by omega) (by omega)) fun k hk => ?_
    simp only [ductuslaw14_OrderSeen.l0]
    rw [if_pos (by omega), wrap_succ i (by omega)]
    rw [List.replicate_succ'] at hk
    cases b with
    | true =>
      rw [if_pos rfl, if_pos (by simp; omega)]
      exact hk
    | false =>
      rw [if_neg (by decide), if_pos (by simp; omega)]
      exact hk
theorem OrderSeen : ductuslaw14_OrderSeen.Pure := by
  intro l b hm hl hw
  refine Ev.rounds ?_
  by_cases h : (l.length : Int) > 200
  · refine ev_same alive14s fun k hk => ?_
    unfold ductuslaw14_OrderSeen.f
    rw [hk, Option.bind_some, if_pos rfl, if_pos h]
  · have h0 := seen_l0 l (by omega) b l.length 0 (by omega) (by omega)
    rw [List.replicate_zero, show ((0 : Nat) : Int) = 0 from rfl] at h0
    refine ev_same2 alive14s h0 fun k ha h0 => ?_
    unfold ductuslaw14_OrderSeen.f
    rw [ha, Option.bind_some, if_pos rfl, if_neg h]
    exact h0
end Go.Proofs.Ytcmcajjdcbkfkaa.Pure
