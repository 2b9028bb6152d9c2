/- Proved: what order.Seen, order.Only tell of any lists; conditions: a list shorter than 2^44. -/
import Derived.Test.YtcmcajjdcbkfkaaPOrd
import Derived.Test.YtcmcajjdcbkfkaaPMirC
import Derived.Test.YtcmcajjdcbkfkaaPx4
namespace Go.Proofs.Ytcmcajjdcbkfkaa.P
open Go.RowKit Go.Proofs.YtcmcajjdcbkfkaaW.PrintWords Go.Proofs.YtcmcajjdcbkfkaaW.PrintLast Go.Proofs.YtcmcajjdcbkfkaaW.PrintMore
set_option linter.unusedVariables false
set_option linter.unusedSimpArgs false

theorem and_one (n : Int) : Go.bits .and .i64 n 1 = n % 2 := by
  have h1 : (BitVec.ofInt 64 1).toNat = 2 ^ 1 - 1 := by decide
  have key : (BitVec.ofInt 64 n &&& BitVec.ofInt 64 1).toNat = (n % ((2 ^ 64 : Nat) : Int)).toNat % 2 ^ 1 := by
    rw [BitVec.toNat_and, BitVec.toNat_ofInt, h1, Nat.and_two_pow_sub_one_eq_mod]
  show IntKind.i64.wrap ((BitVec.ofInt 64 n &&& BitVec.ofInt 64 1).toNat : Nat) = n % 2
  rw [key, IntKind.wrap_i64]
  omega
theorem mir_ev (c : Int) : Ev (fun k => pair_Mirror.f k c) (mir c) := ⟨4, fun k hk => mirror_eq k hk c⟩
/-- A character as it is seen. -/
def seenC (chars levels : List Int) (i : Int) : Int := if rd levels i % 2 = 1 then mir (rd chars i) else rd chars i
def seenM (chars levels : List Int) : List Int := if chars.length = levels.length then (ordM levels).map (seenC chars levels) else []
theorem seen_loop (chars levels o : List Int) (he : chars.length = levels.length) (ho : ∀ x ∈ o, 0 ≤ x ∧ x < (levels.length : Int)) (hl : o.length < 17592186044416) (d : Nat) : ∀ (i : Nat) (acc : List Int), i ≤ o.length → o.length - i = d → acc.length = i →
    Ev (fun k => order_Seen.l0 k chars levels acc o (o.length : Int) (i : Int)) (acc ++ (o.drop i).map (seenC chars levels)) := by
  induction d with
  | zero =>
    intro i acc hi hd ha
    refine ev_one fun k => ?_
    simp only [order_Seen.l0]
    rw [if_neg (by omega), List.drop_eq_nil_of_le (by omega)]
    simp
  | succ d ih =>
    intro i acc hi hd ha
    have hx := ho _ (rd_mem o i (by omega))
    have e : acc ++ (o.drop i).map (seenC chars levels) = (acc ++ [seenC chars levels (rd o (i : Int))]) ++ (o.drop (i + 1)).map (seenC chars levels) := by
      rw [drop_cons o i (by omega)]
      simp
    rw [e]
    refine ev_step2 (ih (i + 1) (acc ++ [seenC chars levels (rd o (i : Int))]) (by omega) (by omega) (by simp [ha])) (mir_ev (rd chars (rd o (i : Int)))) fun k hk hm => ?_
    simp only [order_Seen.l0]
    rw [if_pos (by omega), if_pos (by omega), if_pos (by omega), if_pos hx.1, if_pos (by omega), if_pos (by omega), and_one, wrap_succ i (by omega)]
    unfold seenC at hk
    by_cases h : rd levels (rd o (i : Int)) % 2 = 1
    · rw [if_pos h] at hk ⊢
      rw [hm, Option.bind_some, if_pos (by omega)]
      unfold seenC
      rw [if_pos h]
      exact hk
    · rw [if_neg h] at hk ⊢
      rw [if_pos (by omega)]
      unfold seenC
      rw [if_neg h]
      exact hk
theorem seen_ev (chars levels : List Int) (hl : levels.length < 17592186044416) : Ev (fun k => order_Seen.f k chars levels) (seenM chars levels) := by
  unfold seenM
  by_cases he : chars.length = levels.length
  · rw [if_pos he]
    have hp := ordM_perm levels
    have h := seen_loop chars levels (ordM levels) he (fun x hx => (rng_mem _ x).1 (hp.mem_iff.1 hx)) (by rw [ordM_len]; exact hl) (ordM levels).length 0 [] (by omega) (by omega) rfl
    simp only [List.drop_zero, List.nil_append] at h
    refine ev_same2 (of_ev levels hl) h fun k h1 h2 => ?_
    unfold order_Seen.f
    rw [if_pos (by omega), h1, Option.bind_some]
    exact h2
  · rw [if_neg he]
    refine ev_now fun k => ?_
    unfold order_Seen.f
    rw [if_neg (by omega)]

/-- What is left of an order. -/
def onlyM (keep : List Bool) (l : List Int) : List Int := l.filter fun n => decide (0 ≤ n ∧ n < (keep.length : Int)) && rdOf false keep n
theorem only_loop (keep : List Bool) (l : List Int) (hl : l.length < 17592186044416) (d : Nat) : ∀ (i : Nat) (acc : List Int), i ≤ l.length → l.length - i = d → acc.length ≤ i →
    Ev (fun k => order_Only.l0 k keep acc l (l.length : Int) (i : Int)) (acc ++ onlyM keep (l.drop i)) := by
  induction d with
  | zero =>
    intro i acc hi hd ha
    refine ev_one fun k => ?_
    simp only [order_Only.l0]
    rw [if_neg (by omega), List.drop_eq_nil_of_le (by omega)]
    simp [onlyM]
  | succ d ih =>
    intro i acc hi hd ha
    have hd2 := drop_cons l i (by omega)
    by_cases h : 0 ≤ rd l (i : Int) ∧ rd l (i : Int) < (keep.length : Int) ∧ rdOf false keep (rd l (i : Int)) = true
    · have e : acc ++ onlyM keep (l.drop i) = (acc ++ [rd l (i : Int)]) ++ onlyM keep (l.drop (i + 1)) := by
        rw [hd2]
        simp [onlyM, List.filter_cons, h]
      rw [e]
      refine ev_step (ih (i + 1) (acc ++ [rd l (i : Int)]) (by omega) (by omega) (by simp; omega)) fun k hk => ?_
      simp only [order_Only.l0]
      rw [if_pos (by omega), if_pos (by omega), if_pos (by omega), if_pos h.1, if_pos h.2.1, if_pos h.1, if_pos h.2.2, if_pos (by omega), wrap_succ i (by omega)]
      exact hk
    · have e : acc ++ onlyM keep (l.drop i) = acc ++ onlyM keep (l.drop (i + 1)) := by
        rw [hd2]
        unfold onlyM
        rw [List.filter_cons, if_neg]
        intro hh
        simp only [Bool.and_eq_true, decide_eq_true_eq] at hh
        exact h ⟨hh.1.1, hh.1.2, hh.2⟩
      rw [e]
      refine ev_step (ih (i + 1) acc (by omega) (by omega) (by omega)) fun k hk => ?_
      simp only [order_Only.l0]
      rw [if_pos (by omega), if_pos (by omega), if_pos (by omega), wrap_succ i (by omega)]
      by_cases h0 : 0 ≤ rd l (i : Int)
      · rw [if_pos h0]
        by_cases h1 : rd l (i : Int) < (keep.length : Int)
        · rw [if_pos h1, if_pos h0, if_neg (fun h2 => h ⟨h0, h1, h2⟩)]
          exact hk
        · rw [if_neg h1]
          exact hk
      · rw [if_neg h0]
        exact hk
theorem only_ev (keep : List Bool) (l : List Int) (hl : l.length < 17592186044416) : Ev (fun k => order_Only.f k l keep) (onlyM keep l) := by
  have h := only_loop keep l hl l.length 0 [] (by omega) (by omega) (by simp)
  simp only [List.drop_zero, List.nil_append] at h
  exact h
end Go.Proofs.Ytcmcajjdcbkfkaa.P
