/- Proved: the pure statement of the law NormBytes, that the Lean functions printed for it answer true for every input; no condition beyond the statement's own. -/
import Derived.Test.YtmgagebjdldenaaPx15
import Derived.Test.YtmgagebjdldenaaPNorm
import Derived.Test.YtmgagebjdldenaaPDecode
namespace Go.Proofs.Ytmgagebjdldenaa.Pure
open Go.RowKit Go.Proofs.Ytmgagebjdldenaa.P Go.Proofs.YtmgagebjdldenaaW.PrintWords Go.Proofs.YtmgagebjdldenaaW.PrintLast Go.Proofs.YtmgagebjdldenaaW.PrintMore
set_option linter.unusedVariables false
set_option linter.unusedSimpArgs false

theorem alive23b (k : Nat) (hk : 200 ≤ k) : ductuslaw23_alive.f k = some true := more ductuslaw23_alive.mono 200 k hk _ (by decide +kernel)
theorem wf16b {x : Int} (h : (Lit.int .u16 x).wf = true) : 0 ≤ x ∧ x ≤ 65535 := by
  have hmin : IntKind.u16.min = 0 := rfl
  have hmax : IntKind.u16.max = 65535 := rfl
  simp only [Lit.wf, Bool.and_eq_true, decide_eq_true_eq] at h
  omega
theorem mod_bound_b (x : Int) (hx : 0 ≤ x ∧ x ≤ 65535) (n : Nat) (hn : n ≤ 4000) : ∃ m : Nat, Int.tmod (wrap64 x) (wrap64 ((n : Int) + 1)) = (m : Int) ∧ m ≤ n := by
  rw [wrap_id (x := x) (by omega) (by omega), wrap_id (x := (n : Int) + 1) (by omega) (by omega), Int.tmod_eq_emod_of_nonneg hx.1]
  have h0 := Int.emod_nonneg x (show (n : Int) + 1 ≠ 0 by omega)
  have h1 := Int.emod_lt_of_pos x (show (0 : Int) < (n : Int) + 1 by omega)
  exact ⟨(x % ((n : Int) + 1)).toNat, by omega, by omega⟩
theorem mn_nat_b (a b : Nat) : mn (a : Int) (b : Int) = ((min a b : Nat) : Int) := by
  unfold mn
  split <;> omega
theorem mx_nat_b (a b : Nat) : mx (a : Int) (b : Int) = ((max a b : Nat) : Int) := by
  unfold mx
  split <;> omega
theorem nb_j1 (l C A P : List Int) (k m n s t : Nat) (hs : s ≤ t) (ht : t ≤ l.length) (hl : l.length ≤ 1000) (hm : min m n ≤ max m n) (hn : max m n ≤ C.length) (hC : C.length ≤ l.length) (hA : A.length = C.length + 1) (hd : ∃ q, ductusref01_Decode.f k ((l.take t).drop s) = some (P, q)) (hP : P = (C.take (max m n)).drop (min m n)) (hk : 3000 < k) :
    ductuslaw23_NormBytes.j1 (k + 1) l C A (m : Int) (n : Int) false (s : Int) (t : Int) = some true := by
  obtain ⟨q, hq⟩ := hd
  have hPl : P.length ≤ 1000 := by rw [hP, List.length_drop, List.length_take]; omega
  have c1 : 0 ≤ (s : Int) := by omega
  have c2 : (s : Int) ≤ (t : Int) := by omega
  have c3 : (t : Int) ≤ (l.length : Int) := by omega
  have c4 : 0 ≤ ((min m n : Nat) : Int) := by omega
  have c5 : ((min m n : Nat) : Int) ≤ ((max m n : Nat) : Int) := by omega
  have c6 : ((max m n : Nat) : Int) ≤ (C.length : Int) := by omega
  have c7 : P.length < 9223372036854775807 := by omega
  have c8 : P.length < k := by omega
  have hb : Go.Proofs.Ytmgagebjdldenaa.P.bytesOf A 0 ((C.length + 1 : Nat) : Int) = (0, 0, false) := by
    unfold Go.Proofs.Ytmgagebjdldenaa.P.bytesOf
    rw [if_neg (by omega)]
  have hw : wrap64 ((C.length : Int) + 1) = ((C.length + 1 : Nat) : Int) := (wrap_id (by omega) (by omega)).trans (Int.natCast_add _ _).symm
  simp only [ductuslaw23_NormBytes.j1]
  rw [if_neg (by decide), if_pos c1, if_pos c2, if_pos c3, Int.toNat_natCast, Int.toNat_natCast, hq, Option.bind_some, bytes_eq, Option.bind_some, hw, hb, mn_nat_b, mx_nat_b, if_pos c4, if_pos c5, if_pos c6, Int.toNat_natCast, Int.toNat_natCast, ← hP]
  show (ductusref01_Ints.f k P P).bind (fun t521 => if t521 = true then some (!false) else none) = some true
  rw [ints_same k P c7 c8, Option.bind_some, if_pos rfl]
  rfl
theorem NormBytes : ductuslaw23_NormBytes.Pure := by
  intro l x y hm hl hw wx wy
  have hx := wf16b wx
  have hy := wf16b wy
  obtain ⟨k, hk⟩ : ∃ k, k = 10 * l.length + 5000 := ⟨_, rfl⟩
  refine ⟨k + 2, ?_⟩
  unfold ductuslaw23_NormBytes.f
  rw [alive23b _ (by omega), Option.bind_some, if_pos rfl]
  by_cases h : (l.length : Int) > 1000
  · rw [if_pos h]
  · have hCl := decC_len l
    have hAl := decA_len l
    rw [if_neg h, decode_eq (k + 2) l (by omega) (by omega), Option.bind_some]
    obtain ⟨C, hC⟩ : ∃ C, C = decC l := ⟨_, rfl⟩
    obtain ⟨A, hA⟩ : ∃ A, A = decA l := ⟨_, rfl⟩
    have hat := fun j hj => decA_at l j hj
    have hpart := fun i j h1 h2 => decC_part l i j h1 h2
    have hple := fun j hj => preC_le l j hj
    rw [← hC, ← hA] at hAl
    rw [← hC] at hCl hpart hple
    rw [← hA, ← hC] at hat
    rw [← hC, ← hA]
    show (if (0 : Int) = 0 then ductuslaw23_NormBytes.j0 (k + 2) l C A ((A.length : Int) != wrap64 ((C.length : Int) + 1)) x y else none) = some true
    obtain ⟨m, em, hmn⟩ := mod_bound_b x hx C.length (by omega)
    obtain ⟨n, en, hnn⟩ := mod_bound_b y hy C.length (by omega)
    have hmm : min m n ≤ max m n := by omega
    have hmx : max m n ≤ C.length := by omega
    have hsp : preC l (min m n) ≤ preC l (max m n) := preC_mono l _ _ hmm
    have htl := hple (max m n) hmx
    have a1 := hat (min m n) (by omega)
    have a2 := hat (max m n) hmx
    have main := nb_j1 l C A (decC ((l.take (preC l (max m n))).drop (preC l (min m n)))) k m n (preC l (min m n)) (preC l (max m n)) hsp htl (by omega) hmm hmx hCl hAl ⟨_, decode_eq k _ (by rw [List.length_drop, List.length_take]; omega) (by rw [List.length_drop, List.length_take]; omega)⟩ (hpart _ _ hmm hmx) (by omega)
    have hb : Go.Proofs.Ytmgagebjdldenaa.P.bytesOf A ((min m n : Nat) : Int) ((max m n : Nat) : Int) = (((preC l (min m n) : Nat) : Int), ((preC l (max m n) : Nat) : Int), true) := by
      unfold Go.Proofs.Ytmgagebjdldenaa.P.bytesOf
      rw [if_pos (by omega), a1, a2]
    have c1 : ¬ (((preC l (min m n) : Nat) : Int) < 0) := by omega
    have c2 : ¬ (((preC l (min m n) : Nat) : Int) > ((preC l (max m n) : Nat) : Int)) := by omega
    have c3 : ¬ (((preC l (max m n) : Nat) : Int) > (l.length : Int)) := by omega
    have c0 : ¬ (((C.length + 1 : Nat) : Int) = 0) := by omega
    have hw1 : wrap64 ((C.length : Int) + 1) = ((C.length + 1 : Nat) : Int) := (wrap_id (by omega) (by omega)).trans (Int.natCast_add _ _).symm
    have e0 : (A.length : Int) = wrap64 ((C.length : Int) + 1) := (congrArg (fun z : Nat => (z : Int)) hAl).trans hw1.symm
    rw [if_pos rfl, ← e0, bne_self_eq_false]
    simp only [ductuslaw23_NormBytes.j0]
    rw [if_neg (by decide), em, en, hw1, if_neg c0, mn_nat_b, mx_nat_b, bytes_eq, hb, Option.bind_some]
    show (if true = true then (if ((preC l (min m n) : Nat) : Int) < 0 then none else (if ((preC l (min m n) : Nat) : Int) > ((preC l (max m n) : Nat) : Int) then none else ductuslaw23_NormBytes.j1 (k + 1) l C A (m : Int) (n : Int) (decide (((preC l (max m n) : Nat) : Int) > (l.length : Int))) ((preC l (min m n) : Nat) : Int) ((preC l (max m n) : Nat) : Int))) else none) = some true
    rw [if_pos rfl, if_neg c1, if_neg c2, decide_eq_false c3]
    exact main
end Go.Proofs.Ytmgagebjdldenaa.Pure
