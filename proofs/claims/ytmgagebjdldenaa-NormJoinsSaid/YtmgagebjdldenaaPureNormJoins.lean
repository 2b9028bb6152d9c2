/- Proved: the pure statement of the law NormJoins, that the Lean functions printed for it answer true for every input; no condition beyond the statement's own. -/
import Derived.Test.YtmgagebjdldenaaPx13
import Derived.Test.YtmgagebjdldenaaPNorm
namespace Go.Proofs.Ytmgagebjdldenaa.Pure
open Go.RowKit Go.Proofs.Ytmgagebjdldenaa.P Go.Proofs.YtmgagebjdldenaaW.PrintWords Go.Proofs.YtmgagebjdldenaaW.PrintLast Go.Proofs.YtmgagebjdldenaaW.PrintMore
set_option linter.unusedVariables false
set_option linter.unusedSimpArgs false

theorem alive23j (k : Nat) (hk : 200 ≤ k) : ductuslaw23_alive.f k = some true := more ductuslaw23_alive.mono 200 k hk _ (by decide +kernel)
theorem join_loop (a x p y q z r : List Int) (ha : a.length ≤ 1000) (hx : x.length ≤ 1000) (hy : y.length ≤ 1000) (hq : q.length ≤ 1001) (hr : r.length = x.length + q.length) (hp : x.length ≤ p.length) (hz : z = x ++ y)
    (ht : r.take x.length = p.take x.length) (hb : ∀ i : Nat, i < q.length → 0 ≤ rd q (i : Int) ∧ rd q (i : Int) ≤ 1000) (hat : ∀ i : Nat, i < q.length → rd r ((x.length + i : Nat) : Int) = (a.length : Int) + rd q (i : Int)) (d : Nat) :
    ∀ (k i : Nat), i ≤ q.length → q.length - i = d → d + 3000 < k → ductuslaw23_NormJoins.l0 k a x p y q z r (i : Int) = some true := by
  induction d with
  | zero =>
    intro k i hi hd hk
    obtain ⟨k, rfl⟩ : ∃ m, k = m + 1 := ⟨k - 1, by omega⟩
    simp only [ductuslaw23_NormJoins.l0]
    rw [if_neg (by omega)]
    have hlt : (p.take x.length).length = x.length := by rw [List.length_take]; omega
    have c1 : ([] : List Int).length + x.length < 17592186044416 := by rw [List.length_nil]; omega
    have c2 : x.length + y.length < 17592186044416 := by omega
    have zl : z.length = x.length + y.length := by rw [hz, List.length_append]
    rw [Option.bind_some, if_pos c1, List.nil_append, Option.bind_some, if_pos c2, ← hz, ints_same k z (by omega) (by omega), Option.bind_some, if_pos rfl, if_pos (by omega), if_pos (by omega), if_pos (by omega), Int.toNat_natCast, ht, ints_same k _ (by omega) (by omega), Option.bind_some]
  | succ d ih =>
    intro k i hi hd hk
    obtain ⟨k, rfl⟩ : ∃ m, k = m + 1 := ⟨k - 1, by omega⟩
    have hi2 : i < q.length := by omega
    have next := ih k (i + 1) (by omega) (by omega) (by omega)
    have hin := hb i hi2
    have c1 : (i : Int) < (q.length : Int) := by omega
    have c2 : 0 ≤ ((x.length + i : Nat) : Int) := by omega
    have c3 : ((x.length + i : Nat) : Int) < (r.length : Int) := by omega
    have c4 : 0 ≤ (i : Int) := by omega
    have b1 : -9223372036854775808 ≤ (x.length : Int) + (i : Int) := by omega
    have b2 : (x.length : Int) + (i : Int) ≤ 9223372036854775807 := by omega
    have b3 : -9223372036854775808 ≤ (a.length : Int) + rd q (i : Int) := by omega
    have b4 : (a.length : Int) + rd q (i : Int) ≤ 9223372036854775807 := by omega
    have b5 : i < 9223372036854775807 := by omega
    have hw : wrap64 ((x.length : Int) + (i : Int)) = ((x.length + i : Nat) : Int) := (wrap_id b1 b2).trans (Int.natCast_add _ _).symm
    have e : rd r ((x.length + i : Nat) : Int) = wrap64 ((a.length : Int) + rd q (i : Int)) := by rw [hat i hi2, wrap_id b3 b4]
    simp only [ductuslaw23_NormJoins.l0]
    rw [if_pos c1, hw, if_pos c2, if_pos c3, if_pos c4, if_pos e, wrap_succ i b5]
    exact next
theorem joins_j0 (a b : List Int) (f : Int) (k : Nat) (x p y q z r : List Int) (ha : a.length ≤ 1000) (hb : b.length ≤ 1000) (hA : norm_Of.f (k + 1) a (wrap64 f) = some (x, p)) (hB : norm_Of.f (k + 1) b (wrap64 f) = some (y, q)) (hC : norm_Of.f (k + 1) (a ++ b) (wrap64 f) = some (z, r))
    (hp : p.length = x.length + 1) (hq : q.length = y.length + 1) (hr : r.length = x.length + y.length + 1) (hx : x.length ≤ 1000) (hy : y.length ≤ 1000) (h : ductuslaw23_NormJoins.l0 k a x p y q z r 0 = some true) : ductuslaw23_NormJoins.j0 (k + 2) a b f false = some true := by
  have j1 : ductuslaw23_NormJoins.j1 (k + 1) a x p y q z r false = some true := by
    simp only [ductuslaw23_NormJoins.j1]
    rw [if_neg (by decide)]
    exact h
  have b1 : x.length < 17592186044416 := by omega
  have b2 : x.length + y.length < 17592186044416 := by omega
  have b3 : 0 + x.length < 17592186044416 := by omega
  have e1 : (p.length : Int) = wrap64 ((x.length : Int) + 1) := by rw [wrap_id (by omega) (by omega)]; omega
  have e2 : (q.length : Int) = wrap64 ((y.length : Int) + 1) := by
    clear e1
    rw [wrap_id (by omega) (by omega)]
    omega
  have e3 : (r.length : Int) = wrap64 (wrap64 ((x.length : Int) + (y.length : Int)) + 1) := by
    clear e1 e2
    rw [wrap_id (x := (x.length : Int) + (y.length : Int)) (by omega) (by omega), wrap_id (by omega) (by omega)]
    omega
  have c1 : ([] : List Int).length + a.length < 17592186044416 := by
    clear e1 e2 e3
    rw [List.length_nil]
    omega
  have c2 : a.length + b.length < 17592186044416 := by
    clear e1 e2 e3
    omega
  simp only [ductuslaw23_NormJoins.j0]
  rw [if_neg (by decide), hA, hB, Option.bind_some, Option.bind_some, Option.bind_some, if_pos c1, List.nil_append, Option.bind_some, if_pos c2, hC, Option.bind_some]
  show (if (p.length : Int) = wrap64 ((x.length : Int) + 1) then (if (q.length : Int) = wrap64 ((y.length : Int) + 1) then (ductuslaw23_NormJoins.j1 (k + 1) a x p y q z r ((r.length : Int) != wrap64 (wrap64 ((x.length : Int) + (y.length : Int)) + 1))) else none) else none) = some true
  rw [if_pos e1, if_pos e2, ← e3, bne_self_eq_false]
  exact j1
theorem NormJoins : ductuslaw23_NormJoins.Pure := by
  intro a b f hma hla hwa hmb hlb hwb wf
  obtain ⟨k, hk⟩ : ∃ k, k = 10 * (a.length + b.length) + 4998 := ⟨_, rfl⟩
  refine ⟨k + 2, ?_⟩
  unfold ductuslaw23_NormJoins.f
  rw [alive23j _ (by omega), Option.bind_some, if_pos rfl]
  have jt : ductuslaw23_NormJoins.j0 (k + 2) a b f true = some true := by
    simp only [ductuslaw23_NormJoins.j0, if_true]
  by_cases h1 : (a.length : Int) > 1000
  · rw [if_pos h1]
    exact jt
  · rw [if_neg h1]
    by_cases h2 : (b.length : Int) > 1000
    · rw [decide_eq_true h2]
      exact jt
    · rw [decide_eq_false h2]
      have fa := filter_len a
      have fb := filter_len b
      have ca := chrs_len (wrap64 f) a
      have cb := chrs_len (wrap64 f) b
      have pa := plcs_len a
      have pb := plcs_len b
      have pl : (placesOf nctl 0 a).length = (chrs (wrap64 f) a).length := by rw [places_len, chrs_len]
      have pab : (plcs (a ++ b)).length = (chrs (wrap64 f) a).length + (plcs b).length := by rw [plcs_app, List.length_append, List.length_map, pl]
      have e1 : (plcs (a ++ b)).take (chrs (wrap64 f) a).length = placesOf nctl 0 a := by rw [plcs_app, List.take_left' pl]
      have e2 : (plcs a).take (chrs (wrap64 f) a).length = placesOf nctl 0 a := by
        have : plcs a = placesOf nctl 0 a ++ [(a.length : Int)] := rfl
        rw [this, List.take_left' pl]
      have hin : ∀ i : Nat, i < (plcs b).length → 0 ≤ rd (plcs b) (i : Int) ∧ rd (plcs b) (i : Int) ≤ (b.length : Int) := by
        intro i hi
        rw [rd_get _ i hi]
        exact plcs_in b _ (List.getElem_mem _)
      have hat : ∀ i : Nat, i < (plcs b).length → rd (plcs (a ++ b)) (((chrs (wrap64 f) a).length + i : Nat) : Int) = (a.length : Int) + rd (plcs b) (i : Int) := by
        intro i hi
        rw [rd_get _ i hi, rd_nat, plcs_app, ← pl, List.getD_eq_getElem?_getD, List.getElem?_append_right (by omega), Nat.add_sub_cancel_left, List.getElem?_map, List.getElem?_eq_getElem hi]
        rfl
      refine joins_j0 a b f k _ _ _ _ _ _ (by omega) (by omega) (norm_of_eq (k + 1) a _ (by omega) (by omega)) (norm_of_eq (k + 1) b _ (by omega) (by omega)) (norm_of_eq (k + 1) (a ++ b) _ (by rw [List.length_append]; omega) (by rw [List.length_append]; omega)) (by omega) (by omega) (by omega) (by omega) (by omega) ?_
      exact join_loop a _ _ _ _ _ _ (by omega) (by omega) (by omega) (by omega) pab (by omega) (chrs_app _ _ _) (by rw [e1, e2]) (fun i hi => by have := hin i hi; omega) hat (plcs b).length k 0 (by omega) (by omega) (by omega)
end Go.Proofs.Ytmgagebjdldenaa.Pure
