/- Proved: the pure statement of the law ClassLists, that the Lean functions printed for it answer true for every input; no condition beyond the statement's own. -/
import Derived.Test.YtnbhncmggfjgdaaDoorPx5
import Derived.Test.YtnbhncmggfjgdaaDoorPCls
namespace Go.Proofs.YtnbhncmggfjgdaaDoor.Pure
open Go.RowKit Go.Proofs.YtnbhncmggfjgdaaDoor.P Go.Proofs.YtnbhncmggfjgdaaDoorW.PrintWords Go.Proofs.YtnbhncmggfjgdaaDoorW.PrintLast Go.Proofs.YtnbhncmggfjgdaaDoorW.PrintMore
set_option linter.unusedVariables false
set_option linter.unusedSimpArgs false

theorem rd_map (f : Int → Int) (l : List Int) (i : Nat) (h : i < l.length) : rd (l.map f) (i : Int) = f (rd l (i : Int)) := by
  rw [rd_get _ _ (by simpa using h), rd_get _ _ h, List.getElem_map]
theorem lists_loop (l : List Int) (hl : l.length ≤ 1000) (d : Nat) : ∀ i : Nat, i ≤ l.length → l.length - i = d → Ev (fun k => ductuslaw02_ClassLists.l0 k l (l.map cls) (i : Int)) true := by
  induction d with
  | zero =>
    intro i hi hd
    refine ev_one fun k => ?_
    simp only [ductuslaw02_ClassLists.l0]
    rw [if_neg (by omega)]
  | succ d ih =>
    intro i hi hd
    have w1 : wrap64 ((i : Int) + 1) = ((i + 1 : Nat) : Int) := wrap_succ i (by omega)
    have g1 : (i : Int) < (l.length : Int) := by omega
    have g2 : (0 : Int) ≤ (i : Int) := by omega
    have g3 : (i : Int) < ((l.map cls).length : Int) := by rw [List.length_map]; omega
    refine ev_step2 (of_ev (rd l (i : Int))) (ih (i + 1) (by omega) (by omega)) fun k hk hk2 => ?_
    simp only [ductuslaw02_ClassLists.l0]
    rw [if_pos g1, if_pos g2, if_pos g3, hk, Option.bind_some, if_pos (rd_map cls l i (by omega)), w1]
    exact hk2
theorem lists_j0 (x y : List Int) (hx : x.length ≤ 1000) (hy : y.length ≤ 1000) : Ev (fun k => ductuslaw02_ClassLists.j0 k x y false) true := by
  have hj1 : Ev (fun k => ductuslaw02_ClassLists.j1 k x (x.map cls) false) true := by
    refine ev_step (lists_loop x hx x.length 0 (by omega) (by omega)) fun k hk => ?_
    simp only [ductuslaw02_ClassLists.j1]
    rw [if_neg (by simp)]
    exact hk
  obtain ⟨K0, e0⟩ := hj1
  obtain ⟨K1, e1⟩ := all_ev (x ++ y) (by rw [List.length_append]; omega)
  obtain ⟨K2, e2⟩ := all_ev x (by omega)
  obtain ⟨K3, e3⟩ := all_ev y (by omega)
  obtain ⟨K4, e4⟩ := ints_ev ((x ++ y).map cls) (by simp; omega)
  refine ⟨K0 + K1 + K2 + K3 + K4 + 1, fun k hk => ?_⟩
  obtain ⟨k, rfl⟩ : ∃ j, k = j + 1 := ⟨k - 1, by omega⟩
  replace e0 := e0 k (by omega)
  replace e1 := e1 k (by omega)
  replace e2 := e2 k (by omega)
  replace e3 := e3 k (by omega)
  replace e4 := e4 k (by omega)
  dsimp only at e0 e1 e2 e3 e4
  have q1 : ([] : List Int).length + x.length < 17592186044416 := by simp; omega
  have q2 : ([] ++ x : List Int).length + y.length < 17592186044416 := by simp; omega
  have q3 : ([] : List Int).length + (x.map cls).length < 17592186044416 := by simp; omega
  have q4 : ([] ++ x.map cls : List Int).length + (y.map cls).length < 17592186044416 := by simp; omega
  have q5 : ((x.map cls).length : Int) = (x.length : Int) := by simp
  show ductuslaw02_ClassLists.j0 (k + 1) x y false = some true
  simp only [ductuslaw02_ClassLists.j0]
  rw [if_neg (by simp), Option.bind_some, if_pos q1, Option.bind_some, if_pos q2, List.nil_append, e1, Option.bind_some, e2, Option.bind_some, e3, Option.bind_some, if_pos q5, Option.bind_some, if_pos q3, Option.bind_some, if_pos q4, List.nil_append, ← List.map_append, e4, Option.bind_some]
  exact e0
theorem ClassLists : ductuslaw02_ClassLists.Pure := by
  intro x y hm hl hw hm2 hl2 hw2
  refine Ev.rounds ?_
  have hT : Ev (fun k => ductuslaw02_ClassLists.j0 k x y true) true := ev_one fun k => by
    simp only [ductuslaw02_ClassLists.j0]
    rw [if_pos trivial]
  by_cases h : (x.length : Int) > 1000
  · refine ev_same2 alive02 hT fun k ha hk => ?_
    unfold ductuslaw02_ClassLists.f
    rw [ha, Option.bind_some, if_pos rfl, if_pos h]
    exact hk
  · by_cases h2 : (y.length : Int) > 1000
    · refine ev_same2 alive02 hT fun k ha hk => ?_
      unfold ductuslaw02_ClassLists.f
      rw [ha, Option.bind_some, if_pos rfl, if_neg h, decide_eq_true h2]
      exact hk
    · refine ev_same2 alive02 (lists_j0 x y (by omega) (by omega)) fun k ha hk => ?_
      unfold ductuslaw02_ClassLists.f
      rw [ha, Option.bind_some, if_pos rfl, if_neg h, decide_eq_false h2]
      exact hk
end Go.Proofs.YtnbhncmggfjgdaaDoor.Pure
