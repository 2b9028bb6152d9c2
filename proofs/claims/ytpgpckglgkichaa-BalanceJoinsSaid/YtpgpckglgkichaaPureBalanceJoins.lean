/- Proved: the pure statement of the law BalanceJoins, that the Lean functions printed for it answer true for every input; no condition beyond the statement's own. -/
import Derived.Test.YtpgpckglgkichaaPx10
import Derived.Test.YtpgpckglgkichaaPBalP
namespace Go.Proofs.Ytpgpckglgkichaa.Pure
open Go.RowKit Go.Proofs.Ytpgpckglgkichaa.P Go.Proofs.YtpgpckglgkichaaW.PrintWords Go.Proofs.YtpgpckglgkichaaW.PrintLast Go.Proofs.YtpgpckglgkichaaW.PrintMore
set_option linter.unusedVariables false
set_option linter.unusedSimpArgs false

theorem joins_j3 (x y : List Int) (m n o c : Int) (hx : x.length ≤ 1000) (hy : y.length ≤ 1000) (h0 : 0 ≤ m) (h1 : 0 ≤ n) (hn1000 : n ≤ 1000) (ha : runM [] 0 x = some ([], m)) (hb : runM [] 0 y = some ([], n)) (hn : ∀ c ∈ y, cls c ≠ 10) (ho : closerK (cls o) = cls c) (hc : cls c = 18 ∨ cls c = 22) :
    Ev (fun k => ductuslaw26_BalanceJoins.j3 k x y o c) true := by
  refine ev_one fun k => ?_
  have hrun := run_in_close x y m n o c h0 h1 ha hb hn ho hc
  have hin := run_in x y m n o h0 ha hb hn (by omega)
  have e1 : ([] ++ x ++ [o]) ++ ([] ++ y ++ [c]) = x ++ [o] ++ y ++ [c] := by simp
  have hL : (x ++ [o] ++ y ++ [c]).length = x.length + 1 + y.length + 1 := by simp; omega
  have hL2 : (x ++ [o] ++ y).length = x.length + 1 + y.length := by simp; omega
  have hw1 : wrap64 (1 + n) = 1 + n := wrap_id (by omega) (by omega)
  have hd : (walkM 0 [] 0 (x ++ [o] ++ y ++ [c])).2.1 = mx m (1 + n) := by rw [right_run hrun]
  have hdx : (walkM 0 [] 0 x).2.1 = m := by rw [right_run ha]
  have hdy : (walkM 0 [] 0 y).2.1 = n := by rw [right_run hb]
  have hr : (walkM 0 [] 0 (x ++ [o] ++ y ++ [c])).2.2 = -1 := by rw [right_run hrun]
  have ht : (x ++ [o] ++ y ++ [c]).take (x.length + 1 + y.length) = x ++ [o] ++ y := by rw [List.take_left' hL2]
  have hwi : (walkM 0 [] 0 (x ++ [o] ++ y)).2.2 = ((x.length + 1 + y.length : Nat) : Int) := by
    rw [walk_run _ 0 [] 0 _ hin, ← hL2]
    dsimp only
    rw [if_neg (by simp), Nat.zero_add]
  have hwl : wrap64 (((x ++ [o] ++ y ++ [c]).length : Int) - 1) = ((x.length + 1 + y.length : Nat) : Int) := by
    rw [hL, show ((x.length + 1 + y.length + 1 : Nat) : Int) - 1 = ((x.length + 1 + y.length : Nat) : Int) from by omega]
    exact wrap_id (by omega) (by omega)
  have g1 : ([] ++ x : List Int).length < 17592186044416 := by rw [List.nil_append]; omega
  have g2 : ([] ++ y : List Int).length < 17592186044416 := by rw [List.nil_append]; omega
  have g3 : ([] ++ x ++ [o] : List Int).length + ([] ++ y ++ [c]).length < 17592186044416 := by simp; omega
  have g4 : (x ++ [o] ++ y ++ [c]).length < 8796093022208 := by omega
  have g5 : (x ++ [o] ++ y).length < 8796093022208 := by omega
  have g6 : (0 : Int) ≤ ((x.length + 1 + y.length : Nat) : Int) := by omega
  have g7 : ((x.length + 1 + y.length : Nat) : Int) ≤ ((x ++ [o] ++ y ++ [c]).length : Int) := by omega
  have g8 : ([] : List Int).length + x.length < 17592186044416 := by simp; omega
  have g9 : ([] : List Int).length + y.length < 17592186044416 := by simp; omega
  have g10 : x.length < 8796093022208 := by omega
  have g11 : y.length < 8796093022208 := by omega
  simp only [ductuslaw26_BalanceJoins.j3]
  rw [Option.bind_some, if_pos g8, Option.bind_some, if_pos g1, Option.bind_some, Option.bind_some, if_pos g9, Option.bind_some, if_pos g2, Option.bind_some, if_pos g3, Option.bind_some, e1, right_f _ g4, Option.bind_some, hr, if_pos (by decide), depth_f _ g4, Option.bind_some, depth_f _ g10, Option.bind_some, depth_f _ g11, Option.bind_some, hd, hdx, hdy, hw1, if_pos rfl, hwl, if_pos g6, if_pos g7, Int.toNat_natCast, ht, wrong_f _ g5, Option.bind_some, hwi]
  simp
theorem joins_l0 (z : Int) (x y : List Int) (m n : Int) (hx : x.length ≤ 1000) (hy : y.length ≤ 1000) (h0 : 0 ≤ m) (h1 : 0 ≤ n) (hn1000 : n ≤ 1000) (ha : runM [] 0 x = some ([], m)) (hb : runM [] 0 y = some ([], n)) (d : Nat) : ∀ i : Nat, i ≤ y.length → y.length - i = d → (∀ c ∈ y.take i, cls c ≠ 10) →
    Ev (fun k => ductuslaw26_BalanceJoins.l0 k z x y (i : Int)) true := by
  induction d with
  | zero =>
    intro i hi hd hn
    rw [List.take_of_length_le (by omega)] at hn
    have o1 : closerK (cls 8296) = cls 8297 ∧ (cls 8297 = 18 ∨ cls 8297 = 22) := by decide +kernel
    have o2 : closerK (cls 8234) = cls 8236 ∧ (cls 8236 = 18 ∨ cls 8236 = 22) := by decide +kernel
    have q1 := joins_j3 x y m n 8296 8297 hx hy h0 h1 hn1000 ha hb hn o1.1 o1.2
    have q2 := joins_j3 x y m n 8234 8236 hx hy h0 h1 hn1000 ha hb hn o2.1 o2.2
    refine ev_step2 q1 q2 fun k hk hk2 => ?_
    simp only [ductuslaw26_BalanceJoins.l0]
    rw [if_neg (by omega)]
    by_cases hz : Int.tmod z 2 = 1
    · rw [if_pos hz]
      exact hk
    · rw [if_neg hz]
      exact hk2
  | succ d ih =>
    intro i hi hd hn
    have w1 : wrap64 ((i : Int) + 1) = ((i + 1 : Nat) : Int) := wrap_succ i (by omega)
    have g1 : (i : Int) < (y.length : Int) := by omega
    have g2 : (0 : Int) ≤ (i : Int) := by omega
    by_cases hc : cls (rd y (i : Int)) = 10
    · refine ev_one fun k => ?_
      simp only [ductuslaw26_BalanceJoins.l0]
      rw [if_pos g1, if_pos g2, show ductusref02_Of.f (rd y (i : Int)) = some (cls (rd y (i : Int))) from rfl, Option.bind_some, if_pos hc]
    · refine ev_step (ih (i + 1) (by omega) (by omega) fun c hm => ?_) fun k hk => ?_
      · rw [List.take_succ_eq_append_getElem (by omega), ← rd_get y i (by omega)] at hm
        rcases List.mem_append.1 hm with h | h
        · exact hn c h
        · obtain rfl := List.mem_singleton.1 h
          exact hc
      · simp only [ductuslaw26_BalanceJoins.l0]
        rw [if_pos g1, if_pos g2, show ductusref02_Of.f (rd y (i : Int)) = some (cls (rd y (i : Int))) from rfl, Option.bind_some, if_neg hc, w1]
        exact hk
theorem joins_j0 (x y : List Int) (z : Int) (hx : x.length ≤ 500) (hy : y.length ≤ 500) : Ev (fun k => ductuslaw26_BalanceJoins.j0 k x y z false) true := by
  obtain ⟨m, hm, hm0, hml, hmd⟩ := close_run x
  obtain ⟨n, hn, hn0, hnl, hnd⟩ := close_run y
  have lx := close_len x
  have ly := close_len y
  have hj := joins_l0 z (closeM x) (closeM y) m n (by omega) (by omega) hm0 hn0 (by omega) hm hn (closeM y).length 0 (by omega) (by omega) (by simp)
  have hrun := run_join (closeM x) (closeM y) m n hm0 hm hn
  have hb : (walkM 0 [] 0 (closeM x ++ closeM y)).2.1 = mx m n := by rw [right_run hrun]
  have hbx : (walkM 0 [] 0 (closeM x)).2.1 = m := by rw [right_run hm]
  have hby : (walkM 0 [] 0 (closeM y)).2.1 = n := by rw [right_run hn]
  have hrx : (walkM 0 [] 0 (closeM x)).2.2 = -1 := by rw [right_run hm]
  have hrb : (walkM 0 [] 0 (closeM x ++ closeM y)).2.2 = -1 := by rw [right_run hrun]
  have hL : (closeM x ++ closeM y).length ≤ 2000 := by rw [List.length_append]; omega
  have hj1 : Ev (fun k => ductuslaw26_BalanceJoins.j1 k z (closeM x) (closeM y) false) true := by
    refine ev_step hj fun k hk => ?_
    simp only [ductuslaw26_BalanceJoins.j1]
    rw [if_neg (by simp)]
    exact hk
  have g1 : ([] : List Int).length + (closeM x).length < 17592186044416 := by simp; omega
  have g2 : ([] ++ closeM x : List Int).length + (closeM y).length < 17592186044416 := by rw [List.nil_append]; omega
  have g3 : (closeM x).length < 8796093022208 := by omega
  have g4 : (closeM y).length < 8796093022208 := by omega
  have g5 : (closeM x ++ closeM y).length < 8796093022208 := by omega
  have g6 : x.length < 4398046511104 := by omega
  have g7 : y.length < 4398046511104 := by omega
  refine ev_step hj1 fun k hk => ?_
  simp only [ductuslaw26_BalanceJoins.j0]
  rw [if_neg (by simp), close_f x g6, Option.bind_some, close_f y g7, Option.bind_some, Option.bind_some, if_pos g1, Option.bind_some, if_pos g2, Option.bind_some, List.nil_append, right_f _ g3, Option.bind_some, hrx, if_pos (by decide), right_f _ g5, Option.bind_some, hrb, if_pos (by decide), depth_f _ g5, Option.bind_some, depth_f _ g3, Option.bind_some, depth_f _ g4, Option.bind_some, hb, hbx, hby, bne_self_eq_false]
  exact hk
theorem BalanceJoins : ductuslaw26_BalanceJoins.Pure := by
  intro x y z hm hl hw hm2 hl2 hw2 hz
  refine Ev.rounds ?_
  have hT : Ev (fun k => ductuslaw26_BalanceJoins.j0 k x y z true) true := ev_one fun k => by
    simp only [ductuslaw26_BalanceJoins.j0]
    rw [if_pos trivial]
  by_cases h : (x.length : Int) > 500
  · refine ev_same2 alive26 hT fun k ha hk => ?_
    unfold ductuslaw26_BalanceJoins.f
    rw [ha, Option.bind_some, if_pos rfl, if_pos h]
    exact hk
  · by_cases h2 : (y.length : Int) > 500
    · refine ev_same2 alive26 hT fun k ha hk => ?_
      unfold ductuslaw26_BalanceJoins.f
      rw [ha, Option.bind_some, if_pos rfl, if_neg h, decide_eq_true h2]
      exact hk
    · refine ev_same2 alive26 (joins_j0 x y z (by omega) (by omega)) fun k ha hk => ?_
      unfold ductuslaw26_BalanceJoins.f
      rw [ha, Option.bind_some, if_pos rfl, if_neg h, decide_eq_false h2]
      exact hk
end Go.Proofs.Ytpgpckglgkichaa.Pure
