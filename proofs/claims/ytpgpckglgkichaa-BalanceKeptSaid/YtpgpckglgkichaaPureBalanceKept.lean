/- Proved: the pure statement of the law BalanceKept, that the Lean functions printed for it answer true for every input; no condition beyond the statement's own. -/
import Derived.Test.YtpgpckglgkichaaPx12
import Derived.Test.YtpgpckglgkichaaPBalP
namespace Go.Proofs.Ytpgpckglgkichaa.Pure
open Go.RowKit Go.Proofs.Ytpgpckglgkichaa.P Go.Proofs.YtpgpckglgkichaaW.PrintWords Go.Proofs.YtpgpckglgkichaaW.PrintLast Go.Proofs.YtpgpckglgkichaaW.PrintMore
set_option linter.unusedVariables false
set_option linter.unusedSimpArgs false

theorem core_eq {a b : List Int × Int × Int} (h : core a = core b) : a.2.1 = b.2.1 ∧ decide (a.2.2 = -1) = decide (b.2.2 = -1) := by
  unfold core at h
  injection h with _ h
  injection h with h1 h2
  exact ⟨h1, h2⟩
/-- A character alone is right when nothing sees it, or when it parts paragraphs. -/
theorem one_right (c : Int) (h : decide ((walkM 0 [] 0 [c]).2.2 = -1) = true) (h10 : cls c ≠ 10) : nn c = false ∧ opc c = false := by
  rw [decide_eq_true_eq] at h
  have e : walkM 0 [] 0 [c] = if (stepM [] 0 (cls c)).1 = true then walkM 1 (stepM [] 0 (cls c)).2.1 (stepM [] 0 (cls c)).2.2 [] else ((stepM [] 0 (cls c)).2.1, (stepM [] 0 (cls c)).2.2, ((0 : Nat) : Int)) := rfl
  have ho : opc c = false := by
    unfold opc opcK
    by_cases h1 : closerK (cls c) ≠ -1
    · exfalso
      have hs : stepM [] 0 (cls c) = (true, [closerK (cls c)], mx 0 1) := by
        unfold stepM
        rw [if_pos h1]
        rfl
      rw [e, hs, if_pos rfl] at h
      have e2 : walkM 1 [closerK (cls c)] (mx 0 1) [] = ([closerK (cls c)], mx 0 1, 1) := rfl
      dsimp only at h
      rw [e2] at h
      have h' : (1 : Int) = -1 := h
      omega
    · rw [decide_eq_false h1, Bool.false_or]
      by_cases h3 : cls c = 18 ∨ cls c = 22
      · exfalso
        have hs : stepM [] 0 (cls c) = (false, [], 0) := by
          unfold stepM
          rw [if_neg h1, if_neg h10, if_pos h3, if_neg (by simp)]
        rw [e, hs, if_neg (by simp)] at h
        exact absurd h (by decide)
      · rw [decide_eq_false h3]
  refine ⟨?_, ho⟩
  unfold nn
  rw [ho, decide_eq_false h10]
  rfl
theorem kept_false (l : List Int) (a b : Int) (hl : l.length ≤ 500) : Ev (fun k => ductuslaw26_BalanceKept.j0 k l a b false) true := by
  have g1 : l.length < 8796093022208 := by omega
  have g2 : l.length < 17592186044416 := by omega
  have hb := walk_bnd l 0 [] 0 ((l.filter opc).length : Int) (by omega) (by simp) (by simp)
  refine ev_one fun k => ?_
  simp only [ductuslaw26_BalanceKept.j0]
  rw [if_neg (by simp), depth_f _ g1, Option.bind_some, if_pos hb.1, Option.bind_some, ctl_f _ g2, Option.bind_some, decide_eq_true hb.2.1]
theorem kept_true (l : List Int) (a b : Int) (hl : l.length ≤ 500) (ha : 0 ≤ a ∧ a ≤ 65535) (hb : 0 ≤ b ∧ b ≤ 255) (hn : nn a = false) (ho : opc a = false) : Ev (fun k => ductuslaw26_BalanceKept.j0 k l a b true) true := by
  obtain ⟨q, hq⟩ : ∃ q : Nat, (q : Int) = Int.tmod b ((l.length + 1 : Nat) : Int) := ⟨(Int.tmod b ((l.length + 1 : Nat) : Int)).toNat, Int.toNat_of_nonneg (Int.tmod_nonneg _ hb.1)⟩
  have hql : q ≤ l.length := by
    have := Int.tmod_lt_of_pos b (show (0 : Int) < ((l.length + 1 : Nat) : Int) by omega)
    omega
  have ht : (l.take q).length = q := by rw [List.length_take]; omega
  have hd : (l.drop q).length = l.length - q := List.length_drop ..
  have fo : (l.take q ++ [a] ++ l.drop q).filter opc = l.filter opc := by
    rw [List.filter_append, List.filter_append, List.filter_cons_of_neg (by simp [ho]), List.filter_nil, List.append_nil, ← List.filter_append, List.take_append_drop]
  have fn : (l.take q ++ [a] ++ l.drop q).filter nn = l.filter nn := by
    rw [List.filter_append, List.filter_append, List.filter_cons_of_neg (by simp [hn]), List.filter_nil, List.append_nil, ← List.filter_append, List.take_append_drop]
  obtain ⟨hdp, hrt⟩ := core_eq (core_same _ _ fn)
  have hL : (l.take q ++ [a] ++ l.drop q).length = l.length + 1 := by simp; omega
  have g1 : l.length < 8796093022208 := by omega
  have g2 : l.length < 17592186044416 := by omega
  have g3 : (l.take q ++ [a] ++ l.drop q).length < 8796093022208 := by omega
  have g4 : (l.take q ++ [a] ++ l.drop q).length < 17592186044416 := by omega
  have g5 : ¬ ((l.length + 1 : Nat) : Int) = 0 := by omega
  have g6 : (0 : Int) ≤ (q : Int) := by omega
  have g7 : (q : Int) ≤ (l.length : Int) := by omega
  have g8 : ([] : List Int).length + (l.take q).length < 17592186044416 := by rw [ht]; simp; omega
  have g9 : ([] ++ l.take q : List Int).length + [a].length < 17592186044416 := by rw [List.nil_append, ht]; simp; omega
  have g10 : ([] ++ l.take q ++ [a] : List Int).length + (l.drop q).length < 17592186044416 := by rw [List.nil_append, List.length_append, ht, hd]; simp; omega
  have hfl := List.length_filter_le opc l
  have hie := ints_ev (l.filter opc) (by omega)
  have q1 : l.length < 9223372036854775807 := by omega
  have q2 : -9223372036854775808 ≤ a ∧ a ≤ 9223372036854775807 := by omega
  have q3 : -9223372036854775808 ≤ b ∧ b ≤ 9223372036854775807 := by omega
  have w1 : wrap64 ((l.length : Int) + 1) = ((l.length + 1 : Nat) : Int) := wrap_succ _ q1
  have wa : wrap64 a = a := wrap_id q2.1 q2.2
  have wb : wrap64 b = b := wrap_id q3.1 q3.2
  refine ev_step hie fun k hi => ?_
  simp only [ductuslaw26_BalanceKept.j0]
  rw [if_pos trivial, w1, wb, wa, if_neg g5, Option.bind_some, ← hq, if_pos g6, if_pos g7, Int.toNat_natCast, if_pos g8, Option.bind_some, Option.bind_some, if_pos g9, Option.bind_some, if_pos g10, Option.bind_some, List.nil_append, right_f _ g3, Option.bind_some, right_f _ g1, Option.bind_some, hrt, if_pos (by simp), depth_f _ g3, Option.bind_some, depth_f _ g1, Option.bind_some, if_pos hdp, ctl_f _ g4, Option.bind_some, ctl_f _ g2, Option.bind_some, fo, hi]
  rfl
theorem u16_bd {x : Int} (h : (Lit.int .u16 x).wf = true) : 0 ≤ x ∧ x ≤ 65535 := by
  have hmin : IntKind.u16.min = 0 := rfl
  have hmax : IntKind.u16.max = 65535 := rfl
  simp only [Lit.wf, Bool.and_eq_true, decide_eq_true_eq] at h
  omega
theorem u8_bd {x : Int} (h : (Lit.int .u8 x).wf = true) : 0 ≤ x ∧ x ≤ 255 := by
  have hmin : IntKind.u8.min = 0 := rfl
  have hmax : IntKind.u8.max = 255 := rfl
  simp only [Lit.wf, Bool.and_eq_true, decide_eq_true_eq] at h
  omega
theorem BalanceKept : ductuslaw26_BalanceKept.Pure := by
  intro l a b hm hl hw wa wb
  have ha := u16_bd wa
  have hb := u8_bd wb
  refine Ev.rounds ?_
  by_cases h : (l.length : Int) > 500
  · refine ev_same alive26 fun k hk => ?_
    unfold ductuslaw26_BalanceKept.f
    rw [hk, Option.bind_some, if_pos rfl, if_pos h]
  · have ew : wrap64 a = a := wrap_id (by omega) (by omega)
    have hr := rright_ev [a] (by simp)
    have hF := kept_false l a b (by omega)
    by_cases h1 : decide ((walkM 0 [] 0 [a]).2.2 = -1) = true
    · by_cases h10 : cls a = 10
      · refine ev_same3 alive26 hr hF fun k hk hk2 hk3 => ?_
        unfold ductuslaw26_BalanceKept.f
        rw [hk, Option.bind_some, if_pos rfl, if_neg h, ew, show ductusref02_Of.f a = some (cls a) from rfl, Option.bind_some, hk2, Option.bind_some, if_pos h1, h10]
        exact hk3
      · obtain ⟨hn, ho⟩ := one_right a h1 h10
        refine ev_same3 alive26 hr (kept_true l a b (by omega) ha hb hn ho) fun k hk hk2 hk3 => ?_
        unfold ductuslaw26_BalanceKept.f
        have e : (cls a != 10) = true := by simpa using h10
        rw [hk, Option.bind_some, if_pos rfl, if_neg h, ew, show ductusref02_Of.f a = some (cls a) from rfl, Option.bind_some, hk2, Option.bind_some, if_pos h1, e]
        exact hk3
    · refine ev_same3 alive26 hr hF fun k hk hk2 hk3 => ?_
      unfold ductuslaw26_BalanceKept.f
      rw [hk, Option.bind_some, if_pos rfl, if_neg h, ew, show ductusref02_Of.f a = some (cls a) from rfl, Option.bind_some, hk2, Option.bind_some, if_neg h1]
      exact hk3
end Go.Proofs.Ytpgpckglgkichaa.Pure
