/- Proved: the pure statement of the law WeakSteps, that the Lean functions told for it answer true for every input; no condition beyond the statement's own. -/
import Derived.Test.YtgoebfeojkgimaaDoorSSteps
import Derived.Test.YtgoebfeojkgimaaDoorPWkR
namespace Go.Proofs.YtgoebfeojkgimaaDoor.Pure
open Go.RowKit Go.Proofs.YtgoebfeojkgimaaDoor.P Go.Proofs.YtgoebfeojkgimaaDoorW.PrintWords Go.Proofs.YtgoebfeojkgimaaDoorW.PrintLast Go.Proofs.YtgoebfeojkgimaaDoorW.PrintMore
set_option linter.unusedVariables false
set_option linter.unusedSimpArgs false

theorem chain_len (sos : Int) (d : Nat) : ∀ (n : Nat) (l r : List Int), Chain sos n d l r → r.length = l.length := by
  induction d with
  | zero =>
    intro n l r h
    have h : r = l := h
    rw [h]
  | succ d ih =>
    rintro n l r ⟨m, _, s, _, h⟩
    rw [ih _ _ _ h, s.1]
theorem steps_loop (l : List Int) (hl : l.length ≤ 200) (sos : Int) (r : List Int) (hof : Ev (fun k => weak_Of.f k l sos) r) (d : Nat) : ∀ (n : Nat) (out p : List Int), 1 ≤ n → n + d = 8 → out.length = l.length → Ev (fun k => weak_plain.f k out) p → Step PlainP out p → (d = 0 → p = out) → Chain sos n d p r → Ev (fun k => ductuslaw09_WeakSteps.l0 k l sos out (n : Int)) true := by
  induction d with
  | zero =>
    intro n out p h1 h2 hlen _ _ hp hc
    have hc : r = p := hc
    subst hc
    have hp := hp rfl
    subst hp
    have h3 := ints_ev r (by omega)
    refine ev_step2 hof h3 fun k hk hk2 => ?_
    simp only [ductuslaw09_WeakSteps.l0]
    rw [if_neg (by omega), hk, Option.bind_some, hk2, Option.bind_some]
  | succ d ih =>
    intro n out p h1 h2 hlen hp sp _ hc
    obtain ⟨m, e, s, b, hc⟩ := hc
    have hw1 : wrap64 ((n : Int) + 1) = ((n + 1 : Nat) : Int) := wrap_succ n (by omega)
    have lp := sp.1
    have lm := s.1
    have hrm : Rng m := step_rng (plain_rng sp) s
    obtain ⟨q, hq, sq⟩ := plain_ev m (by omega)
    have eq := plain_same hrm sq
    have key := ih (n + 1) m q (by omega) (by omega) (by omega) hq sq (fun _ => eq) (by rw [eq]; exact hc)
    have hrule : Ev (fun k => weak_Rule.f k out sos (n : Int)) m := ev_same2 hp e fun k hk hk2 => by
      unfold weak_Rule.f
      rw [hk, Option.bind_some, side_f2, Option.bind_some, hk2]
      rfl
    refine ev_step2 hrule key fun k hk hk2 => ?_
    simp only [ductuslaw09_WeakSteps.l0]
    rw [if_pos (by omega), hk, Option.bind_some, if_pos (by omega), hw1]
    exact hk2
theorem WeakSteps : ductuslaw09_WeakSteps.Pure := by
  intro l sos hm hl hw ws
  refine Ev.rounds ?_
  by_cases h : (l.length : Int) > 200
  · refine ev_same alive09 fun k hk => ?_
    unfold ductuslaw09_WeakSteps.f
    rw [hk, Option.bind_some, if_pos rfl, if_pos h]
  · obtain ⟨p, r, hp, sp, hc, he⟩ := of_ev l (by omega) sos
    have := steps_loop l (by omega) sos r he 7 1 l p (by omega) (by omega) rfl hp sp (by omega) hc
    refine ev_same2 alive09 this fun k hk hk2 => ?_
    unfold ductuslaw09_WeakSteps.f
    rw [hk, Option.bind_some, if_pos rfl, if_neg h]
    exact hk2
end Go.Proofs.YtgoebfeojkgimaaDoor.Pure
