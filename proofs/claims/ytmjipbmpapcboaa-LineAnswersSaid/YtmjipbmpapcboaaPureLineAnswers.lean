/- Proved: the pure statement of the law LineAnswers, that the Lean functions printed for it answer true for every input; no condition beyond the statement's own. -/
import Derived.Test.YtmjipbmpapcboaaPx8
import Derived.Test.YtmjipbmpapcboaaPInts
import Derived.Test.YtmjipbmpapcboaaPLine
namespace Go.Proofs.Ytmjipbmpapcboaa.Pure
open Go.RowKit Go.Proofs.Ytmjipbmpapcboaa.P Go.Proofs.YtmjipbmpapcboaaW.PrintWords Go.Proofs.YtmjipbmpapcboaaW.PrintLast Go.Proofs.YtmjipbmpapcboaaW.PrintMore
set_option linter.unusedVariables false
set_option linter.unusedSimpArgs false

theorem alive13a : Ev (fun k => ductuslaw13_alive.f k) true := Ev.of ductuslaw13_alive.mono (k := 300) (by decide +kernel)
theorem end13 (l : List Int) (n i : Int) (hl : l.length ≤ 1000) (hi : i ≤ 9223372036854775807) (s : List Sp) (j : Nat) (hj : j = s.length) : Ev (fun k => ductuslaw13_LineAnswers.l0 k l n i s s (j : Int)) true := by
  obtain ⟨K1, e1⟩ := rright_ev l n (by omega)
  obtain ⟨K2, e2⟩ := right_ev l n (by omega)
  obtain ⟨K3, e3⟩ := rof_ev l i (by omega)
  obtain ⟨K4, e4⟩ := wrap_ev n i hi
  obtain ⟨K5, e5⟩ := rwrap_ev n i
  have hwl := wrapM_len n i
  refine ⟨K1 + K2 + K3 + K4 + K5 + 5000, fun k hk => ?_⟩
  obtain ⟨k, rfl⟩ : ∃ m, k = m + 1 := ⟨k - 1, by omega⟩
  replace e1 := e1 k (by omega)
  replace e2 := e2 k (by omega)
  replace e3 := e3 k (by omega)
  replace e4 := e4 k (by omega)
  replace e5 := e5 k (by omega)
  dsimp only at e1 e2 e3 e4 e5
  simp only [ductuslaw13_LineAnswers.l0]
  rw [if_neg (by omega), e1, Option.bind_some, e2, Option.bind_some, if_pos (by simp), e4, Option.bind_some, e5, Option.bind_some, ints_same k _ (by omega) (by omega), Option.bind_some, of_f l i (by omega), Option.bind_some, e3, Option.bind_some, if_pos rfl]
  split <;> rfl
theorem loop13 (l : List Int) (n i : Int) (hl : l.length ≤ 1000) (hi : i ≤ 9223372036854775807) (s : List Sp) (hs : s.length < 8796093022208) (d : Nat) : ∀ (j : Nat), j ≤ s.length → s.length - j = d → Ev (fun k => ductuslaw13_LineAnswers.l0 k l n i s s (j : Int)) true := by
  induction d with
  | zero => intro j hj hd; exact end13 l n i hl hi s j (by omega)
  | succ d ih =>
    intro j hj hd
    refine ev_step (ih (j + 1) (by omega) (by omega)) fun k hk => ?_
    simp only [ductuslaw13_LineAnswers.l0]
    rw [if_pos (by omega), if_pos (by omega), if_pos (by omega), if_neg (by simp), wrap_succ j (by omega)]
    exact hk
theorem LineAnswers : ductuslaw13_LineAnswers.Pure := by
  intro l n i hm hl hw wn wi
  have hi := wf_bound wi
  refine Ev.rounds ?_
  by_cases h : (l.length : Int) > 1000
  · refine ev_same alive13a fun k ha => ?_
    unfold ductuslaw13_LineAnswers.f
    rw [ha, Option.bind_some, if_pos rfl, if_pos h]
  · have hs : (linesM l n).1.length < 8796093022208 := by
      unfold linesM
      split
      · rw [spansB_len]
        omega
      · simp
    have h0 := loop13 l n i (by omega) hi.2 (linesM l n).1 hs (linesM l n).1.length 0 (by omega) (by omega)
    have h1 : Ev (fun k => ductuslaw13_LineAnswers.j0 k l n i (linesM l n).1 (linesM l n).1 false) true := ev_step h0 fun k hk => by
      simp only [ductuslaw13_LineAnswers.j0]
      rw [if_neg (by decide)]
      exact hk
    refine ev_same3 alive13a (ev_and (lines_ev l n (by omega)) (rlines_ev l n (by omega))) h1 fun k ha h2 h1 => ?_
    obtain ⟨e1, e2⟩ := ev_fst h2
    unfold ductuslaw13_LineAnswers.f
    rw [ha, Option.bind_some, if_pos rfl, if_neg h, e1, Option.bind_some, e2, Option.bind_some, if_pos rfl]
    have e : ((linesM l n).2 != (linesM l n).2) = false := by simp
    rw [e]
    exact h1
end Go.Proofs.Ytmjipbmpapcboaa.Pure
