/- Proved: the pure statement of the law LineParts, that the Lean functions printed for it answer true for every input; no condition beyond the statement's own. -/
import Derived.Test.YtmjipbmpapcboaaPx12
import Derived.Test.YtmjipbmpapcboaaPLinePl
namespace Go.Proofs.Ytmjipbmpapcboaa.Pure
open Go.RowKit Go.Proofs.Ytmjipbmpapcboaa.P Go.Proofs.YtmjipbmpapcboaaW.PrintWords Go.Proofs.YtmjipbmpapcboaaW.PrintLast Go.Proofs.YtmjipbmpapcboaaW.PrintMore
set_option linter.unusedVariables false
set_option linter.unusedSimpArgs false

theorem alive13p : Ev (fun k => ductuslaw13_alive.f k) true := Ev.of ductuslaw13_alive.mono (k := 300) (by decide +kernel)
theorem parts_loop (l : List Int) (n x : Int) (hl : l.length ≤ 1000) (hn : 0 ≤ n ∧ n ≤ 65535) (hx : 0 ≤ x ∧ x ≤ 65535) (hv : validB 0 l n = true) (d : Nat) : ∀ (i : Nat), i ≤ l.length → l.length - i = d →
    ((prevI 0 l i ≤ x ∧ line_Of.ans l x = idxFrom (fun b => decide (x < b)) i (l.drop i)) ∨ (x < prevI 0 l i ∧ 0 ≤ line_Of.ans l x ∧ line_Of.ans l x < (i : Int))) →
    Ev (fun k => ductuslaw13_LineParts.l0 k l n x (spansB 0 l) (prevI 0 l i) (i : Int)) true := by
  obtain ⟨hup, hend⟩ := (valid_iff n l 0).1 hv
  have hsl := spansB_len l 0
  have wn : wrap64 n = n := wrap_id (by omega) (by omega)
  have wx : wrap64 x = x := wrap_id (by omega) (by omega)
  induction d with
  | zero =>
    intro i hi hd hinv
    obtain rfl : i = l.length := by omega
    refine ev_one fun k => ?_
    simp only [ductuslaw13_LineParts.l0]
    rw [if_neg (by rw [hsl]; exact Int.lt_irrefl _), hend, wn, wx, if_pos rfl, of_f l x (Nat.lt_of_le_of_lt hl (by decide)), Option.bind_some]
    by_cases hxn : x < n
    · rw [if_pos hxn]
    · rw [if_neg hxn]
      rw [hend] at hinv
      rcases hinv with ⟨_, h⟩ | ⟨h, _⟩
      · rw [List.drop_length] at h
        rw [h]
        rfl
      · exact absurd h hxn
  | succ d ih =>
    intro i hi hd hinv
    have hil : i < l.length := by clear wn wx; omega
    have hsp := span_at l 0 i hil
    have hlt := hup i hil
    have hnx : prevI 0 l (i + 1) = rd l (i : Int) := by
      unfold prevI
      rw [if_neg (Nat.succ_ne_zero i)]
      rfl
    have hnext := ih (i + 1) hil (by clear wn wx; omega)
    rw [hnx] at hnext
    have q1 : (i : Int) < ((spansB 0 l).length : Int) := by rw [hsl]; clear wn wx; omega
    have q2 : (0 : Int) ≤ (i : Int) := by clear wn wx; omega
    have q3 : ¬ rd l (i : Int) ≤ prevI 0 l i := by clear wn wx; omega
    have q4 : i < 9223372036854775807 := by clear wn wx; omega
    rcases hinv with ⟨hle, hf⟩ | ⟨hlt2, hf0, hf1⟩
    · rw [drop_cons l i hil] at hf
      simp only [idxFrom, decide_eq_true_eq] at hf
      by_cases hxb : x < rd l (i : Int)
      · rw [if_pos hxb] at hf
        refine ev_step (hnext (.inr ⟨hxb, by rw [hf]; exact q2, by rw [hf]; clear wn wx; omega⟩)) fun k hk => ?_
        simp only [ductuslaw13_LineParts.l0]
        rw [if_pos q1, if_pos q2, hsp, if_pos rfl, if_neg q3, wx, if_pos hle, of_f l x (Nat.lt_of_le_of_lt hl (by decide)), Option.bind_some, hf, if_neg (by simp [hxb]), wrap_succ i q4]
        exact hk
      · rw [if_neg hxb] at hf
        have hge := idx_ge (fun b => decide (x < b)) (l.drop (i + 1)) (i + 1)
        have hne : ¬ line_Of.ans l x = (i : Int) := by
          rw [hf]
          clear wn wx
          omega
        refine ev_step (hnext (.inl ⟨by clear wn wx; omega, hf⟩)) fun k hk => ?_
        simp only [ductuslaw13_LineParts.l0]
        rw [if_pos q1, if_pos q2, hsp, if_pos rfl, if_neg q3, wx, if_pos hle, of_f l x (Nat.lt_of_le_of_lt hl (by decide)), Option.bind_some, if_neg (by simp [hxb, hne]), wrap_succ i q4]
        exact hk
    · have hne : ¬ line_Of.ans l x = (i : Int) := by clear wn wx; omega
      refine ev_step (hnext (.inr ⟨by clear wn wx; omega, hf0, by clear wn wx; omega⟩)) fun k hk => ?_
      simp only [ductuslaw13_LineParts.l0]
      have q5 : ¬ x ≥ prevI 0 l i := by clear wn wx; omega
      rw [if_pos q1, if_pos q2, hsp, if_pos rfl, if_neg q3, wx, if_neg q5, of_f l x (Nat.lt_of_le_of_lt hl (by decide)), Option.bind_some, if_neg (by simp [hne]), wrap_succ i q4]
      exact hk
theorem u16_bd {x : Int} (h : (Lit.int .u16 x).wf = true) : 0 ≤ x ∧ x ≤ 65535 := by
  have hmin : IntKind.u16.min = 0 := rfl
  have hmax : IntKind.u16.max = 65535 := rfl
  simp only [Lit.wf, Bool.and_eq_true, decide_eq_true_eq] at h
  omega
theorem LineParts : ductuslaw13_LineParts.Pure := by
  intro l n x hm hl hw wn wx
  have hn := u16_bd wn
  have hx := u16_bd wx
  refine Ev.rounds ?_
  by_cases h : (l.length : Int) > 1000
  · refine ev_same alive13p fun k ha => ?_
    unfold ductuslaw13_LineParts.f
    rw [ha, Option.bind_some, if_pos rfl, if_pos h]
  · have hl2 := lines_ev l n (by omega)
    by_cases hv : validB 0 l n = true
    · unfold linesM at hl2
      rw [if_pos hv] at hl2
      have h0 := parts_loop l n x (by omega) hn hx hv l.length 0 (by omega) (by omega) (.inl ⟨by unfold prevI; rw [if_pos rfl]; exact hx.1, by unfold line_Of.ans; rw [if_neg (by omega)]; rfl⟩)
      refine ev_same3 alive13p hl2 h0 fun k ha h1 h0 => ?_
      unfold ductuslaw13_LineParts.f
      rw [ha, Option.bind_some, if_pos rfl, if_neg h, wrap_id (by omega) (by omega), h1, Option.bind_some, if_pos rfl]
      exact h0
    · unfold linesM at hl2
      rw [if_neg hv] at hl2
      refine ev_same2 alive13p hl2 fun k ha h1 => ?_
      unfold ductuslaw13_LineParts.f
      rw [ha, Option.bind_some, if_pos rfl, if_neg h, wrap_id (by omega) (by omega), h1, Option.bind_some, if_neg (by decide)]
      rfl
end Go.Proofs.Ytmjipbmpapcboaa.Pure
