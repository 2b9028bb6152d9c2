/- Proved: what the document's answers for balance tell: one walk, as the program's; condition: a list shorter than 2^42. -/
import Derived.Test.YtpgpckglgkichaaPBal
import Derived.Test.YtpgpckglgkichaaPx9
namespace Go.Proofs.Ytpgpckglgkichaa.P
open Go.RowKit Go.Proofs.YtpgpckglgkichaaW.PrintWords Go.Proofs.YtpgpckglgkichaaW.PrintLast Go.Proofs.YtpgpckglgkichaaW.PrintMore
set_option linter.unusedVariables false
set_option linter.unusedSimpArgs false

/-- What a class does. -/
def roleK (k : Int) : Int := if closerK k = 18 then 1 else if closerK k = 22 then 2 else if k = 18 then -1 else if k = 22 then -2 else if k = 10 then 3 else 0
theorem role_eq (c : Int) (k : Nat) : ductusref26_role.f (k + 2) c = some (roleK (cls c)) := by
  unfold ductusref26_role.f
  rw [show ductusref02_Of.f c = some (cls c) from rfl, Option.bind_some]
  generalize cls c = q
  simp only [ductusref26_role.j0, ductusref26_role.j1]
  unfold roleK closerK
  by_cases h1 : q = 14
  · simp [h1]
  · by_cases h2 : q = 16
    · simp [h2]
    · by_cases h3 : q = 15
      · simp [h3]
      · by_cases h4 : q = 17
        · simp [h4]
        · by_cases h5 : q = 19
          · simp [h5]
          · by_cases h6 : q = 20
            · simp [h6]
            · by_cases h7 : q = 21
              · simp [h7]
              · simp only [h1, h2, h3, h4, h5, h6, h7]
                by_cases h8 : q = 18
                · simp [h8]
                · by_cases h9 : q = 22
                  · simp [h9]
                  · by_cases h10 : q = 10
                    · simp [h10]
                    · simp [h4, h7, h8, h9, h10]
theorem role_ev (c : Int) : Ev (fun k => ductusref26_role.f k c) (roleK (cls c)) := ⟨2, fun k hk => by
  obtain ⟨j, rfl⟩ : ∃ j, k = j + 2 := ⟨k - 2, by omega⟩
  exact role_eq c j⟩
def bk (x : Int) : Int := if x = 18 then 1 else 2
theorem rd_bk (p : List Int) (x : Int) : rd ((p ++ [x]).map bk) ((((p ++ [x]).map bk).length - 1 : Nat) : Int) = bk x := by
  rw [List.map_append, List.map_singleton, rd_last]
theorem role_open {k : Int} (h : closerK k ≠ -1) : roleK k = bk (closerK k) ∧ (roleK k = 1 ∨ roleK k = 2) := by
  unfold roleK bk
  rcases closer_or k with h1 | h1 | h1
  · exact (h h1).elim
  · rw [h1]; exact ⟨rfl, .inl rfl⟩
  · rw [h1]; exact ⟨rfl, .inr rfl⟩
theorem role_close {k : Int} (h : k = 18 ∨ k = 22) : roleK k = -(bk k) := by
  rcases h with rfl | rfl <;> decide
/-- The answer of a walk, as the document keeps it. -/
def rans (t : List Int × Int × Int) : Int × List Int × Int := (t.2.2, t.1.map bk, t.2.1)
set_option maxHeartbeats 1000000 in
theorem rwalk_loop (l : List Int) (hl : l.length < 4398046511104) (d : Nat) : ∀ (i : Nat) (op : List Int) (m : Int), i ≤ l.length → l.length - i = d → op.length ≤ i → (∀ x ∈ op, x = 18 ∨ x = 22) →
    Ev (fun k => ductusref26_walk.l0 k l (op.map bk) m (i : Int)) (rans (walkM i op m (l.drop i))) := by
  induction d with
  | zero =>
    intro i op m hi hd ho hm
    obtain rfl : i = l.length := by omega
    refine ev_one fun k => ?_
    simp only [ductusref26_walk.l0]
    rw [if_neg (by omega), List.drop_length]
    have e : walkM l.length op m [] = (op, m, if op = [] then -1 else (l.length : Int)) := rfl
    rw [e]
    by_cases h : op = []
    · subst h
      rfl
    · rw [if_neg h, if_pos (by rw [List.length_map]; have := List.length_pos_iff.2 h; omega)]
      rfl
  | succ d ih =>
    intro i op m hi hd ho hm
    have hil : i < l.length := by omega
    rw [drop_cons l i hil]
    have w1 : wrap64 ((i : Int) + 1) = ((i + 1 : Nat) : Int) := wrap_succ i (by omega)
    have hr := role_ev (rd l (i : Int))
    have hg1 : (i : Int) < (l.length : Int) := by omega
    have hg2 : (0 : Int) ≤ (i : Int) := by omega
    generalize hc : rd l (i : Int) = c at hr
    have hw : walkM i op m (c :: l.drop (i + 1)) = if (stepM op m (cls c)).1 = true then walkM (i + 1) (stepM op m (cls c)).2.1 (stepM op m (cls c)).2.2 (l.drop (i + 1)) else ((stepM op m (cls c)).2.1, (stepM op m (cls c)).2.2, (i : Int)) := rfl
    have hopl : (op.map bk).length = op.length := List.length_map ..
    by_cases h1 : closerK (cls c) ≠ -1
    · have hs : stepM op m (cls c) = (true, op ++ [closerK (cls c)], mx m ((op.length : Int) + 1)) := by
        unfold stepM
        rw [if_pos h1]
      rw [hs, if_pos rfl] at hw
      rw [hw]
      obtain ⟨r1, r2⟩ := role_open h1
      have hnext := ih (i + 1) (op ++ [closerK (cls c)]) (mx m ((op.length : Int) + 1)) (by omega) (by omega) (by simp; omega) (by
        intro x hx
        rcases List.mem_append.1 hx with h | h
        · exact hm x h
        · obtain rfl := List.mem_singleton.1 h
          rcases closer_or (cls c) with h | h | h
          · exact (h1 h).elim
          · exact .inl h
          · exact .inr h)
      have q1 : op.length < 17592186044416 := by omega
      have hj : Ev (fun k => ductusref26_walk.j1 k l (op.map bk) m (i : Int) (roleK (cls c)) true) (rans (walkM (i + 1) (op ++ [closerK (cls c)]) (mx m ((op.length : Int) + 1)) (l.drop (i + 1)))) := by
        refine ev_step hnext fun k hk => ?_
        simp only [ductusref26_walk.j1]
        rw [if_pos trivial, Option.bind_some, if_pos (by simp; omega), Option.bind_some, List.nil_append, if_pos (by rw [hopl]; exact q1), Option.bind_some, w1]
        have e1 : op.map bk ++ [roleK (cls c)] = (op ++ [closerK (cls c)]).map bk := by rw [List.map_append, List.map_singleton, r1]
        have e2 : (((op.map bk ++ [roleK (cls c)]).length : Nat) : Int) = (op.length : Int) + 1 := by rw [List.length_append, hopl]; rfl
        rw [e2, e1]
        exact hk
      refine ev_step2 hr hj fun k hk hk2 => ?_
      simp only [ductusref26_walk.l0]
      rw [if_pos hg1, if_pos hg2, hc, hk, Option.bind_some]
      rcases r2 with r2 | r2
      · rw [r2] at hk2 ⊢
        rw [if_pos rfl]
        exact hk2
      · rw [r2] at hk2 ⊢
        rw [if_neg (by decide)]
        exact hk2
    · have hn1 : closerK (cls c) = -1 := by simpa using h1
      have r12 : roleK (cls c) ≠ 1 ∧ roleK (cls c) ≠ 2 := by
        unfold roleK
        rw [hn1]
        repeat' split
        all_goals first | (exfalso; omega) | decide
      have hl1 : ∀ R, Ev (fun k => ductusref26_walk.j1 k l (op.map bk) m (i : Int) (roleK (cls c)) false) R → Ev (fun k => ductusref26_walk.l0 k l (op.map bk) m (i : Int)) R := by
        intro R hR
        refine ev_step2 hr hR fun k hk hk2 => ?_
        simp only [ductusref26_walk.l0]
        have e : (roleK (cls c) == 2) = false := by simpa using r12.2
        rw [if_pos hg1, if_pos hg2, hc, hk, Option.bind_some, if_neg r12.1, e]
        exact hk2
      refine hl1 _ ?_
      by_cases h2 : cls c = 10
      · have hro : roleK (cls c) = 3 := by rw [h2]; decide
        have hs : stepM op m (cls c) = (decide (op = []), op, m) := by
          unfold stepM
          rw [if_neg h1, if_pos h2]
        have hj2 : ∀ R b, b = decide (((op.map bk).length : Int) > 0) → Ev (fun k => ductusref26_walk.j3 k l (op.map bk) m (i : Int) 3 b) R → Ev (fun k => ductusref26_walk.j1 k l (op.map bk) m (i : Int) 3 false) R := by
          intro R b hb hR
          subst hb
          refine ev_step (f := fun k => ductusref26_walk.j2 k l (op.map bk) m (i : Int) 3 false) (a := R) (ev_step hR fun k hk => ?_) fun k hk => ?_
          · simp only [ductusref26_walk.j2]
            rw [if_neg (by simp), if_pos trivial]
            exact hk
          · simp only [ductusref26_walk.j1]
            rw [if_neg (by simp), if_neg (by decide)]
            exact hk
        rw [hro]
        by_cases ho0 : op = []
        · have hs1 : stepM op m (cls c) = (true, op, m) := by rw [hs, decide_eq_true ho0]
          rw [hs1, if_pos rfl] at hw
          rw [hw]
          refine hj2 _ false (by subst ho0; rfl) (ev_step (ih (i + 1) op m (by omega) (by omega) (by omega) hm) fun k hk => ?_)
          simp only [ductusref26_walk.j3]
          rw [if_neg (by simp), if_neg (by decide), w1]
          exact hk
        · have hs1 : stepM op m (cls c) = (false, op, m) := by rw [hs, decide_eq_false ho0]
          rw [hs1, if_neg (by simp)] at hw
          rw [hw]
          refine hj2 _ true (by rw [hopl]; symm; rw [decide_eq_true_eq]; have := List.length_pos_iff.2 ho0; omega) (ev_one fun k => ?_)
          simp only [ductusref26_walk.j3]
          rw [if_pos trivial]
          rfl
      · by_cases h3 : cls c = 18 ∨ cls c = 22
        · have hro := role_close h3
          have hbk : bk (cls c) = 1 ∨ bk (cls c) = 2 := by
            unfold bk
            split
            · exact .inl rfl
            · exact .inr rfl
          have hneg : roleK (cls c) < 0 := by omega
          have hne3 : roleK (cls c) ≠ 3 := by omega
          have hwn : wrap64 (-(roleK (cls c))) = bk (cls c) := by
            rw [hro, Int.neg_neg]
            exact wrap_id (by omega) (by omega)
          have hs : stepM op m (cls c) = if op ≠ [] ∧ rd op ((op.length - 1 : Nat) : Int) = cls c then (true, op.take (op.length - 1), m) else (false, op, m) := by
            unfold stepM
            rw [if_neg h1, if_neg h2, if_pos h3]
          have hstop : Ev (fun k => ductusref26_walk.j2 k l (op.map bk) m (i : Int) (roleK (cls c)) true) ((i : Int), op.map bk, m) := by
            refine ev_step (f := fun k => ductusref26_walk.j3 k l (op.map bk) m (i : Int) (roleK (cls c)) true) (a := ((i : Int), op.map bk, m)) (ev_one fun k => ?_) fun k hk => ?_
            · simp only [ductusref26_walk.j3]
              rw [if_pos trivial]
            · simp only [ductusref26_walk.j2]
              rw [if_pos trivial]
              exact hk
          rcases List.eq_nil_or_concat op with rfl | ⟨p, x, rfl⟩
          · rw [if_neg (by simp)] at hs
            rw [hs, if_neg (by simp)] at hw
            rw [hw]
            refine ev_step hstop fun k hk => ?_
            simp only [ductusref26_walk.j1]
            rw [if_neg (by simp), if_pos hneg, if_pos (show (((([] : List Int).map bk).length : Nat) : Int) = 0 from rfl)]
            exact hk
          · rw [List.concat_eq_append] at hs hw ho hm hopl hstop ⊢
            have hx := hm x (by simp)
            have hlen : (((p ++ [x]).map bk).length : Int) - 1 = (p.length : Int) := by
              rw [hopl, List.length_append]
              simp
            have hwl : wrap64 ((((p ++ [x]).map bk).length : Int) - 1) = (p.length : Int) := by
              rw [hlen]
              have : (p ++ [x]).length ≤ i := ho
              rw [List.length_append] at this
              exact wrap_id (by omega) (by omega)
            have hrd : rd ((p ++ [x]).map bk) (p.length : Int) = bk x := by
              rw [← rd_bk p x]
              congr 1
              simp
            have g1 : ¬ (((p ++ [x]).map bk).length : Int) = 0 := by omega
            have g2 : (0 : Int) ≤ (p.length : Int) := by omega
            have g3 : (p.length : Int) < (((p ++ [x]).map bk).length : Int) := by omega
            rw [rd_last] at hs
            by_cases hxe : x = cls c
            · rw [if_pos ⟨by simp, hxe⟩] at hs
              have e : (p ++ [x]).take ((p ++ [x]).length - 1) = p := by simp
              rw [e] at hs
              rw [hs, if_pos rfl] at hw
              rw [hw]
              have hnext := ih (i + 1) p m (by omega) (by omega) (by simp at ho; omega) (fun y hy => hm y (by simp [hy]))
              have ht : ((p ++ [x]).map bk).take p.length = p.map bk := by
                rw [List.map_append]
                rw [List.take_left' (by simp)]
              have hbb : (bk x != bk (cls c)) = false := by rw [hxe]; simp
              have g4 : (p.length : Int) ≤ (((p ++ [x]).map bk).length : Int) := by omega
              have hj3 : Ev (fun k => ductusref26_walk.j3 k l ((p ++ [x]).map bk) m (i : Int) (roleK (cls c)) false) (rans (walkM (i + 1) p m (l.drop (i + 1)))) := by
                refine ev_step hnext fun k hk => ?_
                simp only [ductusref26_walk.j3]
                rw [if_neg (by simp), if_pos hneg, hwl, if_pos g2, if_pos g4, Int.toNat_natCast, ht, w1]
                exact hk
              have hj2 : Ev (fun k => ductusref26_walk.j2 k l ((p ++ [x]).map bk) m (i : Int) (roleK (cls c)) false) (rans (walkM (i + 1) p m (l.drop (i + 1)))) := by
                refine ev_step hj3 fun k hk => ?_
                simp only [ductusref26_walk.j2]
                rw [if_neg (by simp), if_neg hne3]
                exact hk
              refine ev_step hj2 fun k hk => ?_
              simp only [ductusref26_walk.j1]
              rw [if_neg (by simp), if_pos hneg, if_neg g1, hwl, if_pos g2, if_pos g3, hrd, hwn, hbb]
              exact hk
            · rw [if_neg (by simp [hxe])] at hs
              rw [hs, if_neg (by simp)] at hw
              rw [hw]
              have hbb : (bk x != bk (cls c)) = true := by
                rcases hx with rfl | rfl
                · rcases h3 with h | h
                  · exact (hxe h.symm).elim
                  · rw [h]; decide
                · rcases h3 with h | h
                  · rw [h]; decide
                  · exact (hxe h.symm).elim
              refine ev_step hstop fun k hk => ?_
              simp only [ductusref26_walk.j1]
              rw [if_neg (by simp), if_pos hneg, if_neg g1, hwl, if_pos g2, if_pos g3, hrd, hwn, hbb]
              exact hk
        · have hro : roleK (cls c) = 0 := by
            unfold roleK
            rw [hn1, if_neg (by decide), if_neg (by decide), if_neg (by omega), if_neg (by omega), if_neg h2]
          rw [step_skip op m _ hn1 h2 h3, if_pos rfl] at hw
          rw [hw, hro]
          have hnext := ih (i + 1) op m (by omega) (by omega) (by omega) hm
          have hj3 : Ev (fun k => ductusref26_walk.j3 k l (op.map bk) m (i : Int) 0 false) (rans (walkM (i + 1) op m (l.drop (i + 1)))) := by
            refine ev_step hnext fun k hk => ?_
            simp only [ductusref26_walk.j3]
            rw [if_neg (by simp), if_neg (by decide), w1]
            exact hk
          have hj2 : Ev (fun k => ductusref26_walk.j2 k l (op.map bk) m (i : Int) 0 false) (rans (walkM (i + 1) op m (l.drop (i + 1)))) := by
            refine ev_step hj3 fun k hk => ?_
            simp only [ductusref26_walk.j2]
            rw [if_neg (by simp), if_neg (by decide)]
            exact hk
          refine ev_step hj2 fun k hk => ?_
          simp only [ductusref26_walk.j1]
          rw [if_neg (by simp), if_neg (by decide)]
          exact hk
theorem rwalk_ev (l : List Int) (hl : l.length < 4398046511104) : Ev (fun k => ductusref26_walk.f k l) (rans (walkM 0 [] 0 l)) := rwalk_loop l hl l.length 0 [] 0 (by omega) (by omega) (by simp) (by simp)
theorem rwrong_ev (l : List Int) (hl : l.length < 4398046511104) : Ev (fun k => ductusref26_Wrong.f k l) (walkM 0 [] 0 l).2.2 := by
  refine ev_same (rwalk_ev l hl) fun k hk => ?_
  unfold ductusref26_Wrong.f
  rw [hk, Option.bind_some]
  rfl
theorem rdepth_ev (l : List Int) (hl : l.length < 4398046511104) : Ev (fun k => ductusref26_Depth.f k l) (walkM 0 [] 0 l).2.1 := by
  refine ev_same (rwalk_ev l hl) fun k hk => ?_
  unfold ductusref26_Depth.f
  rw [hk, Option.bind_some]
  rfl
theorem wrong_neg (l : List Int) : decide ((walkM 0 [] 0 l).2.2 < 0) = decide ((walkM 0 [] 0 l).2.2 = -1) := by
  rcases walkM_wrong l 0 [] 0 with h | ⟨q, h, _, _⟩
  · rw [h]
    rfl
  · rw [h, decide_eq_false (by omega), decide_eq_false (by omega)]
theorem rright_ev (l : List Int) (hl : l.length < 4398046511104) : Ev (fun k => ductusref26_Right.f k l) (decide ((walkM 0 [] 0 l).2.2 = -1)) := by
  refine ev_same (rwrong_ev l hl) fun k hk => ?_
  unfold ductusref26_Right.f
  rw [hk, Option.bind_some, wrong_neg]
theorem opc_role (c : Int) : opc c = decide (roleK (cls c) ≠ 0 ∧ roleK (cls c) ≠ 3) := by
  unfold opc opcK
  by_cases h1 : closerK (cls c) ≠ -1
  · rw [decide_eq_true h1, Bool.true_or]
    have := (role_open h1).2
    symm
    rw [decide_eq_true_eq]
    omega
  · rw [decide_eq_false h1, Bool.false_or]
    have hn1 : closerK (cls c) = -1 := by simpa using h1
    by_cases h3 : cls c = 18 ∨ cls c = 22
    · rw [decide_eq_true h3]
      symm
      rw [decide_eq_true_eq]
      rcases h3 with h | h
      · rw [h]; decide
      · rw [h]; decide
    · rw [decide_eq_false h3]
      symm
      rw [decide_eq_false_iff_not]
      unfold roleK
      rw [hn1, if_neg (by decide), if_neg (by decide), if_neg (by omega), if_neg (by omega)]
      split
      · exact fun h => h.2 rfl
      · exact fun h => h.1 rfl
theorem rctl_loop (l : List Int) (hl : l.length < 4398046511104) (d : Nat) : ∀ (i : Nat) (acc : List Int), i ≤ l.length → l.length - i = d → acc.length ≤ i → Ev (fun k => ductusref26_Controls.l0 k l acc (i : Int)) (acc ++ (l.drop i).filter opc) := by
  induction d with
  | zero =>
    intro i acc hi hd ha
    refine ev_one fun k => ?_
    simp only [ductusref26_Controls.l0]
    rw [if_neg (by omega), List.drop_eq_nil_of_le (by omega), List.filter_nil, List.append_nil]
  | succ d ih =>
    intro i acc hi hd ha
    rw [drop_cons l i (by omega)]
    have hr := role_ev (rd l (i : Int))
    have w1 : wrap64 ((i : Int) + 1) = ((i + 1 : Nat) : Int) := wrap_succ i (by omega)
    have ho := opc_role (rd l (i : Int))
    have g1 : (i : Int) < (l.length : Int) := by omega
    have g2 : (0 : Int) ≤ (i : Int) := by omega
    by_cases h0 : roleK (cls (rd l (i : Int))) = 0
    · rw [List.filter_cons_of_neg (by rw [ho]; simp [h0])]
      refine ev_step2 hr (ih (i + 1) acc (by omega) (by omega) (by omega)) fun k hk hk2 => ?_
      simp only [ductusref26_Controls.l0]
      rw [if_pos g1, if_pos g2, hk, Option.bind_some, if_pos h0, w1]
      exact hk2
    · by_cases h3 : roleK (cls (rd l (i : Int))) = 3
      · rw [List.filter_cons_of_neg (by rw [ho]; simp [h3])]
        refine ev_step2 hr (ih (i + 1) acc (by omega) (by omega) (by omega)) fun k hk hk2 => ?_
        simp only [ductusref26_Controls.l0]
        rw [if_pos g1, if_pos g2, hk, Option.bind_some, if_neg h0, Option.bind_some, if_pos h3, w1]
        exact hk2
      · rw [List.filter_cons_of_pos (by rw [ho]; simp [h0, h3])]
        have hnext := ih (i + 1) (acc ++ [rd l (i : Int)]) (by omega) (by omega) (by simp; omega)
        rw [List.append_assoc] at hnext
        refine ev_step2 hr hnext fun k hk hk2 => ?_
        simp only [ductusref26_Controls.l0]
        rw [if_pos g1, if_pos g2, hk, Option.bind_some, if_neg h0, Option.bind_some, if_neg h3, if_pos (by omega), w1]
        exact hk2
theorem rctl_ev (l : List Int) (hl : l.length < 4398046511104) : Ev (fun k => ductusref26_Controls.f k l) (l.filter opc) := by
  have h := rctl_loop l hl l.length 0 [] (by omega) (by omega) (by simp)
  simp only [List.drop_zero, List.nil_append] at h
  exact h
theorem rclose_loop (op : List Int) (hl : op.length < 4398046511104) : ∀ (j : Nat) (acc : List Int), j ≤ op.length → acc.length + j < 17592186044416 → Ev (fun k => ductusref26_Close.l0 k (op.map bk) acc ((j : Int) - 1)) (acc ++ (op.take j).reverse.map sgn) := by
  intro j
  induction j with
  | zero =>
    intro acc _ _
    refine ev_one fun k => ?_
    simp only [ductusref26_Close.l0]
    rw [if_neg (by omega)]
    simp
  | succ j ih =>
    intro acc hj ha
    have e0 : ((j + 1 : Nat) : Int) - 1 = (j : Int) := by omega
    rw [e0]
    have hrd : rd (op.map bk) (j : Int) = bk (rd op (j : Int)) := by
      rw [rd_get _ _ (by rw [List.length_map]; omega), rd_get _ _ (by omega), List.getElem_map]
    have ht : (op.take (j + 1)).reverse.map sgn = sgn (rd op (j : Int)) :: (op.take j).reverse.map sgn := by
      rw [List.take_succ_eq_append_getElem (by omega), List.reverse_append, rd_get op j (by omega)]
      rfl
    have hw : wrap64 ((j : Int) - 1) = (j : Int) - 1 := wrap_id (by omega) (by omega)
    have g1 : (j : Int) ≥ 0 := by omega
    have g2 : (j : Int) < ((op.map bk).length : Int) := by rw [List.length_map]; omega
    have g3 : acc.length < 17592186044416 := by omega
    rw [ht]
    have hnext := ih (acc ++ [sgn (rd op (j : Int))]) (by omega) (by simp; omega)
    rw [List.append_assoc, List.singleton_append] at hnext
    refine ev_step hnext fun k hk => ?_
    simp only [ductusref26_Close.l0]
    rw [if_pos g1, if_pos g1, if_pos g2, hrd]
    by_cases h : rd op (j : Int) = 18
    · have e1 : bk (rd op (j : Int)) = 1 := by rw [h]; rfl
      have e2 : sgn (rd op (j : Int)) = 8236 := by rw [h]; rfl
      rw [if_pos e1, if_pos g3, hw]
      rw [e2] at hk ⊢
      exact hk
    · have e1 : ¬ bk (rd op (j : Int)) = 1 := by
        unfold bk
        rw [if_neg h]
        decide
      have e2 : sgn (rd op (j : Int)) = 8297 := by
        unfold sgn
        rw [if_neg h]
      rw [if_neg e1, if_pos g3, hw]
      rw [e2] at hk ⊢
      exact hk
theorem rclose_ev (l : List Int) (hl : l.length < 4398046511104) : Ev (fun k => ductusref26_Close.f k l) (closeM l) := by
  have hw := rwalk_ev l hl
  have hlen := walkM_len l 0 [] 0
  simp only [List.length_nil, Nat.zero_add] at hlen
  unfold closeM
  rcases walkM_wrong l 0 [] 0 with h | ⟨q, h, _, hq⟩
  · rw [if_pos h]
    refine ev_same hw fun k hk => ?_
    unfold ductusref26_Close.f
    rw [hk, Option.bind_some]
    unfold rans
    dsimp only
    rw [h, if_pos (by decide), Option.bind_some, if_pos (by simp; omega), List.nil_append]
  · rw [if_neg (by omega)]
    rw [h, Int.toNat_natCast]
    have hlq : (l.take q).length = q := by rw [List.length_take]; omega
    have hc := rclose_loop (walkM 0 [] 0 l).1 (by omega) (walkM 0 [] 0 l).1.length (l.take q) (Nat.le_refl _) (by omega)
    rw [List.take_length] at hc
    have hwl : wrap64 ((((walkM 0 [] 0 l).1.map bk).length : Int) - 1) = ((walkM 0 [] 0 l).1.length : Int) - 1 := by
      rw [List.length_map]
      exact wrap_id (by omega) (by omega)
    refine ev_same2 hw hc fun k hk hk2 => ?_
    unfold ductusref26_Close.f
    rw [hk, Option.bind_some]
    unfold rans
    dsimp only
    rw [h, if_neg (by omega), Option.bind_some, if_pos (by omega), if_pos (by omega), Int.toNat_natCast, if_pos (by rw [hlq]; simp; omega), List.nil_append, hwl]
    exact hk2
end Go.Proofs.Ytpgpckglgkichaa.P
