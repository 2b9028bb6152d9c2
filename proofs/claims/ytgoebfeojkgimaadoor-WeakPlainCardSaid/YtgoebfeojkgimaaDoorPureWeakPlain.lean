/- Proved: the pure statement of the law WeakPlain, that the Lean functions printed for it answer true for every input; no condition beyond the statement's own. -/
import Derived.Test.YtgoebfeojkgimaaDoorPx6
import Derived.Test.YtgoebfeojkgimaaDoorPWkR
namespace Go.Proofs.YtgoebfeojkgimaaDoor.Pure
open Go.RowKit Go.Proofs.YtgoebfeojkgimaaDoor.P Go.Proofs.YtgoebfeojkgimaaDoorW.PrintWords Go.Proofs.YtgoebfeojkgimaaDoorW.PrintLast Go.Proofs.YtgoebfeojkgimaaDoorW.PrintMore
set_option linter.unusedVariables false
set_option linter.unusedSimpArgs false

/-- Strong ones, AN, and some that are neutral. -/
def Pl (a : Int) : Prop := a = 0 ∨ a = 1 ∨ a = 2 ∨ a = 6 ∨ a = 13 ∨ a = 12
def toR (a : Int) : Int := if a = 2 then 1 else a
theorem swap_not {t : Int} {f : List Int} {a b : Int} (h : SwapP t f a b) (hn : a ∉ f) : b = a := by
  unfold SwapP at h
  rw [h, if_neg hn]
theorem plain_fact {a p m1 m2 m3 m4 m5 m6 m7 : Int} (ha : Pl a) (hp : PlainP a p) (h1 : MarkP p m1) (h2 : BecP 3 6 m1 m2) (h3 : SwapP 1 [2] m2 m3) (h4 : PartP m3 m4) (h5 : BecP 5 3 m4 m5) (h6 : SwapP 13 [4, 5, 7] m5 m6) (h7 : BecP 3 0 m6 m7) : m7 = toR a := by
  unfold Pl at ha
  have e1 : p = a := by
    unfold PlainP at hp
    rw [hp, if_neg (noK_in (by omega))]
  subst e1
  have e2 : m1 = p := h1.1 (by omega)
  subst e2
  have e3 : m2 = m1 := by rcases h2 with h | h <;> omega
  subst e3
  have e4 : m3 = toR m2 := by
    unfold SwapP at h3
    unfold toR
    rw [h3]
    simp only [List.mem_singleton]
  have hb : m3 = 0 ∨ m3 = 1 ∨ m3 = 6 ∨ m3 = 13 ∨ m3 = 12 := by
    rw [e4]
    unfold toR
    split <;> omega
  have e5 : m4 = m3 := by
    unfold PartP at h4
    omega
  subst e5
  have e6 : m5 = m4 := by rcases h5 with h | h <;> omega
  subst e6
  have e7 : m6 = m5 := swap_not h6 (by simp only [List.mem_cons, List.not_mem_nil, or_false]; omega)
  subst e7
  rw [← e4]
  rcases h7 with h | h <;> omega
theorem chain_plain {l p r : List Int} {sos : Int} (hl : ∀ i : Nat, i < l.length → Pl (rd l (i : Int))) (hp : Step PlainP l p) (hc : Chain sos 1 7 p r) : r = l.map toR := by
  obtain ⟨m1, _, s1, _, m2, _, s2, _, m3, _, s3, _, m4, _, s4, _, m5, _, s5, _, m6, _, s6, _, m7, _, s7, _, hr⟩ := hc
  have hr : r = m7 := hr
  subst hr
  have l0 := hp.1
  have l1 := s1.1
  have l2 := s2.1
  have l3 := s3.1
  have l4 := s4.1
  have l5 := s5.1
  have l6 := s6.1
  have l7 := s7.1
  refine rd_ext (by rw [List.length_map]; omega) fun i hi => ?_
  rw [List.length_map] at hi
  have := plain_fact (hl i hi) (hp.2 i hi) (s1.2 i (by omega)) (s2.2 i (by omega)) (s3.2 i (by omega)) (s4.2 i (by omega)) (s5.2 i (by omega)) (s6.2 i (by omega)) (s7.2 i (by omega))
  rw [this, rd_get l i hi, rd_get (l.map toR) i (by rw [List.length_map]; exact hi)]
  simp
theorem of_plain (l : List Int) (hn : l.length < 8796093022208) (sos : Int) (hl : ∀ i : Nat, i < l.length → Pl (rd l (i : Int))) : Ev (fun k => weak_Of.f k l sos) (l.map toR) := by
  obtain ⟨p, r, _, sp, hc, he⟩ := of_ev l hn sos
  rw [chain_plain hl sp hc] at he
  exact he
theorem mem_pl {l : List Int} (h : ∀ x ∈ l, Pl x) : ∀ i : Nat, i < l.length → Pl (rd l (i : Int)) := fun i hi => by
  rw [rd_get l i hi]
  exact h _ (List.getElem_mem hi)
theorem toR_pl {a : Int} (h : Pl a) : Pl (toR a) ∧ toR (toR a) = toR a := by
  unfold Pl at h
  unfold Pl toR
  split <;> omega
theorem plain_loop0 (l : List Int) (hl : l.length ≤ 200) (hw : ∀ x ∈ l, 0 ≤ x ∧ x ≤ 255) (sos : Int) (d : Nat) : ∀ (i : Nat) (ins : List Int), i + d = l.length → ins.length = i → (∀ x ∈ ins, Pl x) → Ev (fun k => ductuslaw09_WeakPlain.l0 k l sos ins (ins.map toR) (i : Int)) true := by
  induction d with
  | zero =>
    intro i ins hi hn hp
    have h1 := of_plain ins (by omega) sos (mem_pl hp)
    have hp2 : ∀ x ∈ ins.map toR, Pl x := fun x hx => by
      obtain ⟨y, hy, rfl⟩ := List.mem_map.1 hx
      exact (toR_pl (hp y hy)).1
    have hlen : (ins.map toR).length = ins.length := List.length_map ..
    have h2 := of_plain (ins.map toR) (by omega) sos (mem_pl hp2)
    have e : (ins.map toR).map toR = ins.map toR := by
      rw [List.map_map]
      exact List.map_congr_left fun x hx => (toR_pl (hp x hx)).2
    rw [e] at h2
    have h3 := ints_ev (ins.map toR) (by omega)
    refine ev_step3 h1 h2 h3 fun k hk hk2 hk3 => ?_
    simp only [ductuslaw09_WeakPlain.l0]
    rw [if_neg (by omega), hk, Option.bind_some, hk3, Option.bind_some, if_pos rfl, hk2, Option.bind_some, hk3, Option.bind_some]
  | succ d ih =>
    intro i ins hi hn hp
    have hw1 : wrap64 ((i : Int) + 1) = ((i + 1 : Nat) : Int) := wrap_succ i (by omega)
    have hx := hw (rd l (i : Int)) (by rw [rd_get l i (by omega)]; exact List.getElem_mem _)
    have hwx : wrap64 (rd l (i : Int)) = rd l (i : Int) := wrap_id (by omega) (by omega)
    obtain ⟨q, hq⟩ : ∃ q : Nat, (q : Int) = Int.tmod (rd l (i : Int)) 6 := ⟨(Int.tmod (rd l (i : Int)) 6).toNat, Int.toNat_of_nonneg (Int.tmod_nonneg _ hx.1)⟩
    have hq6 : q < 6 := by
      have := Int.tmod_lt_of_pos (rd l (i : Int)) (show (0 : Int) < 6 by omega)
      omega
    have hv : Pl (rd [0, 1, 2, 6, 13, 12] (q : Int)) := by
      have : q = 0 ∨ q = 1 ∨ q = 2 ∨ q = 3 ∨ q = 4 ∨ q = 5 := by omega
      unfold Pl
      rcases this with rfl | rfl | rfl | rfl | rfl | rfl <;> decide
    have key := ih (i + 1) (ins ++ [rd [0, 1, 2, 6, 13, 12] (q : Int)]) (by omega) (by simp [hn]) (fun x hx => by
      rcases List.mem_append.1 hx with h | h
      · exact hp x h
      · rw [List.mem_singleton.1 h]
        exact hv)
    have hlen : (ins.map toR).length = ins.length := List.length_map ..
    have g1 : (i : Int) < (l.length : Int) := by omega
    have g2 : (0 : Int) ≤ (i : Int) := by omega
    have g3 : (0 : Int) ≤ (q : Int) := by omega
    have g4 : (q : Int) < ((([0, 1, 2, 6, 13, 12] : List Int)).length : Int) := by
      simp only [List.length_cons, List.length_nil]
      omega
    refine ev_step key fun k hk => ?_
    simp only [ductuslaw09_WeakPlain.l0]
    rw [if_pos g1, Option.bind_some, if_pos g2, hwx, ← hq, if_pos g3, if_pos g4, if_pos (by omega), Option.bind_some, hw1]
    rw [List.map_append] at hk
    by_cases h2 : rd [0, 1, 2, 6, 13, 12] (q : Int) = 2
    · rw [if_pos h2, if_pos (by omega)]
      have e : List.map toR [rd [0, 1, 2, 6, 13, 12] (q : Int)] = [1] := by
        rw [h2]
        rfl
      rw [e] at hk
      exact hk
    · rw [if_neg h2, if_pos (by omega)]
      have e : List.map toR [rd [0, 1, 2, 6, 13, 12] (q : Int)] = [rd [0, 1, 2, 6, 13, 12] (q : Int)] := by
        simp [toR, h2]
      rw [e] at hk
      exact hk
theorem u8_bd' {x : Int} (h : (Lit.int .u8 x).wf = true) : 0 ≤ x ∧ x ≤ 255 := by
  have hmin : IntKind.u8.min = 0 := rfl
  have hmax : IntKind.u8.max = 255 := rfl
  simp only [Lit.wf, Bool.and_eq_true, decide_eq_true_eq] at h
  omega
theorem WeakPlain : ductuslaw09_WeakPlain.Pure := by
  intro l b hm hl hw
  refine Ev.rounds ?_
  by_cases h : (l.length : Int) > 200
  · refine ev_same alive09 fun k hk => ?_
    unfold ductuslaw09_WeakPlain.f
    rw [hk, Option.bind_some, if_pos rfl, if_pos h]
  · have hj : ∀ sos, Ev (fun k => ductuslaw09_WeakPlain.j0 k l sos) true := fun sos => by
      have := plain_loop0 l (by omega) (fun x hx => u8_bd' (hw x hx)) sos l.length 0 [] (by omega) rfl (fun x hx => by simp at hx)
      refine ev_step this fun k hk => ?_
      simp only [ductuslaw09_WeakPlain.j0]
      exact hk
    cases b with
    | true =>
      refine ev_same2 alive09 (hj 1) fun k hk hk2 => ?_
      unfold ductuslaw09_WeakPlain.f
      rw [hk, Option.bind_some, if_pos rfl, if_neg h, if_pos rfl]
      exact hk2
    | false =>
      refine ev_same2 alive09 (hj 0) fun k hk hk2 => ?_
      unfold ductuslaw09_WeakPlain.f
      rw [hk, Option.bind_some, if_pos rfl, if_neg h, if_neg (by simp)]
      exact hk2
end Go.Proofs.YtgoebfeojkgimaaDoor.Pure
