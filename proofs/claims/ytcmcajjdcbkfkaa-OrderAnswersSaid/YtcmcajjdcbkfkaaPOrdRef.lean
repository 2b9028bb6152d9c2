/- Proved: the document's answers for an order tell what the program's tell; conditions: a list shorter than 2^44, numbers of 64 bits. -/
import Derived.Test.YtcmcajjdcbkfkaaPOrdSeen
import Derived.Test.YtcmcajjdcbkfkaaPx6
import Derived.Test.YtcmcajjdcbkfkaaPx5
import Derived.Test.YtcmcajjdcbkfkaaPx7
namespace Go.Proofs.Ytcmcajjdcbkfkaa.P
open Go.RowKit Go.Proofs.YtcmcajjdcbkfkaaW.PrintWords Go.Proofs.YtcmcajjdcbkfkaaW.PrintLast Go.Proofs.YtcmcajjdcbkfkaaW.PrintMore
set_option linter.unusedVariables false
set_option linter.unusedSimpArgs false

theorem rturn_loop : ∀ (n : Nat) (a m b : List Int), m.length ≤ n → (a ++ (m ++ b)).length < 9223372036854775807 →
    Ev (fun k => ductusref14_turn.l0 k (a ++ (m ++ b)) (a.length : Int) ((a.length + m.length : Nat) : Int)) (a ++ (m.reverse ++ b)) := by
  intro n
  induction n with
  | zero =>
    intro a m b hm hl
    obtain rfl : m = [] := List.eq_nil_of_length_eq_zero (by omega)
    simp only [List.length_append, List.length_nil] at hl
    refine ev_one fun k => ?_
    simp only [ductusref14_turn.l0]
    rw [if_neg (by rw [List.length_nil, wrap_id (by omega) (by omega)]; omega)]
    rfl
  | succ n ih =>
    intro a m b hm hl
    match m with
    | [] =>
      simp only [List.length_append, List.length_nil] at hl
      refine ev_one fun k => ?_
      simp only [ductusref14_turn.l0]
      rw [if_neg (by rw [List.length_nil, wrap_id (by omega) (by omega)]; omega)]
      rfl
    | [x] =>
      simp only [List.length_append, List.length_singleton] at hl
      refine ev_one fun k => ?_
      simp only [ductusref14_turn.l0]
      rw [if_neg (by rw [List.length_singleton, wrap_id (by omega) (by omega)]; omega)]
      rfl
    | x :: z :: m =>
      obtain ⟨t, y, e, ht⟩ := two_ends x z m
      rw [e] at hm hl ⊢
      simp only [List.length_cons, List.length_append, List.length_nil] at hm hl
      have e1 : a ++ (x :: (t ++ [y]) ++ b) = a ++ x :: (t ++ y :: b) := by simp
      have e2 : a ++ ((x :: (t ++ [y])).reverse ++ b) = (a ++ [y]) ++ (t.reverse ++ x :: b) := by simp
      have e3 : ((a.length + (x :: (t ++ [y])).length : Nat) : Int) = ((a.length + t.length + 2 : Nat) : Int) := by simp; omega
      have e4 : ((a.length + t.length + 2 : Nat) : Int) - 1 = ((a.length + t.length + 1 : Nat) : Int) := by omega
      rw [e1, e2, e3]
      obtain ⟨r1, r2⟩ := turn_rd a t b x y
      refine ev_step (ih (a ++ [y]) t (x :: b) (by omega) (by simp; omega)) fun k hk => ?_
      simp only [ductusref14_turn.l0]
      have hw : wrap64 (((a.length + t.length + 2 : Nat) : Int) - 1) = ((a.length + t.length + 1 : Nat) : Int) := by rw [wrap_id (by omega) (by omega), e4]
      rw [hw, if_pos (by omega), if_pos (by omega), if_pos (by simp; omega), if_pos (by omega), if_pos (by simp; omega), r1, r2, Int.toNat_natCast, Int.toNat_natCast, turn_set, wrap_succ _ (by omega)]
      have e5 : a ++ y :: (t ++ x :: b) = (a ++ [y]) ++ (t ++ x :: b) := by simp
      have e6 : (a ++ [y]).length = a.length + 1 := by simp
      rw [e6] at hk
      have e7 : a.length + 1 + t.length = a.length + t.length + 1 := by omega
      rw [e7] at hk
      rw [e5]
      exact hk
theorem rturn_ev (a m b : List Int) (h : (a ++ (m ++ b)).length < 9223372036854775807) : Ev (fun k => ductusref14_turn.f k (a ++ (m ++ b)) (a.length : Int) ((a.length + m.length : Nat) : Int)) (a ++ (m.reverse ++ b)) :=
  rturn_loop m.length a m b (Nat.le_refl _) h

/-! Of -/
theorem rr_end (p : Int → Bool) (acc b : List Int) (hb : ∀ x t, b = x :: t → ¬ p x = true) : rr p acc b = acc ++ rr p [] b := by
  cases b with
  | nil => simp [rr]
  | cons x t =>
    rw [rr_stop p x acc t (hb x t rfl), rr_stop p x [] t (hb x t rfl)]
    simp
theorem rof_down (x0 : List Int) (hl : x0.length < 17592186044416) : ∀ (m : Nat) (out : List Int), m ≤ 127 → out.Perm (rng x0.length) → Ev (fun k => ductusref14_Of.l1 k x0 out (m : Int)) (downM (fun x => rd x0 x) m out) := by
  intro m
  induction m with
  | zero =>
    intro out hm hp
    refine ev_one fun k => ?_
    simp only [ductusref14_Of.l1]
    rw [if_neg (by omega)]
    rfl
  | succ m ihm =>
    intro out hm hp
    have hbd : ∀ l : List Int, l.Perm (rng x0.length) → ∀ x ∈ l, 0 ≤ x ∧ x < (x0.length : Int) := fun l hl x hx => (rng_mem _ x).1 (hl.mem_iff.1 hx)
    have hlen : ∀ l : List Int, l.Perm (rng x0.length) → l.length = x0.length := fun l hl => by rw [hl.length_eq, rng_len]
    obtain ⟨p, hp0⟩ : ∃ p : Int → Bool, p = fun x => decide (rd x0 x ≥ ((m + 1 : Nat) : Int)) := ⟨_, rfl⟩
    have hdown : ∀ l, downM (fun x => rd x0 x) (m + 1) l = downM (fun x => rd x0 x) m (rr p [] l) := fun l => by rw [hp0]; rfl
    have hpx : ∀ x, p x = true ↔ rd x0 x ≥ ((m + 1 : Nat) : Int) := fun x => by rw [hp0]; simp
    -- the loop over a row
    have loop : ∀ (n : Nat) (pre rest : List Int), rest.length = n → (pre ++ rest).Perm (rng x0.length) → Ev (fun k => ductusref14_Of.l2 k x0 (pre ++ rest) ((m + 1 : Nat) : Int) (pre.length : Int)) (downM (fun x => rd x0 x) m (pre ++ rr p [] rest)) := by
      intro n
      induction n using Nat.strongRecOn with
      | ind n ihn =>
        intro pre rest hn hpr
        have hln := hlen _ hpr
        rw [List.length_append] at hln
        cases rest with
        | nil =>
          have h := ihm pre (by omega) (by simpa using hpr)
          simp only [rr, List.append_nil] at hpr ⊢
          refine ev_step h fun k hk => ?_
          simp only [ductusref14_Of.l2]
          have e : wrap64 (((m + 1 : Nat) : Int) - 1) = (m : Int) := by
            rw [wrap_id (by omega) (by omega)]
            omega
          rw [if_neg (by omega), e]
          exact hk
        | cons x0' rest =>
          have stop : ∀ (run rest2 : List Int), (x0' :: rest) = run ++ rest2 → (∀ x ∈ run, p x = true) → (∀ x t, rest2 = x :: t → ¬ p x = true) →
              Ev (fun k => (ductusref14_turn.f k (pre ++ (x0' :: rest)) (pre.length : Int) ((pre.length + run.length : Nat) : Int)).bind fun t245 => ductusref14_Of.l2 k x0 t245 ((m + 1 : Nat) : Int) (mx ((pre.length + run.length : Nat) : Int) (wrap64 ((pre.length : Int) + 1)))) (downM (fun x => rd x0 x) m (pre ++ rr p [] (x0' :: rest))) := by
            intro run rest2 he hrun hend
            rw [he] at hpr hn hln ⊢
            rw [List.length_append] at hn hln
            have ht := rturn_ev pre run rest2 (by simp only [List.length_append]; omega)
            cases run with
            | nil =>
              cases rest2 with
              | nil => cases he
              | cons x t =>
                have hx := hend x t rfl
                simp only [List.reverse_nil, List.nil_append, List.length_cons] at ht hpr hn hln ⊢
                have h := ihn t.length (by simp only [List.length_nil] at hn; omega) (pre ++ [x]) t rfl (by simpa using hpr)
                rw [rr_stop p x [] t hx]
                have e1 : pre ++ ([] ++ x :: rr p [] t) = (pre ++ [x]) ++ rr p [] t := by simp
                have e2 : pre ++ x :: t = (pre ++ [x]) ++ t := by simp
                have e3 : mx ((pre.length + 0 : Nat) : Int) (wrap64 ((pre.length : Int) + 1)) = ((pre ++ [x]).length : Int) := by
                  simp only [List.length_nil] at hln
                  rw [wrap_succ _ (by omega)]
                  unfold mx
                  simp
                  omega
                rw [e1]
                refine ev_same2 ht h fun k h1 h2 => ?_
                simp only [List.length_nil] at h1 ⊢
                rw [h1, Option.bind_some, e3, e2]
                exact h2
            | cons y run =>
              have hperm : ((pre ++ (y :: run).reverse) ++ rest2).Perm (rng x0.length) := by
                refine List.Perm.trans ?_ hpr
                rw [List.append_assoc]
                exact List.Perm.append_left pre (List.Perm.append_right rest2 (List.reverse_perm _))
              have h := ihn rest2.length (by simp only [List.length_cons] at hn; omega) (pre ++ (y :: run).reverse) rest2 rfl hperm
              have e1 : pre ++ rr p [] (y :: run ++ rest2) = (pre ++ (y :: run).reverse) ++ rr p [] rest2 := by
                rw [rr_run p (y :: run) [] rest2 hrun, rr_end p _ rest2 hend]
                simp
              have e3 : mx ((pre.length + (y :: run).length : Nat) : Int) (wrap64 ((pre.length : Int) + 1)) = ((pre ++ (y :: run).reverse).length : Int) := by
                simp only [List.length_cons] at hln
                rw [wrap_succ _ (by omega)]
                unfold mx
                simp
                omega
              rw [e1]
              refine ev_same2 ht h fun k h1 h2 => ?_
              rw [h1, Option.bind_some, e3, ← List.append_assoc]
              exact h2
          have inner : ∀ (rest2 run : List Int), (x0' :: rest) = run ++ rest2 → (∀ x ∈ run, p x = true) → Ev (fun k => ductusref14_Of.l3 k x0 (pre ++ (x0' :: rest)) ((m + 1 : Nat) : Int) (pre.length : Int) ((pre.length + run.length : Nat) : Int)) (downM (fun x => rd x0 x) m (pre ++ rr p [] (x0' :: rest))) := by
            intro rest2
            induction rest2 with
            | nil =>
              intro run he hrun
              have hlr : (x0' :: rest).length = run.length := by rw [he]; simp
              refine ev_step (stop run [] he hrun (fun x t h => by cases h)) fun k hk => ?_
              simp only [ductusref14_Of.l3]
              rw [if_neg (by rw [List.length_append, hlr]; omega)]
              exact hk
            | cons x t iht =>
              intro run he hrun
              have hlr : (x0' :: rest).length = run.length + (t.length + 1) := by rw [he]; simp
              have hrd : rd (pre ++ (x0' :: rest)) ((pre.length + run.length : Nat) : Int) = x := by
                rw [he, ← List.append_assoc, rd_nat]
                have e : pre.length + run.length = (pre ++ run).length := by simp
                rw [e]
                simp
              have hx := hbd _ hpr x (by rw [he]; simp)
              by_cases hpp : p x = true
              · refine ev_step (iht (run ++ [x]) (by rw [he]; simp) (fun y hy => by
                  rcases List.mem_append.1 hy with hy | hy
                  · exact hrun y hy
                  · simp only [List.mem_singleton] at hy
                    rw [hy]
                    exact hpp)) fun k hk => ?_
                simp only [ductusref14_Of.l3]
                have e : pre.length + (run ++ [x]).length = pre.length + run.length + 1 := by simp; omega
                rw [e] at hk
                rw [if_pos (by rw [List.length_append, hlr]; omega), if_pos (by omega), hrd, if_pos hx.1, if_pos hx.2, if_pos ((hpx x).1 hpp), wrap_succ _ (by omega)]
                exact hk
              · refine ev_step (stop run (x :: t) he hrun (fun y s h => by
                  injection h with h1 h2
                  rw [← h1]
                  exact hpp)) fun k hk => ?_
                simp only [ductusref14_Of.l3]
                rw [if_pos (by rw [List.length_append, hlr]; omega), if_pos (by omega), hrd, if_pos hx.1, if_pos hx.2, if_neg (fun h => hpp ((hpx x).2 h))]
                exact hk
          have h := inner (x0' :: rest) [] rfl (by simp)
          refine ev_step h fun k hk => ?_
          simp only [ductusref14_Of.l2]
          rw [if_pos (by simp; omega)]
          exact hk
    have h := loop out.length [] out rfl (by simpa using hp)
    rw [hdown]
    simp only [List.nil_append] at h
    refine ev_step h fun k hk => ?_
    simp only [ductusref14_Of.l1]
    rw [if_pos (by omega)]
    exact hk
theorem most_enough (x0 : List Int) (m : Nat) (hm : m ≤ 127) (h : ∀ x ∈ rng x0.length, clampL (rd x0 x) ≤ (m : Int)) : downM (fun x => rd x0 x) m (rng x0.length) = ordM x0 := by
  unfold ordM
  rw [ord_clamp x0 _ m hm, ord_clamp x0 _ 127 (Nat.le_refl _), down_ref, down_ref]
  have h2 := ref_more (lvOf (x0.map clampL)) m 0 (rng x0.length) (127 - m) (fun x hx => by
    have := h x hx
    unfold lvOf
    rw [rd_clamp]
    omega)
  have e : m + (127 - m) = 127 := by omega
  rw [e] at h2
  rw [h2]
theorem rof_init (x0 : List Int) (hl : x0.length < 17592186044416) (d : Nat) : ∀ (i m : Nat), i ≤ x0.length → x0.length - i = d → m ≤ 127 → (∀ j : Nat, j < i → clampL (rd x0 (j : Int)) ≤ (m : Int)) →
    Ev (fun k => ductusref14_Of.l0 k x0 ((rng x0.length).take i ++ List.replicate (x0.length - i) 0) (m : Int) (i : Int)) (ordM x0) := by
  induction d with
  | zero =>
    intro i m hi hd hm h
    obtain rfl : i = x0.length := by omega
    have e1 : (rng x0.length).take x0.length ++ List.replicate (x0.length - x0.length) 0 = rng x0.length := by
      rw [Nat.sub_self, List.replicate_zero, List.append_nil, List.take_of_length_le (by rw [rng_len]; omega)]
    rw [e1, ← most_enough x0 m hm (fun x hx => by
      have hx2 := (rng_mem _ x).1 hx
      have := h x.toNat (by omega)
      have e : ((x.toNat : Nat) : Int) = x := by omega
      rw [e] at this
      exact this)]
    refine ev_step (rof_down x0 hl m (rng x0.length) hm (List.Perm.refl _)) fun k hk => ?_
    simp only [ductusref14_Of.l0]
    rw [if_neg (by omega)]
    exact hk
  | succ d ih =>
    intro i m hi hd hm h
    have hc := clampL_bd (rd x0 (i : Int))
    have e3 : mx (m : Int) (mn (rd x0 (i : Int)) 127) = ((max m (clampL (rd x0 (i : Int))).toNat : Nat) : Int) := by
      unfold clampL mx mn at *
      omega
    refine ev_step (ih (i + 1) (max m (clampL (rd x0 (i : Int))).toNat) (by omega) (by omega) (by omega) (fun j hj => by
      by_cases e : j = i
      · rw [e]
        omega
      · have := h j (by omega)
        omega)) fun k hk => ?_
    simp only [ductusref14_Of.l0]
    have e1 := fill_set (rng x0.length) i (by rw [rng_len]; omega)
    rw [rng_len, rng_rd _ _ (by omega)] at e1
    rw [if_pos (by omega), if_pos (by omega), if_pos (by simp [rng_len]; omega), Int.toNat_natCast, e1, e3, wrap_succ i (by omega)]
    exact hk
theorem rof_ev (x0 : List Int) (hl : x0.length < 17592186044416) : Ev (fun k => ductusref14_Of.f k x0) (ordM x0) := by
  have h := rof_init x0 hl x0.length 0 0 (by omega) (by omega) (by omega) (fun j hj => by omega)
  simp only [List.take_zero, List.nil_append, Nat.sub_zero] at h
  refine ev_same h fun k hk => ?_
  unfold ductusref14_Of.f
  rw [if_pos (by omega), Int.toNat_natCast, if_pos (by omega)]
  exact hk

/-! Right, Back -/
theorem rdOf_set (s : List Bool) (x y : Int) (hx : 0 ≤ x) (hx1 : x < (s.length : Int)) (hy : 0 ≤ y) : rdOf false (s.set x.toNat true) y = (decide (y = x) || rdOf false s y) := by
  unfold rdOf
  rw [List.getD_eq_getElem?_getD, List.getElem?_set, List.getD_eq_getElem?_getD]
  by_cases h : y = x
  · subst h
    rw [if_pos rfl, if_pos (by omega)]
    simp
  · rw [if_neg (by omega)]
    simp [h]
theorem rright_loop (l : List Int) (hl : l.length < 17592186044416) (d : Nat) : ∀ (i : Nat) (s : List Bool), i ≤ l.length → l.length - i = d → s.length = l.length → (l.take i).Nodup → (∀ x ∈ l.take i, 0 ≤ x ∧ x < (l.length : Int)) →
    (∀ y, 0 ≤ y → (rdOf false s y = true ↔ y ∈ l.take i)) → Ev (fun k => ductusref14_Right.l0 k l s (i : Int)) (rightL l) := by
  induction d with
  | zero =>
    intro i s hi hd hs hn hr hy
    rw [List.take_of_length_le (by omega)] at hn hr
    have e : rightL l = true := (rightL_iff l).2 ⟨hn, hr⟩
    rw [e]
    refine ev_one fun k => ?_
    simp only [ductusref14_Right.l0]
    rw [if_neg (by omega)]
  | succ d ih =>
    intro i s hi hd hs hn hr hy
    have hil : i < l.length := by omega
    have hmem := rd_mem l i hil
    have htk : l.take (i + 1) = l.take i ++ [rd l (i : Int)] := by
      rw [rd_get l i hil]
      exact List.take_succ_eq_append_getElem hil
    by_cases h0 : rd l (i : Int) < 0
    · have e : rightL l = false := by
        rw [Bool.eq_false_iff]
        intro h
        have := ((rightL_iff l).1 h).2 _ hmem
        omega
      rw [e]
      refine ev_one fun k => ?_
      simp only [ductusref14_Right.l0]
      rw [if_pos (by omega), if_pos (by omega), if_pos h0]
    · by_cases h1 : rd l (i : Int) ≥ (l.length : Int)
      · have e : rightL l = false := by
          rw [Bool.eq_false_iff]
          intro h
          have := ((rightL_iff l).1 h).2 _ hmem
          omega
        rw [e]
        refine ev_one fun k => ?_
        simp only [ductusref14_Right.l0]
        rw [if_pos (by omega), if_pos (by omega), if_neg h0, if_pos h1]
      · by_cases h2 : rdOf false s (rd l (i : Int)) = true
        · have hin := (hy _ (by omega)).1 h2
          have e : rightL l = false := by
            rw [Bool.eq_false_iff]
            intro h
            have hnd := ((rightL_iff l).1 h).1
            have hnd2 : (l.take (i + 1)).Nodup := List.Sublist.nodup (List.take_sublist _ _) hnd
            rw [htk, List.nodup_append] at hnd2
            exact hnd2.2.2 _ hin _ (by simp) rfl
          rw [e]
          refine ev_one fun k => ?_
          simp only [ductusref14_Right.l0]
          rw [if_pos (by omega), if_pos (by omega), if_neg h0, if_neg h1, if_pos (by omega), if_pos (by omega), if_pos h2]
        · have hni : rd l (i : Int) ∉ l.take i := fun h => h2 ((hy _ (by omega)).2 h)
          refine ev_step (ih (i + 1) (s.set (rd l (i : Int)).toNat true) (by omega) (by omega) (by simp [hs]) ?_ ?_ ?_) fun k hk => ?_
          · rw [htk, List.nodup_append]
            refine ⟨hn, by simp, fun a ha b hb e => ?_⟩
            simp only [List.mem_singleton] at hb
            rw [hb] at e
            rw [e] at ha
            exact hni ha
          · intro x hx
            rw [htk] at hx
            rcases List.mem_append.1 hx with hx | hx
            · exact hr x hx
            · simp only [List.mem_singleton] at hx
              rw [hx]
              omega
          · intro y hy0
            rw [rdOf_set s _ y (by omega) (by omega) hy0, htk]
            simp only [Bool.or_eq_true, decide_eq_true_eq, List.mem_append, List.mem_singleton]
            rw [hy y hy0]
            exact Or.comm
          · simp only [ductusref14_Right.l0]
            rw [if_pos (by omega), if_pos (by omega), if_neg h0, if_neg h1, if_pos (by omega), if_pos (by omega), if_neg h2, wrap_succ i (by omega)]
            exact hk
theorem rright_ev (l : List Int) (hl : l.length < 17592186044416) : Ev (fun k => ductusref14_Right.f k l) (rightL l) := by
  have h := rright_loop l hl l.length 0 (List.replicate l.length false) (by omega) (by omega) (by simp) (by simp) (by simp) (fun y hy => by
    simp [rdOf, List.getD_eq_getElem?_getD, List.getElem?_replicate]
    split <;> simp)
  refine ev_same h fun k hk => ?_
  unfold ductusref14_Right.f
  rw [if_pos (by omega), Int.toNat_natCast, if_pos (by omega)]
  exact hk
theorem rback_loop (l : List Int) (hl : l.length < 17592186044416) (hr : rightL l = true) (d : Nat) : ∀ (i : Nat) (acc : List Int), i ≤ l.length → l.length - i = d → acc.length = l.length →
    Ev (fun k => ductusref14_Back.l0 k l acc (i : Int)) (backL i acc (l.drop i), 0) := by
  induction d with
  | zero =>
    intro i acc hi hd ha
    refine ev_one fun k => ?_
    simp only [ductusref14_Back.l0]
    rw [if_neg (by omega), List.drop_eq_nil_of_le (by omega)]
    rfl
  | succ d ih =>
    intro i acc hi hd ha
    have hx := ((rightL_iff l).1 hr).2 _ (rd_mem l i (by omega))
    refine ev_step (ih (i + 1) (acc.set (rd l (i : Int)).toNat (i : Int)) (by omega) (by omega) (by simp [ha])) fun k hk => ?_
    simp only [ductusref14_Back.l0]
    rw [if_pos (by omega), if_pos (by omega), if_pos hx.1, if_pos (by omega), wrap_succ i (by omega), drop_cons l i (by omega)]
    exact hk
theorem rback_ev (l : List Int) (hl : l.length < 17592186044416) : Ev (fun k => ductusref14_Back.f k l) (backM l) := by
  by_cases hr : rightL l = true
  · have h := rback_loop l hl hr l.length 0 (List.replicate l.length 0) (by omega) (by omega) (by simp)
    refine ev_same2 (rright_ev l hl) h fun k h1 hk => ?_
    unfold ductusref14_Back.f backM
    rw [h1, Option.bind_some, if_pos hr, if_pos hr, if_pos (by omega), Int.toNat_natCast, if_pos (by omega)]
    exact hk
  · refine ev_same (rright_ev l hl) fun k h1 => ?_
    unfold ductusref14_Back.f backM
    rw [h1, Option.bind_some, if_neg hr, if_neg hr]

/-! Seen, Only -/
theorem tmod_two (n : Int) : Int.tmod n 2 = 0 ↔ ¬ n % 2 = 1 := by
  constructor
  · intro h
    have h2 := Int.mul_tdiv_add_tmod n 2
    omega
  · intro h
    have h2 := Int.mul_tdiv_add_tmod n 2
    have h3 := Int.tmod_lt_of_pos n (b := 2) (by omega)
    have h4 : -2 < Int.tmod n 2 := by
      rcases Int.le_total 0 n with hn | hn
      · have := Int.tmod_nonneg 2 hn
        omega
      · have h5 := Int.neg_tmod n 2
        have := Int.tmod_lt_of_pos (-n) (b := 2) (by omega)
        omega
    omega
theorem rmir_ev (c : Int) : Ev (fun k => ductusref03_Mirror.f k c) (mir c) := ⟨14, fun k hk => rmirror_eq k hk c⟩
theorem rseen_loop (chars levels o : List Int) (he : chars.length = levels.length) (ho : ∀ x ∈ o, 0 ≤ x ∧ x < (levels.length : Int)) (hl : o.length < 17592186044416) (d : Nat) : ∀ (i : Nat) (acc : List Int), i ≤ o.length → o.length - i = d → acc.length = i →
    Ev (fun k => ductusref14_Seen.l0 k chars levels acc o (i : Int)) (acc ++ (o.drop i).map (seenC chars levels)) := by
  induction d with
  | zero =>
    intro i acc hi hd ha
    refine ev_one fun k => ?_
    simp only [ductusref14_Seen.l0]
    rw [if_neg (by omega), List.drop_eq_nil_of_le (by omega)]
    simp
  | succ d ih =>
    intro i acc hi hd ha
    have hx := ho _ (rd_mem o i (by omega))
    have e : acc ++ (o.drop i).map (seenC chars levels) = (acc ++ [seenC chars levels (rd o (i : Int))]) ++ (o.drop (i + 1)).map (seenC chars levels) := by
      rw [drop_cons o i (by omega)]
      simp
    rw [e]
    refine ev_step2 (ih (i + 1) (acc ++ [seenC chars levels (rd o (i : Int))]) (by omega) (by omega) (by simp [ha])) (rmir_ev (rd chars (rd o (i : Int)))) fun k hk hm => ?_
    simp only [ductusref14_Seen.l0]
    rw [if_pos (by omega), if_pos (by omega), if_pos hx.1, if_pos (by omega), if_pos (by omega), wrap_succ i (by omega)]
    have ht := tmod_two (rd levels (rd o (i : Int)))
    unfold seenC at hk ⊢
    by_cases h : rd levels (rd o (i : Int)) % 2 = 1
    · rw [if_neg (fun h2 => (ht.1 h2) h)]
      rw [if_pos h] at hk ⊢
      rw [hm, Option.bind_some, if_pos (by omega)]
      exact hk
    · rw [if_pos (ht.2 h)]
      rw [if_neg h] at hk ⊢
      rw [if_pos (by omega)]
      exact hk
theorem rseen_ev (chars levels : List Int) (hl : levels.length < 17592186044416) : Ev (fun k => ductusref14_Seen.f k chars levels) (seenM chars levels) := by
  unfold seenM
  by_cases he : chars.length = levels.length
  · rw [if_pos he]
    have hp := ordM_perm levels
    have h := rseen_loop chars levels (ordM levels) he (fun x hx => (rng_mem _ x).1 (hp.mem_iff.1 hx)) (by rw [ordM_len]; exact hl) (ordM levels).length 0 [] (by omega) (by omega) rfl
    simp only [List.drop_zero, List.nil_append] at h
    refine ev_same2 (rof_ev levels hl) h fun k h1 h2 => ?_
    unfold ductusref14_Seen.f
    rw [if_pos (by omega), h1, Option.bind_some]
    exact h2
  · rw [if_neg he]
    refine ev_now fun k => ?_
    unfold ductusref14_Seen.f
    rw [if_neg (by omega)]
theorem ronly_loop (keep : List Bool) (l : List Int) (hl : l.length < 17592186044416) (d : Nat) : ∀ (i : Nat) (acc : List Int), i ≤ l.length → l.length - i = d → acc.length ≤ i →
    Ev (fun k => ductusref14_Only.l0 k l keep acc (i : Int)) (acc ++ onlyM keep (l.drop i)) := by
  induction d with
  | zero =>
    intro i acc hi hd ha
    refine ev_one fun k => ?_
    simp only [ductusref14_Only.l0]
    rw [if_neg (by omega), List.drop_eq_nil_of_le (by omega)]
    simp [onlyM]
  | succ d ih =>
    intro i acc hi hd ha
    have hd2 := drop_cons l i (by omega)
    by_cases h : 0 ≤ rd l (i : Int) ∧ rd l (i : Int) < (keep.length : Int) ∧ rdOf false keep (rd l (i : Int)) = true
    · have e : acc ++ onlyM keep (l.drop i) = (acc ++ [rd l (i : Int)]) ++ onlyM keep (l.drop (i + 1)) := by
        rw [hd2]
        simp [onlyM, List.filter_cons, h]
      rw [e]
      refine ev_step (ih (i + 1) (acc ++ [rd l (i : Int)]) (by omega) (by omega) (by simp; omega)) fun k hk => ?_
      simp only [ductusref14_Only.l0]
      rw [if_pos (by omega), if_pos (by omega), if_pos h.1, if_pos h.2.1, if_pos h.1, if_pos h.2.2, if_pos (by omega), wrap_succ i (by omega)]
      exact hk
    · have e : acc ++ onlyM keep (l.drop i) = acc ++ onlyM keep (l.drop (i + 1)) := by
        rw [hd2]
        unfold onlyM
        rw [List.filter_cons, if_neg]
        intro hh
        simp only [Bool.and_eq_true, decide_eq_true_eq] at hh
        exact h ⟨hh.1.1, hh.1.2, hh.2⟩
      rw [e]
      refine ev_step (ih (i + 1) acc (by omega) (by omega) (by omega)) fun k hk => ?_
      simp only [ductusref14_Only.l0]
      rw [if_pos (by omega), if_pos (by omega), wrap_succ i (by omega)]
      by_cases h0 : 0 ≤ rd l (i : Int)
      · rw [if_pos h0]
        by_cases h1 : rd l (i : Int) < (keep.length : Int)
        · rw [if_pos h1, if_pos h0, if_neg (fun h2 => h ⟨h0, h1, h2⟩)]
          exact hk
        · rw [if_neg h1]
          exact hk
      · rw [if_neg h0]
        exact hk
theorem ronly_ev (keep : List Bool) (l : List Int) (hl : l.length < 17592186044416) : Ev (fun k => ductusref14_Only.f k l keep) (onlyM keep l) := by
  have h := ronly_loop keep l hl l.length 0 [] (by omega) (by omega) (by simp)
  simp only [List.drop_zero, List.nil_append] at h
  exact h
end Go.Proofs.Ytcmcajjdcbkfkaa.P
