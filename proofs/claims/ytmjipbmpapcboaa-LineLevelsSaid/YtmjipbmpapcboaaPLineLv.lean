/- Proved: what line.Levels, and the document's answer for it, tell of any lists and any line; conditions: lists shorter than 2^43. -/
import Derived.Test.YtmjipbmpapcboaaPLine
import Derived.Test.YtmjipbmpapcboaaPClassK
import Derived.Test.YtmjipbmpapcboaaPx6
import Derived.Test.YtmjipbmpapcboaaPx10
namespace Go.Proofs.Ytmjipbmpapcboaa.P
open Go.RowKit Go.Proofs.YtmjipbmpapcboaaW.PrintWords Go.Proofs.YtmjipbmpapcboaaW.PrintLast Go.Proofs.YtmjipbmpapcboaaW.PrintMore
set_option linter.unusedVariables false
set_option linter.unusedSimpArgs false

/-- Is a class let go ahead of a line's end? -/
def lightK (k : Int) : Bool := (k == 12) || (k == 22) || opnK k || outK k
theorem light_ev (k : Int) : Ev (fun n => line_light.f n k) (lightK k) := ⟨91, fun n hn => by
  show line_light.f n k = some (lightK k)
  unfold line_light.f lightK
  by_cases h1 : k = 12
  · rw [if_pos h1]
    simp [h1]
  · rw [if_neg h1]
    by_cases h2 : k = 22
    · rw [if_pos h2]
      simp [h2]
    · have b1 : (k == 12) = false := by simpa using h1
      have b2 : (k == 22) = false := by simpa using h2
      rw [if_neg h2, opens_eq n (by omega), b1, b2]
      simp only [Option.bind_some, out_eq n (show 8 ≤ n by omega)]
      cases opnK k <;> simp⟩
theorem rlight_eq (k : Int) : ductusref13_light.f k = some (lightK k) := by
  unfold ductusref13_light.f lightK
  rw [ropens_eq, rout0_eq]
  by_cases h1 : k = 12
  · rw [if_pos h1]
    simp [h1]
  · have b1 : (k == 12) = false := by simpa using h1
    rw [if_neg h1, b1]
    simp only [Option.bind_some]
    by_cases h2 : k = 22
    · rw [if_pos h2]
      cases opnK k <;> simp [h2]
    · have b2 : (k == 22) = false := by simpa using h2
      rw [if_neg h2, b2]
      cases opnK k <;> simp
/-- Is nothing from here on but what is let go, up to a separator, or the end? -/
def endsAt : List Int → Bool
  | [] => true
  | c :: l => if cls c = 11 ∨ cls c = 10 then true else if lightK (cls c) = true then endsAt l else false
theorem ends_sep (c : Int) (l : List Int) (h : cls c = 11 ∨ cls c = 10) : endsAt (c :: l) = true := by
  simp only [endsAt]
  rw [if_pos h]
theorem ends_light (c : Int) (l : List Int) (h : ¬ (cls c = 11 ∨ cls c = 10)) (h2 : lightK (cls c) = true) : endsAt (c :: l) = endsAt l := by
  simp only [endsAt]
  rw [if_neg h, if_pos h2]
theorem ends_no (c : Int) (l : List Int) (h : ¬ (cls c = 11 ∨ cls c = 10)) (h2 : ¬ lightK (cls c) = true) : endsAt (c :: l) = false := by
  simp only [endsAt]
  rw [if_neg h, if_neg h2]
def levF (base : Int) : List Int → List Int → List Int
  | c :: cs, v :: l => (if endsAt (c :: cs) = true then base else v) :: levF base cs l
  | _, _ => []
theorem levF_len (base : Int) : ∀ (cs l : List Int), cs.length = l.length → (levF base cs l).length = l.length
  | [], [], _ => rfl
  | c :: cs, v :: l, h => by
    simp only [levF, List.length_cons, levF_len base cs l (by simpa using h)]
theorem light_not (k : Int) (h : k = 11 ∨ k = 10) : lightK k = false := by
  rcases h with rfl | rfl <;> decide
theorem rd_seg (l : List Int) (a b i : Nat) (h : a + i < b) (hb : b ≤ l.length) : rd ((l.take b).drop a) (i : Int) = rd l ((a + i : Nat) : Int) := by
  rw [rd_nat, rd_nat, List.getD_eq_getElem?_getD, List.getD_eq_getElem?_getD, List.getElem?_drop, List.getElem?_take, if_pos h]
theorem seg_len (l : List Int) (a b : Nat) (h : a ≤ b) (hb : b ≤ l.length) : ((l.take b).drop a).length = b - a := by
  rw [List.length_drop, List.length_take]
  omega
theorem set_at (a b : List Int) (x y : Int) (j : Nat) (h : a.length = j) : (a ++ x :: b).set j y = a ++ y :: b := by
  subst h
  simp
theorem wrap_add (a b : Nat) (h : a + b < 9223372036854775807) : wrap64 ((a : Int) + (b : Int)) = ((a + b : Nat) : Int) := by
  rw [wrap_id (by omega) (by omega)]
  omega
/-- A line's levels. -/
def lvM (chars levels : List Int) (base a b : Int) : List Int :=
  if chars.length = levels.length ∧ 0 ≤ a ∧ a ≤ b ∧ b ≤ (chars.length : Int) then levF base ((chars.take b.toNat).drop a.toNat) ((levels.take b.toNat).drop a.toNat) else []
theorem cls_ev (c : Int) : Ev (fun k => class_Of.f k c) (cls c) := ⟨91, fun k hk => class_of_eq k hk c⟩

theorem lv_loop (chars levels : List Int) (base : Int) (a b : Nat) (he : chars.length = levels.length) (hab : a ≤ b) (hb : b ≤ chars.length) (hl : chars.length < 8796093022208) : ∀ (j : Nat), j ≤ b - a →
    Ev (fun k => line_Levels.l0 k chars base (((levels.take b).drop a).take j ++ levF base (((chars.take b).drop a).drop j) (((levels.take b).drop a).drop j)) (endsAt (((chars.take b).drop a).drop j)) ((j : Int) - 1) (a : Int) (b : Int)) (levF base ((chars.take b).drop a) ((levels.take b).drop a)) := by
  have hlc := seg_len chars a b hab hb
  have hll := seg_len levels a b hab (by omega)
  obtain ⟨cs, hcs⟩ : ∃ cs, cs = (chars.take b).drop a := ⟨_, rfl⟩
  obtain ⟨ls, hls⟩ : ∃ ls, ls = (levels.take b).drop a := ⟨_, rfl⟩
  rw [← hcs] at hlc
  rw [← hls] at hll
  rw [← hcs, ← hls]
  intro j
  induction j with
  | zero =>
    intro hj
    refine ev_one fun k => ?_
    simp only [line_Levels.l0]
    rw [if_neg (by omega)]
    simp
  | succ j ih =>
    intro hj
    have ih := ih (by omega)
    have hc := drop_cons cs j (by omega)
    have hv := drop_cons ls j (by omega)
    have hrc : rd chars ((a + j : Nat) : Int) = rd cs (j : Int) := by
      rw [hcs, rd_seg chars a b j (by omega) hb]
    have hx : ((j + 1 : Nat) : Int) - 1 = (j : Int) := by omega
    have htk : ls.take (j + 1) = ls.take j ++ [rd ls (j : Int)] := by
      rw [rd_get ls j (by omega)]
      exact List.take_succ_eq_append_getElem (by omega)
    have hst : ls.take (j + 1) ++ levF base (cs.drop (j + 1)) (ls.drop (j + 1)) = ls.take j ++ rd ls (j : Int) :: levF base (cs.drop (j + 1)) (ls.drop (j + 1)) := by
      rw [htk]
      simp
    have htl : (ls.take j).length = j := by
      rw [List.length_take]
      omega
    have hnx : ls.take j ++ levF base (cs.drop j) (ls.drop j) = ls.take j ++ (if endsAt (rd cs (j : Int) :: cs.drop (j + 1)) = true then base else rd ls (j : Int)) :: levF base (cs.drop (j + 1)) (ls.drop (j + 1)) := by
      rw [hc, hv]
      rfl
    rw [hnx, hc] at ih
    have hlen : (ls.take j ++ rd ls (j : Int) :: levF base (cs.drop (j + 1)) (ls.drop (j + 1))).length = ls.length := by
      rw [List.length_append, htl, List.length_cons, levF_len base _ _ (by rw [List.length_drop, List.length_drop]; omega), List.length_drop]
      omega
    rw [hst, hx]
    obtain ⟨c, hce⟩ : ∃ c, rd cs (j : Int) = c := ⟨_, rfl⟩
    rw [hce] at ih hrc
    have second : Ev (fun k => line_Levels.j2 k chars base (ls.take j ++ rd ls (j : Int) :: levF base (cs.drop (j + 1)) (ls.drop (j + 1))) (endsAt (cs.drop (j + 1))) (j : Int) (cls c) (decide (cls c = 11 ∨ cls c = 10)) (a : Int) (b : Int)) (levF base cs ls) := by
      by_cases h : cls c = 11 ∨ cls c = 10
      · rw [decide_eq_true h]
        have e : endsAt (c :: cs.drop (j + 1)) = true := ends_sep c _ h
        rw [e, if_pos rfl] at ih
        refine ev_step ih fun k hk => ?_
        simp only [line_Levels.j2]
        rw [if_pos trivial, if_pos (by omega), if_pos (by omega), Int.toNat_natCast, set_at _ _ _ _ _ htl, wrap_id (by omega) (by omega)]
        exact hk
      · rw [decide_eq_false h]
        by_cases hlt : lightK (cls c) = true
        · have e : endsAt (c :: cs.drop (j + 1)) = endsAt (cs.drop (j + 1)) := ends_light c _ h hlt
          rw [e] at ih
          refine ev_step2 ih (light_ev (cls c)) fun k hk hg => ?_
          simp only [line_Levels.j2]
          rw [if_neg (by decide), hg, Option.bind_some, if_pos hlt]
          by_cases hf : endsAt (cs.drop (j + 1)) = true
          · rw [if_pos hf] at hk ⊢
            rw [if_pos (by omega), if_pos (by omega), Int.toNat_natCast, set_at _ _ _ _ _ htl, wrap_id (by omega) (by omega)]
            exact hk
          · rw [if_neg hf] at hk ⊢
            rw [wrap_id (by omega) (by omega)]
            exact hk
        · have e : endsAt (c :: cs.drop (j + 1)) = false := ends_no c _ h hlt
          rw [e, if_neg (by decide)] at ih
          refine ev_step2 ih (light_ev (cls c)) fun k hk hg => ?_
          simp only [line_Levels.j2]
          rw [if_neg (by decide), hg, Option.bind_some, if_neg hlt, wrap_id (by omega) (by omega)]
          exact hk
    refine ev_step2 second (cls_ev c) fun k hk hg => ?_
    have q1 : (j : Int) ≥ 0 := by omega
    have q2 : (0 : Int) ≤ ((a + j : Nat) : Int) := by omega
    have q3 : ((a + j : Nat) : Int) < (chars.length : Int) := by omega
    simp only [line_Levels.l0]
    rw [if_pos q1, wrap_add a j (by omega), if_pos q2, if_pos q3, hrc, hg, Option.bind_some]
    by_cases h11 : cls c = 11
    · rw [if_pos h11]
      rw [decide_eq_true (Or.inl h11)] at hk
      exact hk
    · rw [if_neg h11]
      have e : (cls c == 10) = decide (cls c = 11 ∨ cls c = 10) := by
        rw [Bool.eq_iff_iff]
        simp [h11]
      rw [e]
      exact hk
theorem lv_ev (chars levels : List Int) (base a b : Int) (hl : chars.length < 8796093022208) : Ev (fun k => line_Levels.f k chars levels base a b) (lvM chars levels base a b) := by
  have yes : Ev (fun k => line_Levels.j0 k chars levels base true a b) [] := ev_one fun k => by simp only [line_Levels.j0, if_true]
  unfold lvM
  by_cases h : chars.length = levels.length ∧ 0 ≤ a ∧ a ≤ b ∧ b ≤ (chars.length : Int)
  · rw [if_pos h]
    obtain ⟨he, h0, h1, h2⟩ := h
    have hll := seg_len levels a.toNat b.toNat (by omega) (by omega)
    have h3 := lv_loop chars levels base a.toNat b.toNat he (by omega) (by omega) hl (b.toNat - a.toNat) (Nat.le_refl _)
    have ea : ((a.toNat : Nat) : Int) = a := by omega
    have eb : ((b.toNat : Nat) : Int) = b := by omega
    have hdc : ((chars.take b.toNat).drop a.toNat).drop (b.toNat - a.toNat) = [] := List.drop_eq_nil_of_le (by rw [seg_len chars a.toNat b.toNat (by omega) (by omega)]; omega)
    have htl : ((levels.take b.toNat).drop a.toNat).take (b.toNat - a.toNat) = (levels.take b.toNat).drop a.toNat := List.take_of_length_le (by omega)
    rw [ea, eb, hdc, htl] at h3
    have e : levF base [] (((levels.take b.toNat).drop a.toNat).drop (b.toNat - a.toNat)) = [] := by simp [levF]
    rw [e, List.append_nil] at h3
    have h4 : Ev (fun k => line_Levels.j0 k chars levels base false a b) (levF base ((chars.take b.toNat).drop a.toNat) ((levels.take b.toNat).drop a.toNat)) := ev_step h3 fun k hk => by
      simp only [line_Levels.j0]
      rw [if_neg (by decide), if_pos h0, if_pos h1, if_pos (by omega)]
      unfold slices_Clone_int.f
      rw [if_pos (by omega), Option.bind_some, hll, wrap_id (by omega) (by omega)]
      exact hk
    refine ev_same h4 fun k hk => ?_
    unfold line_Levels.f
    rw [if_pos (by omega), if_neg (by omega), if_neg (by omega), decide_eq_false (by omega)]
    exact hk
  · rw [if_neg h]
    refine ev_same yes fun k hk => ?_
    unfold line_Levels.f
    by_cases he : chars.length = levels.length
    · rw [if_pos (by omega)]
      by_cases h0 : a < 0
      · rw [if_pos h0]
        exact hk
      · rw [if_neg h0]
        by_cases h1 : a > b
        · rw [if_pos h1]
          exact hk
        · rw [if_neg h1, decide_eq_true (by omega)]
          exact hk
    · rw [if_neg (by omega)]
      exact hk

/-! the document's -/
theorem rlv_loop (chars levels : List Int) (base : Int) (a b : Nat) (he : chars.length = levels.length) (hab : a ≤ b) (hb : b ≤ chars.length) (hl : chars.length < 8796093022208) (d : Nat) : ∀ (i : Nat), i ≤ b - a → b - a - i = d →
    Ev (fun k => ductusref13_Levels.l0 k chars base ((levF base ((chars.take b).drop a) ((levels.take b).drop a)).take i ++ ((levels.take b).drop a).drop i) (i : Int) (a : Int) (b : Int)) (levF base ((chars.take b).drop a) ((levels.take b).drop a)) := by
  have hlc := seg_len chars a b hab hb
  have hll := seg_len levels a b hab (by omega)
  have hrc0 : ∀ j : Nat, j < b - a → rd chars ((a + j : Nat) : Int) = rd ((chars.take b).drop a) (j : Int) := fun j hj => (rd_seg chars a b j (by omega) hb).symm
  obtain ⟨cs, hcs⟩ : ∃ cs, cs = (chars.take b).drop a := ⟨_, rfl⟩
  obtain ⟨ls, hls⟩ : ∃ ls, ls = (levels.take b).drop a := ⟨_, rfl⟩
  rw [← hcs] at hlc hrc0
  rw [← hls] at hll
  rw [← hcs, ← hls]
  have hfl := levF_len base cs ls (by omega)
  obtain ⟨fin, hfin⟩ : ∃ fin, fin = levF base cs ls := ⟨_, rfl⟩
  rw [← hfin] at hfl
  have hdrop : ∀ (i : Nat) (cs ls : List Int), (levF base cs ls).drop i = levF base (cs.drop i) (ls.drop i) := by
    intro i
    induction i with
    | zero => intro cs ls; rfl
    | succ i ih =>
      intro cs ls
      cases cs with
      | nil => simp [levF]
      | cons c cs =>
        cases ls with
        | nil =>
          simp only [levF, List.drop_nil]
          cases h : List.drop (i + 1) (c :: cs) <;> simp [levF]
        | cons v ls => simp only [levF, List.drop_succ_cons, ih]
  have hat : ∀ i : Nat, i < b - a → rd fin (i : Int) = if endsAt (cs.drop i) = true then base else rd ls (i : Int) := fun i hi => by
    have h1 := drop_cons fin i (by omega)
    have h2 := hdrop i cs ls
    rw [← hfin, h1, drop_cons cs i (by omega), drop_cons ls i (by omega)] at h2
    rw [drop_cons cs i (by omega)]
    simp only [levF] at h2
    injection h2
  rw [← hfin]
  induction d with
  | zero =>
    intro i hi hd
    refine ev_one fun k => ?_
    simp only [ductusref13_Levels.l0]
    rw [List.take_of_length_le (by omega), List.drop_eq_nil_of_le (by omega), List.append_nil, if_neg (by omega)]
  | succ d ih =>
    intro i hi hd
    have ih := ih (i + 1) (by omega) (by omega)
    have hft : (fin.take i).length = i := by
      rw [List.length_take]
      omega
    have hout : fin.take i ++ ls.drop i = fin.take i ++ rd ls (i : Int) :: ls.drop (i + 1) := by rw [drop_cons ls i (by omega)]
    have hnx : fin.take (i + 1) ++ ls.drop (i + 1) = fin.take i ++ (if endsAt (cs.drop i) = true then base else rd ls (i : Int)) :: ls.drop (i + 1) := by
      rw [← hat i (by omega), rd_get fin i (by omega), List.take_succ_eq_append_getElem (show i < fin.length by omega), List.append_assoc]
      rfl
    have hlen : (fin.take i ++ rd ls (i : Int) :: ls.drop (i + 1)).length = b - a := by
      rw [List.length_append, hft, List.length_cons, List.length_drop]
      omega
    rw [hnx] at ih
    rw [hout]
    have inner : ∀ (e j : Nat), b - a - j = e → i ≤ j → j ≤ b - a → endsAt (cs.drop i) = endsAt (cs.drop j) → Ev (fun k => ductusref13_Levels.l1 k chars base (fin.take i ++ rd ls (i : Int) :: ls.drop (i + 1)) (i : Int) ((a + j : Nat) : Int) (a : Int) (b : Int)) fin := by
      intro e
      induction e with
      | zero =>
        intro j hj hij hjb hen
        rw [hen, List.drop_eq_nil_of_le (by omega)] at ih
        have e0 : endsAt [] = true := rfl
        rw [e0, if_pos rfl] at ih
        have h3 : Ev (fun k => ductusref13_Levels.j3 k chars base (fin.take i ++ rd ls (i : Int) :: ls.drop (i + 1)) (i : Int) ((a + j : Nat) : Int) (a : Int) (b : Int)) fin := ev_step ih fun k hk => by
          simp only [ductusref13_Levels.j3]
          rw [if_pos (by omega), if_pos (by omega), if_pos (by omega), Int.toNat_natCast, set_at _ _ _ _ _ hft, wrap_succ i (by omega)]
          exact hk
        refine ev_step h3 fun k hk => ?_
        simp only [ductusref13_Levels.l1]
        rw [if_neg (by omega)]
        exact hk
      | succ e ihe =>
        intro j hj hij hjb hen
        have hrc := hrc0 j (by omega)
        have hcj := drop_cons cs j (by omega)
        obtain ⟨c, hce⟩ : ∃ c, rd cs (j : Int) = c := ⟨_, rfl⟩
        rw [hce] at hrc hcj
        by_cases hlt : lightK (cls c) = true
        · have hno : ¬ (cls c = 11 ∨ cls c = 10) := fun h => by rw [light_not _ h] at hlt; cases hlt
          have hen2 : endsAt (cs.drop i) = endsAt (cs.drop (j + 1)) := by
            rw [hen, hcj]
            exact ends_light c _ hno hlt
          refine ev_step (ihe (j + 1) (by omega) (by omega) (by omega) hen2) fun k hk => ?_
          simp only [ductusref13_Levels.l1]
          rw [if_pos (by omega), if_pos (by omega), if_pos (by omega), hrc, rcls_eq, Option.bind_some, rlight_eq, Option.bind_some, if_pos hlt, wrap_succ _ (by omega)]
          exact hk
        · have h3 : Ev (fun k => ductusref13_Levels.j3 k chars base (fin.take i ++ rd ls (i : Int) :: ls.drop (i + 1)) (i : Int) ((a + j : Nat) : Int) (a : Int) (b : Int)) fin := by
            rw [hen, hcj] at ih
            refine ev_step ih fun k hk => ?_
            simp only [ductusref13_Levels.j3]
            rw [if_neg (by omega), if_pos (by omega), if_pos (by omega), hrc, rcls_eq, Option.bind_some]
            by_cases h11 : cls c = 11
            · rw [ends_sep c _ (Or.inl h11), if_pos rfl] at hk
              rw [if_pos h11, if_pos (by omega), if_pos (by omega), Int.toNat_natCast, set_at _ _ _ _ _ hft, wrap_succ i (by omega)]
              exact hk
            · rw [if_neg h11, Option.bind_some]
              by_cases h10 : cls c = 10
              · rw [ends_sep c _ (Or.inr h10), if_pos rfl] at hk
                rw [if_pos h10, if_pos (by omega), if_pos (by omega), Int.toNat_natCast, set_at _ _ _ _ _ hft, wrap_succ i (by omega)]
                exact hk
              · rw [ends_no c _ (fun h => h.elim h11 h10) hlt, if_neg (by decide)] at hk
                rw [if_neg h10, wrap_succ i (by omega)]
                exact hk
          refine ev_step h3 fun k hk => ?_
          simp only [ductusref13_Levels.l1]
          rw [if_pos (by omega), if_pos (by omega), if_pos (by omega), hrc, rcls_eq, Option.bind_some, rlight_eq, Option.bind_some, if_neg hlt]
          exact hk
    refine ev_step (inner (b - a - i) i rfl (Nat.le_refl _) (by omega) rfl) fun k hk => ?_
    simp only [ductusref13_Levels.l0]
    rw [if_pos (by omega), wrap_add a i (by omega)]
    exact hk
theorem rlv_ev (chars levels : List Int) (base a b : Int) (hl : chars.length < 8796093022208) : Ev (fun k => ductusref13_Levels.f k chars levels base a b) (lvM chars levels base a b) := by
  have yes : Ev (fun k => ductusref13_Levels.j0 k chars levels base true a b) [] := ev_one fun k => by simp only [ductusref13_Levels.j0, if_true]
  unfold lvM
  by_cases h : chars.length = levels.length ∧ 0 ≤ a ∧ a ≤ b ∧ b ≤ (chars.length : Int)
  · rw [if_pos h]
    obtain ⟨he, h0, h1, h2⟩ := h
    have hll := seg_len levels a.toNat b.toNat (by omega) (by omega)
    have h3 := rlv_loop chars levels base a.toNat b.toNat he (by omega) (by omega) hl (b.toNat - a.toNat) 0 (by omega) (by omega)
    have ea : ((a.toNat : Nat) : Int) = a := by omega
    have eb : ((b.toNat : Nat) : Int) = b := by omega
    rw [ea, eb, List.take_zero, List.nil_append, List.drop_zero] at h3
    have h4 : Ev (fun k => ductusref13_Levels.j0 k chars levels base false a b) (levF base ((chars.take b.toNat).drop a.toNat) ((levels.take b.toNat).drop a.toNat)) := ev_step h3 fun k hk => by
      simp only [ductusref13_Levels.j0]
      rw [if_neg (by decide), Option.bind_some, if_pos h0, if_pos h1, if_pos (by omega), if_pos (by rw [List.length_nil]; omega), List.nil_append]
      exact hk
    refine ev_same h4 fun k hk => ?_
    unfold ductusref13_Levels.f
    rw [if_pos (by omega), if_neg (by omega), if_neg (by omega), decide_eq_false (by omega)]
    exact hk
  · rw [if_neg h]
    refine ev_same yes fun k hk => ?_
    unfold ductusref13_Levels.f
    by_cases he : chars.length = levels.length
    · rw [if_pos (by omega)]
      by_cases h0 : a < 0
      · rw [if_pos h0]
        exact hk
      · rw [if_neg h0]
        by_cases h1 : b > (chars.length : Int)
        · rw [if_pos h1]
          exact hk
        · rw [if_neg h1, decide_eq_true (by omega)]
          exact hk
    · rw [if_neg (by omega)]
      exact hk
theorem lvM_len (chars levels : List Int) (base a b : Int) : (lvM chars levels base a b).length ≤ levels.length := by
  unfold lvM
  split
  · rename_i h
    rw [levF_len base _ _ (by rw [seg_len chars _ _ (by omega) (by omega), seg_len levels _ _ (by omega) (by omega)]), seg_len levels _ _ (by omega) (by omega)]
    omega
  · simp
end Go.Proofs.Ytmjipbmpapcboaa.P
