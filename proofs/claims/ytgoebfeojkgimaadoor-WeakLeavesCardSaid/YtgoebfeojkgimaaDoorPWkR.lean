/- Proved: what each rule of weak does with a list, place by place, and all of them one behind the other; conditions: a list shorter than 2^43, and, where it is written, classes from 0 up till 22. -/
import Derived.Test.YtgoebfeojkgimaaDoorPWk
import Derived.Test.YtgoebfeojkgimaaDoorPx4
namespace Go.Proofs.YtgoebfeojkgimaaDoor.P
open Go.RowKit Go.Proofs.YtgoebfeojkgimaaDoorW.PrintWords Go.Proofs.YtgoebfeojkgimaaDoorW.PrintLast Go.Proofs.YtgoebfeojkgimaaDoorW.PrintMore
set_option linter.unusedVariables false
set_option linter.unusedSimpArgs false

theorem rd_set_eq (xs : List Int) (i : Nat) (v : Int) (h : i < xs.length) : rd (xs.set i v) (i : Int) = v := by
  rw [rd_get _ i (by simpa using h)]
  simp
theorem rd_set_ne (xs : List Int) (i j : Nat) (v : Int) (h : i ≠ j) : rd (xs.set i v) (j : Int) = rd xs (j : Int) := by
  rw [rd_nat, rd_nat, List.getD_eq_getElem?_getD, List.getD_eq_getElem?_getD, List.getElem?_set_ne h]
theorem rd_ext {a b : List Int} (hl : b.length = a.length) (h : ∀ i : Nat, i < a.length → rd b (i : Int) = rd a (i : Int)) : b = a := by
  refine List.ext_getElem hl fun i h1 h2 => ?_
  have := h i h2
  rw [rd_get _ _ h1, rd_get _ _ h2] at this
  exact this
/-- All are classes. -/
def Rng (l : List Int) : Prop := ∀ i : Nat, i < l.length → 0 ≤ rd l (i : Int) ∧ rd l (i : Int) ≤ 22
/-- Place by place. -/
def Step (P : Int → Int → Prop) (l r : List Int) : Prop := r.length = l.length ∧ ∀ i : Nat, i < l.length → P (rd l (i : Int)) (rd r (i : Int))
/-- Up tw a place. -/
def Part (P : Int → Int → Prop) (l r : List Int) (i : Nat) : Prop := r.length = l.length ∧ ∀ j : Nat, j < i → j < l.length → P (rd l (j : Int)) (rd r (j : Int))
def Rest (l r : List Int) (i : Nat) : Prop := ∀ j : Nat, i ≤ j → rd r (j : Int) = rd l (j : Int)
section
variable {P : Int → Int → Prop} {l r : List Int} {i : Nat}
theorem Part.zero (h : r.length = l.length) : Part P l r 0 := ⟨h, fun j h => by omega⟩
theorem Part.next (h : Part P l r i) (hi : i < l.length) {v : Int} (hv : P (rd l (i : Int)) v) : Part P l (r.set i v) (i + 1) := by
  have hl := h.1
  refine ⟨by rw [List.length_set]; exact hl, fun j hj hjl => ?_⟩
  by_cases e : i = j
  · subst e
    rw [rd_set_eq _ _ _ (by omega)]
    exact hv
  · rw [rd_set_ne _ _ _ _ e]
    exact h.2 j (by omega) hjl
theorem Part.keep (h : Part P l r i) (hv : P (rd l (i : Int)) (rd r (i : Int))) : Part P l r (i + 1) := by
  refine ⟨h.1, fun j hj hjl => ?_⟩
  by_cases e : i = j
  · subst e
    exact hv
  · exact h.2 j (by omega) hjl
theorem Part.done (h : Part P l r l.length) : Step P l r := ⟨h.1, fun j hj => h.2 j hj hj⟩
theorem Rest.next (h : Rest l r i) (v : Int) : Rest l (r.set i v) (i + 1) := fun j hj => by
  rw [rd_set_ne _ _ _ _ (by omega)]
  exact h j (by omega)
theorem Rest.more (h : Rest l r i) {i' : Nat} (hi : i ≤ i') : Rest l r i' := fun j hj => h j (by omega)
theorem Rest.refl : Rest l l i := fun _ _ => rfl
theorem Step.refl (hP : ∀ x, P x x) : Step P l l := ⟨rfl, fun _ _ => hP _⟩
theorem Step.set (h : Step P l r) (hi : i < l.length) {v : Int} (hv : P (rd l (i : Int)) v) : Step P l (r.set i v) := by
  have hl := h.1
  refine ⟨by rw [List.length_set]; exact hl, fun j hjl => ?_⟩
  by_cases e : i = j
  · subst e
    rw [rd_set_eq _ _ _ (by omega)]
    exact hv
  · rw [rd_set_ne _ _ _ _ e]
    exact h.2 j hjl
end
-- plain
def PlainP (a b : Int) : Prop := b = if noK a = true then 0 else a
theorem plain_loop (l : List Int) (hl : l.length < 8796093022208) (d : Nat) : ∀ (i : Nat) (cur : List Int), i + d = l.length → Part PlainP l cur i → ∃ r, Ev (fun k => weak_plain.l0 k cur l (l.length : Int) (i : Int)) r ∧ Step PlainP l r := by
  induction d with
  | zero =>
    intro i cur hi h
    obtain rfl : i = l.length := by omega
    refine ⟨cur, ev_one fun k => ?_, h.done⟩
    simp only [weak_plain.l0]
    rw [if_neg (by omega)]
  | succ d ih =>
    intro i cur hi h
    have hw : wrap64 ((i : Int) + 1) = ((i + 1 : Nat) : Int) := wrap_succ i (by omega)
    have hc := h.1
    have g1 : (i : Int) < (l.length : Int) := by omega
    have g2 : (0 : Int) ≤ (i : Int) := by omega
    have g3 : (i : Int) < (cur.length : Int) := by omega
    by_cases hn : noK (rd l (i : Int)) = true
    · obtain ⟨r, hr, hs⟩ := ih (i + 1) (cur.set i 0) (by omega) (h.next (by omega) (by unfold PlainP; rw [if_pos hn]))
      refine ⟨r, ev_step hr fun k hk => ?_, hs⟩
      simp only [weak_plain.l0]
      rw [if_pos g1, if_pos g2, if_pos g1, if_pos g3, Option.bind_some, word_f, Option.bind_some, if_pos ((word_no _).2 hn), Int.toNat_natCast, List.set_set, hw]
      exact hk
    · obtain ⟨r, hr, hs⟩ := ih (i + 1) (cur.set i (rd l (i : Int))) (by omega) (h.next (by omega) (by unfold PlainP; rw [if_neg hn]))
      refine ⟨r, ev_step hr fun k hk => ?_, hs⟩
      simp only [weak_plain.l0]
      rw [if_pos g1, if_pos g2, if_pos g1, if_pos g3, Option.bind_some, word_f, Option.bind_some, if_neg (fun e => hn ((word_no _).1 e)), Int.toNat_natCast, hw]
      exact hk
theorem plain_ev (l : List Int) (hl : l.length < 8796093022208) : ∃ r, Ev (fun k => weak_plain.f k l) r ∧ Step PlainP l r := by
  obtain ⟨r, hr, hs⟩ := plain_loop l hl l.length 0 (List.replicate l.length 0) (by omega) (Part.zero (by simp))
  refine ⟨r, ev_same hr fun k hk => ?_, hs⟩
  unfold weak_plain.f
  rw [if_pos (by omega), Int.toNat_natCast, if_pos (by omega)]
  exact hk
theorem PlainP.rng {a b : Int} (h : PlainP a b) : 0 ≤ b ∧ b ≤ 22 := by
  unfold PlainP at h
  split at h
  · omega
  · next hn =>
    unfold noK at hn
    have := of_decide_eq_false (Bool.eq_false_iff.2 hn)
    omega
theorem plain_rng {l r : List Int} (h : Step PlainP l r) : Rng r := fun i hi => (h.2 i (by rw [← h.1]; exact hi)).rng
theorem noK_in {a : Int} (h : 0 ≤ a ∧ a ≤ 22) : ¬ noK a = true := by
  unfold noK
  intro e
  have := of_decide_eq_true e
  omega
theorem plain_same {l r : List Int} (hl : Rng l) (h : Step PlainP l r) : r = l := rd_ext h.1 fun i hi => by
  have := h.2 i hi
  unfold PlainP at this
  rw [this, if_neg (noK_in (hl i hi))]
-- rule 1
theorem opens_ev (c : Int) : ∃ b, Ev (fun k => class_Opens.f k c) b := by
  obtain ⟨t, ht⟩ : ∃ b, class_set.f 20 ([19, 20, 21] : List Int) = some b := Option.isSome_iff_exists.1 (by decide +kernel)
  have h : ∃ b, class_Opens.f 20 c = some b := by
    unfold class_Opens.f
    rw [ht, Option.bind_some]
    unfold class_in.f
    by_cases h0 : c ≥ 0
    · rw [if_pos h0]
      by_cases h1 : c ≤ 22
      · rw [if_pos h1, if_pos h0]
        exact ⟨_, rfl⟩
      · rw [if_neg h1]
        exact ⟨_, rfl⟩
    · rw [if_neg h0]
      exact ⟨_, rfl⟩
  obtain ⟨b, hb⟩ := h
  exact ⟨b, 20, fun n hn => more (class_Opens.mono c) 20 n hn _ hb⟩
def MarkP (a b : Int) : Prop := (a ≠ 8 → b = a) ∧ b ≠ 8 ∧ 0 ≤ b ∧ b ≤ 22
theorem marks_loop (l : List Int) (hl : l.length < 8796093022208) (hr : Rng l) (d : Nat) : ∀ (i : Nat) (cur : List Int) (last : Int), i + d = l.length → Part MarkP l cur i → Rest l cur i → last ≠ 8 ∧ 0 ≤ last ∧ last ≤ 22 → ∃ r, Ev (fun k => weak_marks.l0 k cur last (l.length : Int) (i : Int)) r ∧ Step MarkP l r := by
  induction d with
  | zero =>
    intro i cur last hi h _ _
    obtain rfl : i = l.length := by omega
    refine ⟨cur, ev_one fun k => ?_, h.done⟩
    simp only [weak_marks.l0]
    rw [if_neg (by omega)]
  | succ d ih =>
    intro i cur last hi h hR hla
    have hw : wrap64 ((i : Int) + 1) = ((i + 1 : Nat) : Int) := wrap_succ i (by omega)
    have hc := h.1
    have g1 : (i : Int) < (l.length : Int) := by omega
    have g2 : (0 : Int) ≤ (i : Int) := by omega
    have g3 : (i : Int) < (cur.length : Int) := by omega
    have hci := hR i (Nat.le_refl i)
    have hrg := hr i (by omega)
    -- what goes on from a list and what stands there
    have go : ∀ (cu : List Int) (v : Int), rd cu (i : Int) = v → Part MarkP l cu (i + 1) → Rest l cu (i + 1) → v ≠ 8 ∧ 0 ≤ v ∧ v ≤ 22 → ∃ r, Ev (fun k => ((class_Opens.f k (rd cu (i : Int))).bind fun t119 => (if t119 = true then (weak_marks.l0 k cu 13 (l.length : Int) (wrap64 ((i : Int) + 1))) else (if (rd cu (i : Int)) = 22 then (weak_marks.l0 k cu 13 (l.length : Int) (wrap64 ((i : Int) + 1))) else (weak_marks.l0 k cu (rd cu (i : Int)) (l.length : Int) (wrap64 ((i : Int) + 1))))))) r ∧ Step MarkP l r := by
      intro cu v hv h1 h2 h3
      obtain ⟨b, hb⟩ := opens_ev v
      rw [hv, hw]
      by_cases e : b = true ∨ v = 22
      · obtain ⟨r, hr, hs⟩ := ih (i + 1) cu 13 (by omega) h1 h2 (by omega)
        refine ⟨r, ev_same2 hb hr fun k hk hk2 => ?_, hs⟩
        rw [hk, Option.bind_some]
        by_cases e1 : b = true
        · rw [if_pos e1]
          exact hk2
        · rw [if_neg e1, if_pos (e.resolve_left e1)]
          exact hk2
      · obtain ⟨r, hr, hs⟩ := ih (i + 1) cu v (by omega) h1 h2 h3
        refine ⟨r, ev_same2 hb hr fun k hk hk2 => ?_, hs⟩
        rw [hk, Option.bind_some, if_neg (fun x => e (.inl x)), if_neg (fun x => e (.inr x))]
        exact hk2
    by_cases h8 : rd l (i : Int) = 8
    · obtain ⟨r, hr, hs⟩ := go (cur.set i last) last (rd_set_eq _ _ _ (by omega)) (h.next (by omega) ⟨fun x => (x h8).elim, hla⟩) (hR.next _) hla
      refine ⟨r, ev_step hr fun k hk => ?_, hs⟩
      simp only [weak_marks.l0]
      rw [if_pos g1, if_pos g2, if_pos g3, hci, if_pos h8, Option.bind_some, Int.toNat_natCast]
      exact hk
    · have hv : rd l (i : Int) ≠ 8 ∧ 0 ≤ rd l (i : Int) ∧ rd l (i : Int) ≤ 22 := ⟨h8, hrg⟩
      obtain ⟨r, hr, hs⟩ := go cur _ hci (h.keep (by rw [hci]; exact ⟨fun _ => rfl, hv⟩)) (hR.more (by omega)) hv
      refine ⟨r, ev_step hr fun k hk => ?_, hs⟩
      simp only [weak_marks.l0]
      rw [if_pos g1, if_pos g2, if_pos g3, if_neg (by rw [hci]; exact h8)]
      exact hk
theorem marks_ev (l : List Int) (hl : l.length < 8796093022208) (hr : Rng l) (sos : Int) (hs : sos = 0 ∨ sos = 1) : ∃ r, Ev (fun k => weak_marks.f k l sos) r ∧ Step MarkP l r := by
  obtain ⟨r, hr, hs⟩ := marks_loop l hl hr l.length 0 l sos (by omega) (Part.zero rfl) Rest.refl (by omega)
  exact ⟨r, hr, hs⟩
-- rules 2 and 7
/-- The last strong one ahead of a place. -/
def lastM : List Int → Int → Nat → Int
  | [], last, _ => last
  | _ :: _, last, 0 => last
  | c :: l, last, i + 1 => lastM l (if stgK c = true then c else last) i
theorem rd_cons (c : Int) (l : List Int) (i : Nat) : rd (c :: l) ((i + 1 : Nat) : Int) = rd l (i : Int) := by
  rw [rd_nat, rd_nat]
  simp
theorem rd_head (c : Int) (l : List Int) : rd (c :: l) ((0 : Nat) : Int) = c := by
  rw [rd_nat]
  simp
theorem lastM_zero (l : List Int) (last : Int) : lastM l last 0 = last := by
  cases l with
  | nil => rfl
  | cons c l => rfl
theorem lastM_succ : ∀ (l : List Int) (last : Int) (i : Nat), i < l.length → lastM l last (i + 1) = if stgK (rd l (i : Int)) = true then rd l (i : Int) else lastM l last i := by
  intro l
  induction l with
  | nil => intro last i h; simp at h
  | cons c l ih =>
    intro last i h
    cases i with
    | zero =>
      rw [rd_head]
      show lastM l (if stgK c = true then c else last) 0 = _
      rw [lastM_zero]
      rfl
    | succ i =>
      rw [rd_cons]
      exact ih _ i (by simpa using h)
theorem becomeM_rd (frm tgt strong : Int) : ∀ (l : List Int) (last : Int) (i : Nat), i < l.length → rd (becomeM frm tgt strong last l) (i : Int) = if rd l (i : Int) = frm ∧ lastM l last i = strong then tgt else rd l (i : Int) := by
  intro l
  induction l with
  | nil => intro last i h; simp at h
  | cons c l ih =>
    intro last i h
    cases i with
    | zero =>
      simp only [becomeM]
      rw [rd_head, rd_head]
      rfl
    | succ i =>
      simp only [becomeM]
      rw [rd_cons, rd_cons]
      exact ih _ i (by simpa using h)
def BecP (frm tgt : Int) (a b : Int) : Prop := b = a ∨ a = frm ∧ b = tgt
theorem become_step (frm tgt strong last : Int) (l : List Int) : Step (BecP frm tgt) l (becomeM frm tgt strong last l) := by
  refine ⟨becomeM_len .., fun i hi => ?_⟩
  rw [becomeM_rd _ _ _ _ _ _ hi]
  split
  · next h => exact .inr ⟨h.1, rfl⟩
  · exact .inl rfl
theorem strongM_last (l : List Int) (sos : Int) (hr : Rng l) : ∀ i : Nat, i ≤ l.length → strongM l sos i = lastM l sos i := by
  intro i
  induction i with
  | zero => intro _; rw [lastM_zero]; rfl
  | succ i ih =>
    intro hi
    rw [lastM_succ l sos i (by omega)]
    simp only [strongM]
    rw [if_neg (noK_in (hr i (by omega))), ih (by omega)]
/-- Where EN behind L becomes L, what is strong ahead of a place stays. -/
theorem last_become (sos : Int) (l : List Int) : ∀ i : Nat, i ≤ l.length → lastM (becomeM 3 0 0 sos l) sos i = lastM l sos i := by
  intro i
  induction i with
  | zero => intro _; rw [lastM_zero, lastM_zero]
  | succ i ih =>
    intro hi
    have ih := ih (by omega)
    rw [lastM_succ _ _ i (by rw [becomeM_len]; omega), lastM_succ _ _ i (by omega), becomeM_rd _ _ _ _ _ _ (by omega), ih]
    have s0 : stgK 0 = true := (stg_iff 0).2 (.inl rfl)
    have s3 : ¬ stgK 3 = true := fun h => by have := (stg_iff 3).1 h; omega
    by_cases h : rd l (i : Int) = 3 ∧ lastM l sos i = 0
    · rw [if_pos h, if_pos s0, h.1, if_neg s3, h.2]
    · rw [if_neg h]
-- rules 3 and 6
def SwapP (tw : Int) (frm : List Int) (a b : Int) : Prop := b = if a ∈ frm then tw else a
theorem swap_inner (frm : List Int) (tw : Int) (hf : frm.length < 1000) (len : Int) (i : Nat) (c : Int) (r : List Int) (d : Nat) : ∀ (j : Nat) (cur : List Int), j + d = frm.length → i < cur.length →
    Ev (fun k => weak_swap.l0 k (if c ∈ frm.drop j then cur.set i tw else cur) tw frm len (wrap64 ((i : Int) + 1))) r → Ev (fun k => weak_swap.l1 k cur tw frm (i : Int) c len (i : Int) frm (frm.length : Int) (j : Int)) r := by
  induction d with
  | zero =>
    intro j cur hj hi H
    refine ev_step H fun k hk => ?_
    simp only [weak_swap.l1]
    rw [if_neg (by omega)]
    rw [List.drop_eq_nil_of_le (by omega), if_neg (by simp)] at hk
    exact hk
  | succ d ih =>
    intro j cur hj hi H
    have hw : wrap64 ((j : Int) + 1) = ((j + 1 : Nat) : Int) := wrap_succ j (by omega)
    have g1 : (j : Int) < (frm.length : Int) := by omega
    have g2 : (0 : Int) ≤ (j : Int) := by omega
    have g3 : (i : Int) < (cur.length : Int) := by omega
    have g4 : (0 : Int) ≤ (i : Int) := by omega
    rw [drop_cons frm j (by omega)] at H
    by_cases e : c = rd frm (j : Int)
    · have := ih (j + 1) (cur.set i tw) (by omega) (by simpa using hi) (by
        rw [if_pos (by rw [e]; simp)] at H
        rw [List.set_set, ite_self]
        exact H)
      refine ev_step this fun k hk => ?_
      simp only [weak_swap.l1]
      rw [if_pos g1, if_pos g2, if_pos g1, if_pos e, if_pos g4, if_pos g3, hw, Int.toNat_natCast]
      exact hk
    · have := ih (j + 1) cur (by omega) hi (by
        have e2 : (c ∈ rd frm (j : Int) :: frm.drop (j + 1)) = (c ∈ frm.drop (j + 1)) := by simp [e]
        simp only [e2] at H
        exact H)
      refine ev_step this fun k hk => ?_
      simp only [weak_swap.l1]
      rw [if_pos g1, if_pos g2, if_pos g1, if_neg e, hw]
      exact hk
theorem swap_loop (l : List Int) (hl : l.length < 8796093022208) (frm : List Int) (tw : Int) (hf : frm.length < 1000) (d : Nat) : ∀ (i : Nat) (cur : List Int), i + d = l.length → Part (SwapP tw frm) l cur i → Rest l cur i → ∃ r, Ev (fun k => weak_swap.l0 k cur tw frm (l.length : Int) (i : Int)) r ∧ Step (SwapP tw frm) l r := by
  induction d with
  | zero =>
    intro i cur hi h _
    obtain rfl : i = l.length := by omega
    refine ⟨cur, ev_one fun k => ?_, h.done⟩
    simp only [weak_swap.l0]
    rw [if_neg (by omega)]
  | succ d ih =>
    intro i cur hi h hR
    have hw : wrap64 ((i : Int) + 1) = ((i + 1 : Nat) : Int) := wrap_succ i (by omega)
    have hc := h.1
    have g1 : (i : Int) < (l.length : Int) := by omega
    have g2 : (0 : Int) ≤ (i : Int) := by omega
    have g3 : (i : Int) < (cur.length : Int) := by omega
    have hci := hR i (Nat.le_refl i)
    have fin : ∃ r, Ev (fun k => weak_swap.l0 k (if rd l (i : Int) ∈ frm.drop 0 then cur.set i tw else cur) tw frm (l.length : Int) (wrap64 ((i : Int) + 1))) r ∧ Step (SwapP tw frm) l r := by
      rw [hw, List.drop_zero]
      by_cases e : rd l (i : Int) ∈ frm
      · rw [if_pos e]
        exact ih (i + 1) _ (by omega) (h.next (by omega) (by unfold SwapP; rw [if_pos e])) (hR.next _)
      · rw [if_neg e]
        exact ih (i + 1) _ (by omega) (h.keep (by unfold SwapP; rw [if_neg e]; exact hci)) (hR.more (by omega))
    obtain ⟨r, hr, hs⟩ := fin
    have h1 := swap_inner frm tw hf (l.length : Int) i (rd l (i : Int)) r frm.length 0 cur (by omega) (by omega) hr
    refine ⟨r, ev_step h1 fun k hk => ?_, hs⟩
    simp only [weak_swap.l0]
    rw [if_pos g1, if_pos g2, if_pos g3, hci]
    exact hk
theorem swap_ev (l : List Int) (hl : l.length < 8796093022208) (frm : List Int) (tw : Int) (hf : frm.length < 1000) : ∃ r, Ev (fun k => weak_swap.f k l tw frm) r ∧ Step (SwapP tw frm) l r := by
  obtain ⟨r, hr, hs⟩ := swap_loop l hl frm tw hf l.length 0 l (by omega) (Part.zero rfl) Rest.refl
  exact ⟨r, hr, hs⟩
-- rule 4
def PartP (a b : Int) : Prop := b = a ∨ (a = 4 ∨ a = 7) ∧ (b = 3 ∨ b = 6)
theorem parts_loop (l : List Int) (hl : l.length < 8796093022208) (d : Nat) : ∀ (i : Nat) (cur : List Int), l.length ≤ i + d → 1 ≤ i → i ≤ l.length + 1 → Step PartP l cur → Rest l cur i → ∃ r, Ev (fun k => weak_parts.l0 k cur (i : Int)) r ∧ Step PartP l r := by
  induction d with
  | zero =>
    intro i cur hi h1 h2 h _
    have hw : wrap64 ((i : Int) + 1) = ((i + 1 : Nat) : Int) := wrap_succ i (by omega)
    have hc := h.1
    refine ⟨cur, ev_one fun k => ?_, h⟩
    simp only [weak_parts.l0]
    rw [hw, if_neg (by omega)]
  | succ d ih =>
    intro i cur hi h1 h2 h hR
    have hw : wrap64 ((i : Int) + 1) = ((i + 1 : Nat) : Int) := wrap_succ i (by omega)
    have hw2 : wrap64 ((i : Int) - 1) = ((i - 1 : Nat) : Int) := by
      rw [wrap_id (by omega) (by omega)]
      omega
    have hc := h.1
    by_cases hlast : i + 1 < l.length
    · have g0 : ((i + 1 : Nat) : Int) < (cur.length : Int) := by omega
      have g1 : (0 : Int) ≤ ((i - 1 : Nat) : Int) := by omega
      have g2 : ((i - 1 : Nat) : Int) < (cur.length : Int) := by omega
      have g3 : (0 : Int) ≤ (i : Int) := by omega
      have g4 : (i : Int) < (cur.length : Int) := by omega
      have g5 : (0 : Int) ≤ ((i + 1 : Nat) : Int) := by omega
      have hci := hR i (Nat.le_refl i)
      obtain ⟨r1, hr1, hs1⟩ := ih (i + 1) cur (by omega) (by omega) (by omega) h (hR.more (by omega))
      by_cases q : rd cur ((i - 1 : Nat) : Int) = rd cur ((i + 1 : Nat) : Int) ∧ (rd cur ((i - 1 : Nat) : Int) = 3 ∧ (rd cur (i : Int) = 4 ∨ rd cur (i : Int) = 7) ∨ rd cur ((i - 1 : Nat) : Int) = 6 ∧ rd cur (i : Int) = 7)
      · have hv : PartP (rd l (i : Int)) (rd cur ((i - 1 : Nat) : Int)) := by
          rw [← hci]
          unfold PartP
          omega
        obtain ⟨r, hr, hs⟩ := ih (i + 1) (cur.set i (rd cur ((i - 1 : Nat) : Int))) (by omega) (by omega) (by omega) (h.set (by omega) hv) (hR.next _)
        refine ⟨r, ev_step hr fun k hk => ?_, hs⟩
        simp only [weak_parts.l0]
        rw [hw, hw2, if_pos g0, if_pos g1, if_pos g2, if_pos g3, if_pos g4, if_pos g5, if_pos q.1, Int.toNat_natCast]
        by_cases a3 : rd cur ((i - 1 : Nat) : Int) = 3
        · rw [if_pos a3]
          by_cases a4 : rd cur (i : Int) = 4
          · rw [if_pos a4]
            exact hk
          · rw [if_neg a4, if_pos (by omega)]
            exact hk
        · rw [if_neg a3, if_pos (by omega), if_pos (by omega)]
          exact hk
      · refine ⟨r1, ev_step hr1 fun k hk => ?_, hs1⟩
        simp only [weak_parts.l0]
        rw [hw, hw2, if_pos g0, if_pos g1, if_pos g2, if_pos g3, if_pos g4, if_pos g5]
        by_cases ab : rd cur ((i - 1 : Nat) : Int) = rd cur ((i + 1 : Nat) : Int)
        · rw [if_pos ab]
          by_cases a3 : rd cur ((i - 1 : Nat) : Int) = 3
          · rw [if_pos a3, if_neg (by omega), if_neg (by omega), if_neg (by omega)]
            exact hk
          · rw [if_neg a3]
            by_cases a6 : rd cur ((i - 1 : Nat) : Int) = 6
            · rw [if_pos a6, if_neg (by omega)]
              exact hk
            · rw [if_neg a6]
              exact hk
        · rw [if_neg ab]
          exact hk
    · refine ⟨cur, ev_one fun k => ?_, h⟩
      simp only [weak_parts.l0]
      rw [hw, if_neg (by omega)]
theorem parts_ev (l : List Int) (hl : l.length < 8796093022208) : ∃ r, Ev (fun k => weak_parts.f k l) r ∧ Step PartP l r := by
  obtain ⟨r, hr, hs⟩ := parts_loop l hl l.length 1 l (by omega) (by omega) (by omega) (Step.refl fun _ => .inl rfl) Rest.refl
  exact ⟨r, hr, hs⟩
-- rule 5
abbrev EndP := BecP 5 3
theorem ends_l2 (l : List Int) (hl : l.length < 8796093022208) (tw : Nat) (hto : tw ≤ l.length) (H : ∀ cur : List Int, Step EndP l cur → Rest l cur tw → ∃ r, Ev (fun k => weak_ends.l0 k cur (tw : Int)) r ∧ Step EndP l r) (d : Nat) : ∀ (i : Nat) (cur : List Int), i + d = tw → Step EndP l cur → Rest l cur i → (∀ j, i ≤ j → j < tw → rd l ((j : Nat) : Int) = 5) → ∃ r, Ev (fun k => weak_ends.l2 k cur (i : Int) (tw : Int) true) r ∧ Step EndP l r := by
  induction d with
  | zero =>
    intro i cur hi h hR _
    obtain rfl : i = tw := by omega
    obtain ⟨r, hr, hs⟩ := H cur h hR
    refine ⟨r, ev_step hr fun k hk => ?_, hs⟩
    simp only [weak_ends.l2]
    rw [if_neg (by omega)]
    exact hk
  | succ d ih =>
    intro i cur hi h hR h5
    have hw : wrap64 ((i : Int) + 1) = ((i + 1 : Nat) : Int) := wrap_succ i (by omega)
    have hc := h.1
    have g1 : (i : Int) < (tw : Int) := by omega
    have g2 : (0 : Int) ≤ (i : Int) := by omega
    have g3 : (i : Int) < (cur.length : Int) := by omega
    obtain ⟨r, hr, hs⟩ := ih (i + 1) (cur.set i 3) (by omega) (h.set (by omega) (.inr ⟨h5 i (by omega) (by omega), rfl⟩)) (hR.next _) (fun j h1 h2 => h5 j (by omega) h2)
    refine ⟨r, ev_step hr fun k hk => ?_, hs⟩
    simp only [weak_ends.l2]
    rw [if_pos g1, if_pos trivial, if_pos g2, if_pos g3, hw, Int.toNat_natCast]
    exact hk
theorem ends_l2f (l cur : List Int) (i tw : Nat) (h : i < tw) {r : List Int} (H : Ev (fun k => weak_ends.l0 k cur (tw : Int)) r) : Ev (fun k => weak_ends.l2 k cur (i : Int) (tw : Int) false) r := by
  refine ev_step H fun k hk => ?_
  simp only [weak_ends.l2]
  rw [if_pos (by omega), if_neg (by simp)]
  exact hk
theorem ends_j2 (cur : List Int) (hl : cur.length < 8796093022208) (i tw : Nat) (hi : i ≤ cur.length) (Q : List Int → Prop) (H : ∀ b, ∃ r, Ev (fun k => weak_ends.l2 k cur (i : Int) (tw : Int) b) r ∧ Q r) : ∃ r, Ev (fun k => weak_ends.j2 k cur (i : Int) (tw : Int)) r ∧ Q r := by
  have H3 : ∀ b, ∃ r, Ev (fun k => weak_ends.j3 k cur (i : Int) (tw : Int) b) r ∧ Q r := fun b => by
    obtain ⟨r, hr, hq⟩ := H b
    exact ⟨r, ev_step hr fun k hk => by simp only [weak_ends.j3]; exact hk, hq⟩
  have H4 : ∃ r, Ev (fun k => (if (tw : Int) < (cur.length : Int) then (if (0 : Int) ≤ (tw : Int) then (weak_ends.j3 k cur (i : Int) (tw : Int) ((rd cur (tw : Int)) == 3)) else (none)) else (weak_ends.j3 k cur (i : Int) (tw : Int) false))) r ∧ Q r := by
    by_cases h : (tw : Int) < (cur.length : Int)
    · obtain ⟨r, hr, hq⟩ := H3 ((rd cur (tw : Int)) == 3)
      exact ⟨r, ev_same hr fun k hk => by rw [if_pos h, if_pos (by omega)]; exact hk, hq⟩
    · obtain ⟨r, hr, hq⟩ := H3 false
      exact ⟨r, ev_same hr fun k hk => by rw [if_neg h]; exact hk, hq⟩
  by_cases h0 : (i : Int) > 0
  · have hw2 : wrap64 ((i : Int) - 1) = (i : Int) - 1 := wrap_id (by omega) (by omega)
    by_cases h3 : rd cur ((i : Int) - 1) = 3
    · obtain ⟨r, hr, hq⟩ := H3 true
      refine ⟨r, ev_step hr fun k hk => ?_, hq⟩
      simp only [weak_ends.j2]
      rw [if_pos h0, hw2, if_pos (by omega), if_pos (by omega), if_pos h3]
      exact hk
    · obtain ⟨r, hr, hq⟩ := H4
      refine ⟨r, ev_step hr fun k hk => ?_, hq⟩
      simp only [weak_ends.j2]
      rw [if_pos h0, hw2, if_pos (by omega), if_pos (by omega), if_neg h3]
      exact hk
  · obtain ⟨r, hr, hq⟩ := H4
    refine ⟨r, ev_step hr fun k hk => ?_, hq⟩
    simp only [weak_ends.j2]
    rw [if_neg h0]
    exact hk
theorem ends_l1 (l cur : List Int) (hl : l.length < 8796093022208) (i : Nat) (hi : i < l.length) (h : Step EndP l cur) (hR : Rest l cur i) (h5 : rd l (i : Int) = 5)
    (H : ∀ (tw : Nat) (cu : List Int), i < tw → tw ≤ l.length → Step EndP l cu → Rest l cu tw → ∃ r, Ev (fun k => weak_ends.l0 k cu (tw : Int)) r ∧ Step EndP l r) (d : Nat) :
    ∀ tw : Nat, i ≤ tw → tw + d = l.length → (∀ j, i ≤ j → j < tw → rd l ((j : Nat) : Int) = 5) → ∃ r, Ev (fun k => weak_ends.l1 k cur (i : Int) (tw : Int)) r ∧ Step EndP l r := by
  have hc := h.1
  have fin : ∀ tw : Nat, i < tw → tw ≤ l.length → (∀ j, i ≤ j → j < tw → rd l ((j : Nat) : Int) = 5) → ∃ r, Ev (fun k => weak_ends.j2 k cur (i : Int) (tw : Int)) r ∧ Step EndP l r := by
    intro tw h1 h2 h3
    refine ends_j2 cur (by omega) i tw (by omega) (Step EndP l) fun b => ?_
    cases b with
    | true => exact ends_l2 l hl tw h2 (fun cu q1 q2 => H tw cu h1 h2 q1 q2) (tw - i) i cur (by omega) h hR h3
    | false =>
      obtain ⟨r, hr, hs⟩ := H tw cur h1 h2 h (hR.more (by omega))
      exact ⟨r, ends_l2f l cur i tw h1 hr, hs⟩
  induction d with
  | zero =>
    intro tw h1 h2 h3
    obtain ⟨r, hr, hs⟩ := fin tw (by omega) (by omega) h3
    refine ⟨r, ev_step hr fun k hk => ?_, hs⟩
    simp only [weak_ends.l1]
    rw [if_neg (by omega)]
    exact hk
  | succ d ih =>
    intro tw h1 h2 h3
    have hw : wrap64 ((tw : Int) + 1) = ((tw + 1 : Nat) : Int) := wrap_succ tw (by omega)
    have hct := hR tw h1
    by_cases e : rd l (tw : Int) = 5
    · obtain ⟨r, hr, hs⟩ := ih (tw + 1) (by omega) (by omega) (fun j q1 q2 => by
        by_cases q : j = tw
        · rw [q]; exact e
        · exact h3 j q1 (by omega))
      refine ⟨r, ev_step hr fun k hk => ?_, hs⟩
      simp only [weak_ends.l1]
      rw [if_pos (by omega), if_pos (by omega), if_pos (by rw [hct]; exact e), hw]
      exact hk
    · have : i ≠ tw := fun q => e (by rw [← q]; exact h5)
      obtain ⟨r, hr, hs⟩ := fin tw (by omega) (by omega) h3
      refine ⟨r, ev_step hr fun k hk => ?_, hs⟩
      simp only [weak_ends.l1]
      rw [if_pos (by omega), if_pos (by omega), if_neg (by rw [hct]; exact e)]
      exact hk
theorem ends_loop (l : List Int) (hl : l.length < 8796093022208) (d : Nat) : ∀ (i : Nat) (cur : List Int), l.length ≤ i + d → i ≤ l.length → Step EndP l cur → Rest l cur i → ∃ r, Ev (fun k => weak_ends.l0 k cur (i : Int)) r ∧ Step EndP l r := by
  induction d with
  | zero =>
    intro i cur hi _ h _
    have hc := h.1
    refine ⟨cur, ev_one fun k => ?_, h⟩
    simp only [weak_ends.l0]
    rw [if_neg (by omega)]
  | succ d ih =>
    intro i cur hi hil h hR
    have hc := h.1
    by_cases hlt : i < l.length
    · have hw : wrap64 ((i : Int) + 1) = ((i + 1 : Nat) : Int) := wrap_succ i (by omega)
      have hci := hR i (Nat.le_refl i)
      by_cases e : rd l (i : Int) = 5
      · obtain ⟨r, hr, hs⟩ := ends_l1 l cur hl i hlt h hR e (fun tw cu q1 q2 q3 q4 => ih tw cu (by omega) q2 q3 q4) (l.length - i) i (Nat.le_refl _) (by omega) (fun j q1 q2 => by omega)
        refine ⟨r, ev_step hr fun k hk => ?_, hs⟩
        simp only [weak_ends.l0]
        rw [if_pos (by omega), if_pos (by omega), if_pos (by rw [hci]; exact e)]
        exact hk
      · obtain ⟨r, hr, hs⟩ := ih (i + 1) cur (by omega) (by omega) h (hR.more (by omega))
        refine ⟨r, ev_step hr fun k hk => ?_, hs⟩
        simp only [weak_ends.l0]
        rw [if_pos (by omega), if_pos (by omega), if_neg (by rw [hci]; exact e), hw]
        exact hk
    · refine ⟨cur, ev_one fun k => ?_, h⟩
      simp only [weak_ends.l0]
      rw [if_neg (by omega)]
theorem ends_ev (l : List Int) (hl : l.length < 8796093022208) : ∃ r, Ev (fun k => weak_ends.f k l) r ∧ Step EndP l r := by
  obtain ⟨r, hr, hs⟩ := ends_loop l hl l.length 0 l (by omega) (by omega) (Step.refl fun _ => .inl rfl) Rest.refl
  exact ⟨r, hr, hs⟩
-- all rules
def relN : Nat → Int → Int → Prop
  | 1 => MarkP
  | 2 => BecP 3 6
  | 3 => SwapP 1 [2]
  | 4 => PartP
  | 5 => EndP
  | 6 => SwapP 13 [4, 5, 7]
  | _ => BecP 3 0
theorem relN_rng (n : Nat) {a b : Int} (ha : 0 ≤ a ∧ a ≤ 22) (h : relN n a b) : 0 ≤ b ∧ b ≤ 22 := by
  match n, h with
  | 1, h => exact h.2.2
  | 2, h => rcases h with h | h <;> omega
  | 3, h =>
    have : b = if a ∈ ([2] : List Int) then 1 else a := h
    split at this <;> omega
  | 4, h =>
    have : b = a ∨ (a = 4 ∨ a = 7) ∧ (b = 3 ∨ b = 6) := h
    omega
  | 5, h => rcases h with h | h <;> omega
  | 6, h =>
    have : b = if a ∈ ([4, 5, 7] : List Int) then 13 else a := h
    split at this <;> omega
  | 0, h => rcases h with h | h <;> omega
  | n + 7, h => rcases h with h | h <;> omega
theorem step_rng {n : Nat} {l r : List Int} (hl : Rng l) (h : Step (relN n) l r) : Rng r := fun i hi => relN_rng n (hl i (by rw [← h.1]; exact hi)) (h.2 i (by rw [← h.1]; exact hi))
def sideM (sos : Int) : Int := if sos = 1 then sos else 0
theorem sideM_or (sos : Int) : sideM sos = 0 ∨ sideM sos = 1 := by
  unfold sideM
  split
  · next h => exact .inr h
  · exact .inl rfl
theorem side_f2 (sos : Int) : weak_side.f sos = some (sideM sos) := by
  unfold weak_side.f sideM
  split <;> rfl
theorem apply_ev (n : Nat) (hn : 1 ≤ n ∧ n ≤ 7) (l : List Int) (hl : l.length < 8796093022208) (hr : Rng l) (sos : Int) (hs : sos = 0 ∨ sos = 1) : ∃ r, Ev (fun k => weak_apply.f k l sos (n : Int)) r ∧ Step (relN n) l r ∧ (n = 7 → r = becomeM 3 0 0 sos l) := by
  have e : n = 1 ∨ n = 2 ∨ n = 3 ∨ n = 4 ∨ n = 5 ∨ n = 6 ∨ n = 7 := by omega
  have hb : l.length < 17592186044416 := by omega
  rcases e with rfl | rfl | rfl | rfl | rfl | rfl | rfl
  · obtain ⟨r, h, s⟩ := marks_ev l hl hr sos hs
    refine ⟨r, ev_same h fun k hk => ?_, s, by omega⟩
    unfold weak_apply.f
    rw [if_pos (by omega), hk]
    rfl
  · refine ⟨_, ev_now fun k => ?_, become_step 3 6 2 sos l, by omega⟩
    unfold weak_apply.f weak_become.f
    rw [if_neg (by omega), if_pos (by omega), if_pos hb]
    rfl
  · obtain ⟨r, h, s⟩ := swap_ev l hl [2] 1 (by decide)
    refine ⟨r, ev_same h fun k hk => ?_, s, by omega⟩
    unfold weak_apply.f
    rw [if_neg (by omega), if_neg (by omega), if_pos (by omega), hk]
    rfl
  · obtain ⟨r, h, s⟩ := parts_ev l hl
    refine ⟨r, ev_same h fun k hk => ?_, s, by omega⟩
    unfold weak_apply.f
    rw [if_neg (by omega), if_neg (by omega), if_neg (by omega), if_pos (by omega), hk]
    rfl
  · obtain ⟨r, h, s⟩ := ends_ev l hl
    refine ⟨r, ev_same h fun k hk => ?_, s, by omega⟩
    unfold weak_apply.f
    rw [if_neg (by omega), if_neg (by omega), if_neg (by omega), if_neg (by omega), if_pos (by omega), hk]
    rfl
  · obtain ⟨r, h, s⟩ := swap_ev l hl [4, 5, 7] 13 (by decide)
    refine ⟨r, ev_same h fun k hk => ?_, s, by omega⟩
    unfold weak_apply.f
    rw [if_neg (by omega), if_neg (by omega), if_neg (by omega), if_neg (by omega), if_neg (by omega), if_pos (by omega), hk]
    rfl
  · refine ⟨_, ev_now fun k => ?_, become_step 3 0 0 sos l, fun _ => rfl⟩
    unfold weak_apply.f weak_become.f
    rw [if_neg (by omega), if_neg (by omega), if_neg (by omega), if_neg (by omega), if_neg (by omega), if_neg (by omega), if_pos (by omega), if_pos hb]
    rfl
/-- All rules, one behind the other, from one on. -/
def Chain (sos : Int) : Nat → Nat → List Int → List Int → Prop
  | _, 0, l, r => r = l
  | n, d + 1, l, r => ∃ m, Ev (fun k => weak_apply.f k l (sideM sos) (n : Int)) m ∧ Step (relN n) l m ∧ (n = 7 → m = becomeM 3 0 0 (sideM sos) l) ∧ Chain sos (n + 1) d m r
theorem chain_ev (sos : Int) (d : Nat) : ∀ (n : Nat) (l : List Int), 1 ≤ n → n + d = 8 → l.length < 8796093022208 → Rng l → ∃ r, Chain sos n d l r ∧ Ev (fun k => weak_Of.l0 k sos l (((n : Nat) : Int) - 1)) r := by
  induction d with
  | zero =>
    intro n l h1 h2 _ _
    refine ⟨l, rfl, ev_one fun k => ?_⟩
    simp only [weak_Of.l0]
    rw [if_neg (by omega)]
  | succ d ih =>
    intro n l h1 h2 hl hr
    obtain ⟨m, e, s, b⟩ := apply_ev n (by omega) l hl hr (sideM sos) (sideM_or sos)
    obtain ⟨r, hc, he⟩ := ih (n + 1) m (by omega) (by omega) (by rw [s.1]; exact hl) (step_rng hr s)
    have hw : wrap64 ((n : Int) - 1 + 1) = (n : Int) := by
      rw [wrap_id (by omega) (by omega)]
      omega
    have hw2 : ((n + 1 : Nat) : Int) - 1 = (n : Int) := by omega
    rw [hw2] at he
    refine ⟨r, ⟨m, e, s, b, hc⟩, ev_step2 e he fun k hk hk2 => ?_⟩
    simp only [weak_Of.l0]
    rw [if_pos (by omega), side_f2, Option.bind_some, hw, hk, Option.bind_some]
    exact hk2
theorem of_ev (l : List Int) (hl : l.length < 8796093022208) (sos : Int) : ∃ p r, Ev (fun k => weak_plain.f k l) p ∧ Step PlainP l p ∧ Chain sos 1 7 p r ∧ Ev (fun k => weak_Of.f k l sos) r := by
  obtain ⟨p, hp, sp⟩ := plain_ev l hl
  obtain ⟨r, hc, he⟩ := chain_ev sos 7 1 p (by omega) (by omega) (by rw [sp.1]; exact hl) (plain_rng sp)
  refine ⟨p, r, hp, sp, hc, ev_same2 hp he fun k hk hk2 => ?_⟩
  unfold weak_Of.f
  rw [hk, Option.bind_some]
  exact hk2
end Go.Proofs.YtgoebfeojkgimaaDoor.P
