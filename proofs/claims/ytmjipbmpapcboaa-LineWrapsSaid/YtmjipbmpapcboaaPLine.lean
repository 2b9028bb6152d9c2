/- Proved: what the functions of line, and the document's answers for them, tell of breaks and of widths; conditions: a list shorter than 2^43, numbers of 64 bits. -/
import Derived.Test.YtmjipbmpapcboaaPEv
import Derived.Test.YtmjipbmpapcboaaSLineOf
import Derived.Test.YtmjipbmpapcboaaPx2
import Derived.Test.YtmjipbmpapcboaaPx3
import Derived.Test.YtmjipbmpapcboaaPx7
import Derived.Test.YtmjipbmpapcboaaPx6
namespace Go.Proofs.Ytmjipbmpapcboaa.P
open Go.RowKit Go.Proofs.YtmjipbmpapcboaaW.PrintWords Go.Proofs.YtmjipbmpapcboaaW.PrintLast Go.Proofs.YtmjipbmpapcboaaW.PrintMore
set_option linter.unusedVariables false
set_option linter.unusedSimpArgs false

abbrev Sp := S29
theorem rdS (l : List Sp) (i : Nat) (h : i < l.length) : rd_T29 l (i : Int) = l[i] := by
  unfold rd_T29
  rw [Int.toNat_natCast, List.getD_eq_getElem?_getD, List.getElem?_eq_getElem h, Option.getD_some]
/-- Do breaks rise to the end? -/
def validB : Int → List Int → Int → Bool
  | from_, [], n => from_ == n
  | from_, b :: l, n => decide (from_ < b) && validB b l n
/-- The lines of breaks. -/
def spansB : Int → List Int → List Sp
  | _, [] => []
  | from_, b :: l => ⟨from_, b⟩ :: spansB b l
def linesM (l : List Int) (n : Int) : List Sp × Int := if validB 0 l n = true then (spansB 0 l, 0) else ([], 3)
theorem spansB_len : ∀ (l : List Int) (f : Int), (spansB f l).length = l.length
  | [], _ => rfl
  | b :: l, f => by simp [spansB, spansB_len l b]
theorem lines_loop (l : List Int) (n : Int) (hl : l.length < 8796093022208) (d : Nat) : ∀ (i : Nat) (acc : List Sp) (f : Int), i ≤ l.length → l.length - i = d → acc.length = i →
    Ev (fun k => line_Lines.l0 k n acc f l (l.length : Int) (i : Int)) (if validB f (l.drop i) n = true then (acc ++ spansB f (l.drop i), 0) else ([], 3)) := by
  induction d with
  | zero =>
    intro i acc f hi hd ha
    refine ev_one fun k => ?_
    simp only [line_Lines.l0]
    rw [if_neg (by omega), List.drop_eq_nil_of_le (by omega)]
    by_cases h : f = n
    · rw [if_pos h, if_pos (by simpa [validB] using h)]
      simp [spansB]
    · rw [if_neg h, if_neg (by simpa [validB] using h)]
  | succ d ih =>
    intro i acc f hi hd ha
    rw [drop_cons l i (by omega)]
    by_cases h : rd l (i : Int) ≤ f
    · rw [if_neg (by simp [validB]; omega)]
      refine ev_one fun k => ?_
      simp only [line_Lines.l0]
      rw [if_pos (by omega), if_pos (by omega), if_pos (by omega), if_pos h]
    · have e : (if validB f (rd l (i : Int) :: l.drop (i + 1)) n = true then (acc ++ spansB f (rd l (i : Int) :: l.drop (i + 1)), (0 : Int)) else ([], 3)) = (if validB (rd l (i : Int)) (l.drop (i + 1)) n = true then ((acc ++ [⟨f, rd l (i : Int)⟩]) ++ spansB (rd l (i : Int)) (l.drop (i + 1)), 0) else ([], 3)) := by
        have hv : validB f (rd l (i : Int) :: l.drop (i + 1)) n = validB (rd l (i : Int)) (l.drop (i + 1)) n := by
          simp only [validB]
          rw [decide_eq_true (by omega), Bool.true_and]
        rw [hv]
        simp [spansB]
      rw [e]
      refine ev_step (ih (i + 1) (acc ++ [⟨f, rd l (i : Int)⟩]) (rd l (i : Int)) (by omega) (by omega) (by simp [ha])) fun k hk => ?_
      simp only [line_Lines.l0]
      rw [if_pos (by omega), if_pos (by omega), if_pos (by omega), if_neg h, if_pos (by omega), wrap_succ i (by omega)]
      exact hk
theorem lines_ev (l : List Int) (n : Int) (hl : l.length < 8796093022208) : Ev (fun k => line_Lines.f k l n) (linesM l n) := by
  have h := lines_loop l n hl l.length 0 [] 0 (by omega) (by omega) rfl
  simp only [List.drop_zero, List.nil_append] at h
  exact h
theorem right_ev (l : List Int) (n : Int) (hl : l.length < 8796093022208) : Ev (fun k => line_Right.f k l n) (validB 0 l n) := by
  refine ev_same (lines_ev l n hl) fun k hk => ?_
  unfold line_Right.f
  rw [hk, Option.bind_some]
  unfold linesM
  cases validB 0 l n <;> rfl
theorem rright_loop (l : List Int) (n : Int) (hl : l.length < 8796093022208) (d : Nat) : ∀ (i : Nat) (f : Int), i ≤ l.length → l.length - i = d → Ev (fun k => ductusref13_Right.l0 k l n f (i : Int)) (validB f (l.drop i) n) := by
  induction d with
  | zero =>
    intro i f hi hd
    refine ev_one fun k => ?_
    simp only [ductusref13_Right.l0]
    rw [if_neg (by omega), List.drop_eq_nil_of_le (by omega)]
    rfl
  | succ d ih =>
    intro i f hi hd
    rw [drop_cons l i (by omega)]
    by_cases h : rd l (i : Int) ≤ f
    · have e : validB f (rd l (i : Int) :: l.drop (i + 1)) n = false := by simp [validB]; omega
      rw [e]
      refine ev_one fun k => ?_
      simp only [ductusref13_Right.l0]
      rw [if_pos (by omega), if_pos (by omega), if_pos h]
    · have e : validB f (rd l (i : Int) :: l.drop (i + 1)) n = validB (rd l (i : Int)) (l.drop (i + 1)) n := by
        simp only [validB]
        rw [decide_eq_true (by omega), Bool.true_and]
      rw [e]
      refine ev_step (ih (i + 1) (rd l (i : Int)) (by omega) (by omega)) fun k hk => ?_
      simp only [ductusref13_Right.l0]
      rw [if_pos (by omega), if_pos (by omega), if_neg h, wrap_succ i (by omega)]
      exact hk
theorem rright_ev (l : List Int) (n : Int) (hl : l.length < 8796093022208) : Ev (fun k => ductusref13_Right.f k l n) (validB 0 l n) := by
  have h := rright_loop l n hl l.length 0 0 (by omega) (by omega)
  simp only [List.drop_zero] at h
  exact h
theorem rlines_loop (l : List Int) (hl : l.length < 8796093022208) (d : Nat) : ∀ (i : Nat) (acc : List Sp) (f : Int), i ≤ l.length → l.length - i = d → acc.length = i →
    Ev (fun k => ductusref13_Lines.l0 k l acc f (i : Int)) (acc ++ spansB f (l.drop i), 0) := by
  induction d with
  | zero =>
    intro i acc f hi hd ha
    refine ev_one fun k => ?_
    simp only [ductusref13_Lines.l0]
    rw [if_neg (by omega), List.drop_eq_nil_of_le (by omega)]
    simp [spansB]
  | succ d ih =>
    intro i acc f hi hd ha
    have e : acc ++ spansB f (l.drop i) = (acc ++ [⟨f, rd l (i : Int)⟩]) ++ spansB (rd l (i : Int)) (l.drop (i + 1)) := by
      rw [drop_cons l i (by omega)]
      simp [spansB]
    rw [e]
    refine ev_step (ih (i + 1) (acc ++ [⟨f, rd l (i : Int)⟩]) (rd l (i : Int)) (by omega) (by omega) (by simp [ha])) fun k hk => ?_
    simp only [ductusref13_Lines.l0]
    rw [if_pos (by omega), if_pos (by omega), if_pos (by omega), wrap_succ i (by omega)]
    exact hk
theorem rlines_ev (l : List Int) (n : Int) (hl : l.length < 8796093022208) : Ev (fun k => ductusref13_Lines.f k l n) (linesM l n) := by
  unfold linesM
  by_cases h : validB 0 l n = true
  · rw [if_pos h]
    have h2 := rlines_loop l hl l.length 0 [] 0 (by omega) (by omega) rfl
    simp only [List.drop_zero, List.nil_append] at h2
    refine ev_same2 (rright_ev l n hl) h2 fun k h1 h2 => ?_
    unfold ductusref13_Lines.f
    rw [h1, Option.bind_some, if_pos h]
    exact h2
  · rw [if_neg h]
    refine ev_same (rright_ev l n hl) fun k h1 => ?_
    unfold ductusref13_Lines.f
    rw [h1, Option.bind_some, if_neg h]

/-! which line a place is in -/
theorem of_f (l : List Int) (i : Int) (hl : l.length < 8796093022208) : line_Of.f l i = some (line_Of.ans l i) := by
  unfold line_Of.f
  rw [if_pos (by omega)]
theorem rof_loop (l : List Int) (x : Int) (hl : l.length < 8796093022208) (d : Nat) : ∀ (i : Nat), i ≤ l.length → l.length - i = d → Ev (fun k => ductusref13_Of.l0 k l x (i : Int)) (idxFrom (fun b => decide (x < b)) i (l.drop i)) := by
  induction d with
  | zero =>
    intro i hi hd
    refine ev_one fun k => ?_
    simp only [ductusref13_Of.l0]
    rw [if_neg (by omega), List.drop_eq_nil_of_le (by omega)]
    rfl
  | succ d ih =>
    intro i hi hd
    rw [drop_cons l i (by omega)]
    simp only [idxFrom, decide_eq_true_eq]
    by_cases h : x < rd l (i : Int)
    · rw [if_pos h]
      refine ev_one fun k => ?_
      simp only [ductusref13_Of.l0]
      rw [if_pos (by omega), if_pos (by omega), if_pos h]
    · rw [if_neg h]
      refine ev_step (ih (i + 1) (by omega) (by omega)) fun k hk => ?_
      simp only [ductusref13_Of.l0]
      rw [if_pos (by omega), if_pos (by omega), if_neg h, wrap_succ i (by omega)]
      exact hk
theorem rof_ev (l : List Int) (x : Int) (hl : l.length < 8796093022208) : Ev (fun k => ductusref13_Of.f k l x) (line_Of.ans l x) := by
  unfold line_Of.ans
  by_cases h : x < 0
  · rw [if_pos h]
    refine ev_now fun k => ?_
    unfold ductusref13_Of.f
    rw [if_pos h]
  · rw [if_neg h]
    have h2 := rof_loop l x hl l.length 0 (by omega) (by omega)
    simp only [List.drop_zero] at h2
    refine ev_same h2 fun k hk => ?_
    unfold ductusref13_Of.f
    rw [if_neg h]
    exact hk

/-! breaks of one length -/
def mults (w j : Nat) : List Int := (List.range j).map fun (i : Nat) => (((i + 1) * w : Nat) : Int)
theorem mults_len (w j : Nat) : (mults w j).length = j := by simp [mults]
theorem mults_succ (w j : Nat) : mults w (j + 1) = mults w j ++ [(((j + 1) * w : Nat) : Int)] := by simp [mults, List.range_succ]
theorem last_f (w j : Nat) (hj : j < 9223372036854775807) : line_last.f (mults w j) = some (((j * w : Nat) : Int)) := by
  unfold line_last.f
  rw [mults_len]
  cases j with
  | zero => simp
  | succ j =>
    have e : wrap64 (((j + 1 : Nat) : Int) - 1) = (j : Int) := by
      rw [wrap_id (by omega) (by omega)]
      omega
    rw [if_neg (by omega), e, if_pos (by omega), if_pos (by omega), mults_succ, rd_nat]
    have h : (mults w j ++ [(((j + 1) * w : Nat) : Int)]).getD j 0 = (((j + 1) * w : Nat) : Int) := by
      rw [List.getD_eq_getElem?_getD, List.getElem?_append_right (by rw [mults_len]; omega), mults_len]
      simp
    rw [h]
/-- Breaks of lines of one length. -/
def wrapN (n w : Nat) : List Int := mults w ((n - 1) / w) ++ [(n : Int)]
def wrapM (n w : Int) : List Int := if n < 1 ∨ w < 1 ∨ n > 4000 then [] else wrapN n.toNat w.toNat
theorem wrap_loop (n w : Nat) (hn : 1 ≤ n) (hn2 : n ≤ 4000) (hw : 1 ≤ w) (hw2 : w ≤ 9223372036854775807) (d : Nat) : ∀ (j : Nat), j ≤ (n - 1) / w → (n - 1) / w - j = d → Ev (fun k => line_Wrap.l0 k (n : Int) (w : Int) (mults w j)) (wrapN n w) := by
  have hq : (n - 1) / w ≤ n - 1 := Nat.div_le_self _ _
  have hqw : (n - 1) / w * w ≤ n - 1 := Nat.div_mul_le_self _ _
  induction d with
  | zero =>
    intro j hj hd
    obtain rfl : j = (n - 1) / w := by omega
    have hlt : n - 1 < ((n - 1) / w + 1) * w := by
      have := Nat.lt_mul_div_succ (n - 1) (show 0 < w by omega)
      rw [Nat.mul_comm] at this
      exact this
    rw [Nat.succ_mul] at hlt
    refine ev_one fun k => ?_
    simp only [line_Wrap.l0]
    rw [last_f _ _ (by omega), Option.bind_some, wrap_id (by omega) (by omega), if_neg (by omega), if_pos (by rw [mults_len]; omega)]
    rfl
  | succ d ih =>
    intro j hj hd
    have hle : (j + 1) * w ≤ (n - 1) / w * w := Nat.mul_le_mul_right _ (by omega)
    have e : (j + 1) * w = j * w + w := Nat.succ_mul j w
    refine ev_step (ih (j + 1) (by omega) (by omega)) fun k hk => ?_
    simp only [line_Wrap.l0]
    rw [last_f _ _ (by omega), Option.bind_some, wrap_id (by omega) (by omega), if_pos (by omega), Option.bind_some, if_pos (by rw [mults_len]; omega), wrap_id (by omega) (by omega)]
    rw [mults_succ, e] at hk
    exact hk
theorem wrap_ev (n w : Int) (hw : w ≤ 9223372036854775807) : Ev (fun k => line_Wrap.f k n w) (wrapM n w) := by
  have yes : Ev (fun k => line_Wrap.j0 k n w true) [] := ev_one fun k => by simp only [line_Wrap.j0, if_true]
  unfold wrapM
  by_cases h : n < 1 ∨ w < 1 ∨ n > 4000
  · rw [if_pos h]
    refine ev_same yes fun k hk => ?_
    unfold line_Wrap.f
    by_cases h1 : n < 1
    · rw [if_pos h1]
      exact hk
    · rw [if_neg h1]
      by_cases h2 : w < 1
      · rw [if_pos h2]
        exact hk
      · rw [if_neg h2, decide_eq_true (by omega)]
        exact hk
  · rw [if_neg h]
    have h2 := wrap_loop n.toNat w.toNat (by omega) (by omega) (by omega) (by omega) ((n.toNat - 1) / w.toNat) 0 (Nat.zero_le _) (Nat.sub_zero _)
    have e1 : ((n.toNat : Nat) : Int) = n := by omega
    have e2 : ((w.toNat : Nat) : Int) = w := by omega
    rw [e1, e2] at h2
    have h3 : Ev (fun k => line_Wrap.j0 k n w false) (wrapN n.toNat w.toNat) := ev_step h2 fun k hk => by
      simp only [line_Wrap.j0]
      rw [if_neg (by decide)]
      exact hk
    refine ev_same h3 fun k hk => ?_
    unfold line_Wrap.f
    rw [if_neg (by omega), if_neg (by omega), decide_eq_false (by omega)]
    exact hk
theorem rwrap_loop (n w : Nat) (hn : 1 ≤ n) (hn2 : n ≤ 4000) (hw : 1 ≤ w) (d : Nat) : ∀ (i : Nat), 1 ≤ i → i ≤ n → n - i = d → Ev (fun k => ductusref13_Wrap.l0 k (n : Int) (w : Int) (mults w ((i - 1) / w)) (i : Int)) (wrapN n w) := by
  have hb : ∀ i, i ≤ n → (i - 1) / w ≤ 4000 := fun i hi => Nat.le_trans (Nat.div_le_self _ _) (by omega)
  induction d with
  | zero =>
    intro i h1 hi hd
    obtain rfl : i = n := by omega
    have hb := hb i (Nat.le_refl _)
    have last : Ev (fun k => ductusref13_Wrap.l0 k (i : Int) (w : Int) (mults w ((i - 1) / w) ++ [(i : Int)]) ((i + 1 : Nat) : Int)) (wrapN i w) := ev_one fun k => by
      simp only [ductusref13_Wrap.l0]
      rw [if_neg (by omega)]
      rfl
    refine ev_step last fun k hk => ?_
    simp only [ductusref13_Wrap.l0]
    rw [if_pos (by omega), if_pos trivial, if_pos (by rw [mults_len]; omega), wrap_succ i (by omega)]
    exact hk
  | succ d ih =>
    intro i h1 hi hd
    have hb := hb i hi
    refine ev_step (ih (i + 1) (by omega) (by omega) (by omega)) fun k hk => ?_
    simp only [ductusref13_Wrap.l0]
    rw [if_pos (by omega), if_neg (by omega), if_neg (by omega), wrap_succ i (by omega)]
    have e0 : i + 1 - 1 = i := by omega
    rw [e0] at hk
    have ht : Int.tmod (i : Int) (w : Int) = ((i % w : Nat) : Int) := by
      rw [Int.tmod_eq_emod_of_nonneg (by omega)]
      rfl
    rw [ht]
    have hi1 : i = (i - 1) + 1 := by omega
    by_cases h : i % w = 0
    · have e : i / w = (i - 1) / w + 1 := by
        have := Nat.succ_div (a := i - 1) (b := w)
        rw [← hi1, if_pos (Nat.dvd_of_mod_eq_zero h)] at this
        exact this
      have e2 : ((i - 1) / w + 1) * w = i := by
        rw [← e]
        exact Nat.div_mul_cancel (Nat.dvd_of_mod_eq_zero h)
      rw [if_pos (by omega), if_pos (by rw [mults_len]; omega)]
      rw [e, mults_succ, e2] at hk
      exact hk
    · have e : i / w = (i - 1) / w := by
        have := Nat.succ_div (a := i - 1) (b := w)
        rw [← hi1, if_neg (fun hd => h (Nat.mod_eq_zero_of_dvd hd))] at this
        exact this
      rw [if_neg (by omega)]
      rw [e] at hk
      exact hk
theorem rwrap_ev (n w : Int) : Ev (fun k => ductusref13_Wrap.f k n w) (wrapM n w) := by
  have yes : Ev (fun k => ductusref13_Wrap.j0 k n w true) [] := ev_one fun k => by simp only [ductusref13_Wrap.j0, if_true]
  unfold wrapM
  by_cases h : n < 1 ∨ w < 1 ∨ n > 4000
  · rw [if_pos h]
    refine ev_same yes fun k hk => ?_
    unfold ductusref13_Wrap.f
    by_cases h1 : n < 1
    · rw [if_pos h1]
      exact hk
    · rw [if_neg h1]
      by_cases h2 : w < 1
      · rw [if_pos h2]
        exact hk
      · rw [if_neg h2, decide_eq_true (by omega)]
        exact hk
  · rw [if_neg h]
    have h2 := rwrap_loop n.toNat w.toNat (by omega) (by omega) (by omega) (n.toNat - 1) 1 (by omega) (by omega) (by omega)
    have e1 : ((n.toNat : Nat) : Int) = n := by omega
    have e2 : ((w.toNat : Nat) : Int) = w := by omega
    have e3 : mults w.toNat ((1 - 1) / w.toNat) = [] := by simp [mults]
    rw [e1, e2, e3] at h2
    have h3 : Ev (fun k => ductusref13_Wrap.j0 k n w false) (wrapN n.toNat w.toNat) := ev_step h2 fun k hk => by
      simp only [ductusref13_Wrap.j0]
      rw [if_neg (by decide)]
      exact hk
    refine ev_same h3 fun k hk => ?_
    unfold ductusref13_Wrap.f
    rw [if_neg (by omega), if_neg (by omega), decide_eq_false (by omega)]
    exact hk
theorem wrapM_len (n w : Int) : (wrapM n w).length ≤ 4000 := by
  unfold wrapM
  split
  · simp
  · unfold wrapN
    rw [List.length_append, mults_len]
    have := Nat.div_le_self (n.toNat - 1) w.toNat
    simp
    omega
end Go.Proofs.Ytmjipbmpapcboaa.P
