/- Proved: what the functions of class tell of any number; condition: enough rounds. -/
import Derived.Test.YtnbhncmggfjgdaaDoorPLib
import Derived.Test.YtnbhncmggfjgdaaDoorPSw
import Derived.Test.YtnbhncmggfjgdaaDoorSReach
import Derived.Test.YtnbhncmggfjgdaaDoorPx2
namespace Go.Proofs.YtnbhncmggfjgdaaDoor.P
open Go.RowKit Go.Proofs.YtnbhncmggfjgdaaDoorW.PrintWords Go.Proofs.YtnbhncmggfjgdaaDoorW.PrintLast Go.Proofs.YtnbhncmggfjgdaaDoorW.PrintMore
set_option linter.unusedVariables false
set_option linter.unusedSimpArgs false

/-- A character's class. -/
def cls (c : Int) : Int := swFrom c class_reaches.tbl

theorem u64_id {x : Int} (h0 : 0 ≤ x) (h1 : x < 9223372036854775808) : IntKind.u64.wrap x = x := by
  show (x % 18446744073709551616) = x
  omega
theorem half_id {i j : Nat} (h : i ≤ 90) (h2 : j ≤ 90) : wrap64 ((IntKind.u64.wrap (wrap64 ((i : Int) + (j : Int)))) / 2) = (((i + j) / 2 : Nat) : Int) := by
  rw [wrap_id (x := (i : Int) + (j : Int)) (by omega) (by omega), u64_id (by omega) (by omega), wrap_id (by omega) (by omega)]
  omega
def tlo (i : Nat) : Int := (class_reaches.tbl.getD i (0, 0, 0)).1
def thi (i : Nat) : Int := (class_reaches.tbl.getD i (0, 0, 0)).2.1
def tcl (i : Nat) : Int := (class_reaches.tbl.getD i (0, 0, 0)).2.2
theorem t_len : class_reaches.tbl.length = 90 := by decide +kernel
theorem tr_len : (class_reaches.tbl.map class_reaches.row).length = 90 := by rw [List.length_map, t_len]
theorem t_up : ∀ i < 89, thi i < tlo (i + 1) := by decide +kernel
theorem t_in : ∀ i < 90, tlo i ≤ thi i := by decide +kernel
theorem t_mono (b : Nat) : ∀ a, a < b → b < 90 → thi a < tlo b := by
  induction b with
  | zero => intro a h; omega
  | succ b ih =>
    intro a h hb
    have h1 := t_up b (by omega)
    by_cases e : a = b
    · subst e
      exact h1
    · have h2 := ih a (by omega) (by omega)
      have h3 := t_in b (by omega)
      omega
theorem rd_row (i : Nat) (h : i < 90) : rd_T43 (class_reaches.tbl.map class_reaches.row) (i : Int) = ⟨tlo i, thi i, tcl i⟩ := by
  unfold rd_T43 tlo thi tcl
  rw [Int.toNat_natCast, List.getD_eq_getElem?_getD, List.getElem?_map, List.getD_eq_getElem?_getD, List.getElem?_eq_getElem (by rw [t_len]; exact h)]
  rfl
theorem find_loop (c : Int) (d : Nat) : ∀ (k i j : Nat), i ≤ j → j ≤ 90 → j - i ≤ d → d < k → (∀ a, a < i → thi a < c) → (∀ a, j ≤ a → a < 90 → c ≤ thi a) →
    ∃ m : Nat, m ≤ 90 ∧ (∀ a, a < m → thi a < c) ∧ (∀ a, m ≤ a → a < 90 → c ≤ thi a) ∧
      slices_BinarySearchFunc_class_reach_int_class_find_1.l0 k (class_reaches.tbl.map class_reaches.row) c (90 : Int) (i : Int) (j : Int) = some ((m : Int), decide (m < 90 ∧ tlo m ≤ c)) := by
  induction d with
  | zero =>
    intro k i j hij hj hd hk hlo hhi
    obtain ⟨k, rfl⟩ : ∃ m, k = m + 1 := ⟨k - 1, by omega⟩
    obtain rfl : i = j := by omega
    refine ⟨i, hj, hlo, hhi, ?_⟩
    simp only [slices_BinarySearchFunc_class_reach_int_class_find_1.l0]
    rw [if_neg (by omega)]
    by_cases hi : i < 90
    · have h2 := hhi i (Nat.le_refl _) hi
      rw [if_pos (by omega), if_pos (by omega), if_pos (by rw [tr_len]; omega), rd_row i hi]
      dsimp only [class_find_1.f]
      rw [if_neg (by omega)]
      by_cases h3 : tlo i ≤ c
      · rw [if_neg (by omega)]
        simp [hi, h3]
      · rw [if_pos (by omega)]
        simp [hi, h3]
    · rw [if_neg (by omega)]
      simp [hi]
  | succ d ih =>
    intro k i j hij hj hd hk hlo hhi
    obtain ⟨k, rfl⟩ : ∃ m, k = m + 1 := ⟨k - 1, by omega⟩
    by_cases e : i = j
    · subst e
      exact ih (k + 1) i i (Nat.le_refl _) hj (by omega) (by omega) hlo hhi
    · simp only [slices_BinarySearchFunc_class_reach_int_class_find_1.l0]
      rw [if_pos (by omega), half_id (by omega) (by omega), if_pos (by omega), if_pos (by rw [tr_len]; omega), rd_row ((i + j) / 2) (by omega)]
      dsimp only [class_find_1.f]
      by_cases h1 : thi ((i + j) / 2) < c
      · rw [if_pos h1]
        simp only [Option.bind_some]
        rw [if_pos (by decide), wrap_succ _ (by omega)]
        refine ih k ((i + j) / 2 + 1) j (by omega) hj (by omega) (by omega) (fun a ha => ?_) hhi
        by_cases ea : a = (i + j) / 2
        · subst ea
          exact h1
        · have h4 := t_mono ((i + j) / 2) a (by omega) (by omega)
          have h5 := t_in ((i + j) / 2) (by omega)
          omega
      · have hh : ∀ a, (i + j) / 2 ≤ a → a < 90 → c ≤ thi a := by
          intro a ha hb
          by_cases ea : a = (i + j) / 2
          · subst ea
            omega
          · have h4 := t_mono a ((i + j) / 2) (by omega) (by omega)
            have h5 := t_in a (by omega)
            omega
        rw [if_neg h1]
        by_cases h2 : tlo ((i + j) / 2) > c
        · rw [if_pos h2]
          simp only [Option.bind_some]
          rw [if_neg (by decide)]
          exact ih k i ((i + j) / 2) (by omega) (by omega) (by omega) (by omega) hlo hh
        · rw [if_neg h2]
          simp only [Option.bind_some]
          rw [if_neg (by decide)]
          exact ih k i ((i + j) / 2) (by omega) (by omega) (by omega) (by omega) hlo hh
theorem sw_skip (c : Int) : ∀ (l : List (Int × Int × Int)) (m : Nat), (∀ a, a < m → a < l.length → ¬ ((l.getD a (0, 0, 0)).1 ≤ c ∧ c ≤ (l.getD a (0, 0, 0)).2.1)) → swFrom c l = swFrom c (l.drop m)
  | l, 0, _ => by simp
  | [], m + 1, _ => by simp
  | x :: l, m + 1, h => by
    have h0 := h 0 (by omega) (by simp)
    simp only [List.getD_cons_zero] at h0
    simp only [swFrom, List.drop_succ_cons]
    rw [if_neg h0]
    exact sw_skip c l m fun a ha hl => by
      have := h (a + 1) (by omega) (by simpa using hl)
      simpa using this
theorem cls_eq (c : Int) (m : Nat) (hm : m ≤ 90) (hlo : ∀ a, a < m → thi a < c) (hhi : ∀ a, m ≤ a → a < 90 → c ≤ thi a) : cls c = if m < 90 ∧ tlo m ≤ c then tcl m else 0 := by
  unfold cls
  rw [sw_skip c class_reaches.tbl m fun a ha _ h => by have := hlo a ha; unfold thi at this; omega]
  by_cases h : m < 90
  · rw [List.drop_eq_getElem_cons (by rw [t_len]; exact h)]
    have e : class_reaches.tbl[m]'(by rw [t_len]; exact h) = (tlo m, thi m, tcl m) := by
      unfold tlo thi tcl
      rw [List.getD_eq_getElem?_getD, List.getElem?_eq_getElem (by rw [t_len]; exact h)]
      rfl
    rw [e]
    simp only [swFrom]
    by_cases h2 : tlo m ≤ c
    · rw [if_pos ⟨h2, hhi m (Nat.le_refl _) h⟩, if_pos ⟨h, h2⟩]
    · rw [if_neg (fun q => h2 q.1), if_neg (fun q => h2 q.2)]
      have h3 := sw_skip c (class_reaches.tbl.drop (m + 1)) 90 fun a ha hl q => by
        rw [List.length_drop, t_len] at hl
        have h4 := t_mono (m + 1 + a) m (by omega) (by omega)
        have h5 := hhi m (Nat.le_refl _) h
        have h6 := t_in m h
        rw [List.getD_eq_getElem?_getD, List.getElem?_drop] at q
        have h7 : tlo (m + 1 + a) ≤ c := by
          unfold tlo
          rw [List.getD_eq_getElem?_getD]
          exact q.1
        omega
      rw [h3, List.drop_eq_nil_of_le (by rw [List.length_drop, t_len]; omega)]
      rfl
  · rw [if_neg (fun q => h q.1), List.drop_eq_nil_of_le (by rw [t_len]; omega)]
    rfl
theorem find_eq (k : Nat) (hk : 91 ≤ k) (c : Int) : class_find.f k (class_reaches.tbl.map class_reaches.row) c = some (cls c) := by
  obtain ⟨m, hm, hlo, hhi, h⟩ := find_loop c 90 k 0 90 (by omega) (by omega) (by omega) (by omega) (fun a ha => by omega) (fun a ha hb => by omega)
  unfold class_find.f slices_BinarySearchFunc_class_reach_int_class_find_1.f
  rw [tr_len]
  have h' : slices_BinarySearchFunc_class_reach_int_class_find_1.l0 k (class_reaches.tbl.map class_reaches.row) c ((90 : Nat) : Int) 0 ((90 : Nat) : Int) = some ((m : Int), decide (m < 90 ∧ tlo m ≤ c)) := h
  rw [h', cls_eq c m hm hlo hhi]
  simp only [Option.bind_some]
  by_cases q : m < 90 ∧ tlo m ≤ c
  · rw [if_pos (by simpa using q), if_pos (by omega), if_pos (by omega), if_pos q, rd_row m q.1]
  · rw [if_neg (by simpa using q), if_neg q]
theorem class_of_eq (k : Nat) (hk : 91 ≤ k) (c : Int) : class_Of.f k c = some (cls c) := by
  unfold class_Of.f class_reaches.f
  simp only [Option.bind_some]
  rw [find_eq k hk]
  rfl
theorem cls_range (c : Int) : 0 ≤ cls c ∧ cls c ≤ 22 := by
  unfold cls
  have h : ∀ x ∈ class_reaches.tbl, 0 ≤ x.2.2 ∧ x.2.2 ≤ 22 := by decide +kernel
  revert h
  generalize class_reaches.tbl = l
  intro h
  induction l with
  | nil => simp [swFrom]
  | cons x l ih =>
    simp only [swFrom]
    split
    · exact h x (by simp)
    · exact ih fun y hy => h y (by simp [hy])
def classes : List Int := [0, 1, 2, 3, 4, 5, 6, 7, 8, 9, 10, 11, 12, 13, 14, 15, 16, 17, 18, 19, 20, 21, 22]
theorem in_classes {k : Int} (h0 : 0 ≤ k) (h1 : k ≤ 22) : k ∈ classes := by
  simp only [classes, List.mem_cons, List.not_mem_nil, or_false]
  omega
/-- What holds of every class, and of all that is none, holds. -/
theorem by_class (P : Int → Prop) (hin : ∀ k ∈ classes, P k) (hout : ∀ k, k < 0 ∨ 22 < k → P k) (k : Int) : P k := by
  by_cases h : 0 ≤ k ∧ k ≤ 22
  · exact hin k (in_classes h.1 h.2)
  · exact hout k (by omega)
theorem in_out (k b : Int) (h : k < 0 ∨ 22 < k) : class_in.f k b = some false := by
  unfold class_in.f
  by_cases h1 : k ≥ 0
  · rw [if_pos h1, if_neg (by omega)]
  · rw [if_neg h1]
def outK (k : Int) : Bool := decide (k ∈ [14, 15, 16, 17, 18, 9])
theorem out_eq0 (k : Int) : class_Out.f 8 k = some (outK k) := by
  revert k
  refine by_class _ (by decide +kernel) fun k h => ?_
  obtain ⟨b, hb⟩ : ∃ b, class_set.f 8 ([14, 15, 16, 17, 18, 9] : List Int) = some b := Option.isSome_iff_exists.1 (by decide +kernel)
  have e : outK k = false := by
    unfold outK
    rw [decide_eq_false_iff_not]
    simp only [List.mem_cons, List.not_mem_nil, or_false]
    omega
  unfold class_Out.f
  rw [hb, e]
  simp only [Option.bind_some]
  rw [in_out k b h]
  rfl
theorem out_eq (n : Nat) (hn : 8 ≤ n) (k : Int) : class_Out.f n k = some (outK k) := more (class_Out.mono k) 8 n hn _ (out_eq0 k)

end Go.Proofs.YtnbhncmggfjgdaaDoor.P
