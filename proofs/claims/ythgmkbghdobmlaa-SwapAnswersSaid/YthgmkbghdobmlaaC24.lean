/- Texts of this claim put together by a program of its own (PUtfE, PCtlR, PSwap, PSwapQ, POpen, PCase, PureSwapAnswers), what the law does not use left out: each part's statements bear their own conditions. -/
import Derived.Test.YthgmkbghdobmlaaC23
import Derived.Test.YthgmkbghdobmlaaC16
import Derived.Test.YthgmkbghdobmlaaC11
import Derived.Test.YthgmkbghdobmlaaC22
import Derived.Test.YthgmkbghdobmlaaC19
import Derived.Test.YthgmkbghdobmlaaC14
import Derived.Test.YthgmkbghdobmlaaC13
import Derived.Test.YthgmkbghdobmlaaC15
import Derived.Test.YthgmkbghdobmlaaC17
import Derived.OpenShut
import Derived.Lib.SmallJoins
import Derived.Deep.Fields
import Derived.Deep.Grids
import Derived.SizedLaws
import Derived.Deep.SlicePairs
import Derived.ChangeSlices
namespace Go.Proofs.Ythgmkbghdobmlaa.P
open Go.RowKit Go.Proofs.YthgmkbghdobmlaaW.PrintWords Go.Proofs.YthgmkbghdobmlaaW.PrintLast
set_option linter.unusedVariables false
set_option linter.unusedSimpArgs false

/-- A character's bytes. -/
def bytesC (c : Int) : List Int := (ductusref01_Bytes.f c).getD []
theorem right_eq (c : Int) : ductusref01_Right.f c = some (decide (0 ≤ c ∧ c ≤ 1114111 ∧ (c < 55296 ∨ c > 57343))) := by
  unfold ductusref01_Right.f
  by_cases h0 : c ≥ 0
  · by_cases h1 : c ≤ 1114111
    · by_cases h2 : c < 55296
      · rw [if_pos h0, if_pos h1, if_pos h2, decide_eq_true (show 0 ≤ c ∧ c ≤ 1114111 ∧ (c < 55296 ∨ c > 57343) from ⟨h0, h1, .inl h2⟩)]
      · rw [if_pos h0, if_pos h1, if_neg h2]
        congr 1
        rw [decide_eq_decide]
        omega
    · rw [if_pos h0, if_neg h1, decide_eq_false (by omega)]
  · rw [if_neg h0, decide_eq_false (by omega)]
theorem bytes_some (c : Int) : ductusref01_Bytes.f c = some (bytesC c) := by
  have : ∃ b, ductusref01_Bytes.f c = some b := by
    unfold ductusref01_Bytes.f
    rw [right_eq, Option.bind_some]
    repeat' split
    all_goals exact ⟨_, rfl⟩
  obtain ⟨b, hb⟩ := this
  unfold bytesC
  rw [hb]
  rfl
theorem bytes_le (c : Int) : (bytesC c).length ≤ 4 := by
  unfold bytesC ductusref01_Bytes.f
  rw [right_eq, Option.bind_some]
  repeat' split
  all_goals simp
/-- Is it a character? -/
def RightC (c : Int) : Prop := 0 ≤ c ∧ c ≤ 1114111 ∧ (c < 55296 ∨ c > 57343)
instance (c : Int) : Decidable (RightC c) := inferInstanceAs (Decidable (0 ≤ c ∧ c ≤ 1114111 ∧ (c < 55296 ∨ c > 57343)))
theorem bytesC_eq (c : Int) : bytesC c = if RightC c then (if c < 128 then [c] else if c < 2048 then [192 + c / 64, 128 + c % 64] else if c < 65536 then [224 + c / 4096, 128 + c / 64 % 64, 128 + c % 64] else [240 + c / 262144, 128 + c / 4096 % 64, 128 + c / 64 % 64, 128 + c % 64]) else [] := by
  unfold bytesC ductusref01_Bytes.f
  rw [right_eq, Option.bind_some]
  by_cases hr : RightC c
  · have h0 : 0 ≤ c := hr.1
    have h1 : c ≤ 1114111 := hr.2.1
    have d1 : Int.tdiv c 64 = c / 64 := Int.tdiv_eq_ediv_of_nonneg h0
    have d2 : Int.tdiv c 4096 = c / 4096 := Int.tdiv_eq_ediv_of_nonneg h0
    have d3 : Int.tdiv c 262144 = c / 262144 := Int.tdiv_eq_ediv_of_nonneg h0
    have m1 : Int.tmod c 64 = c % 64 := Int.tmod_eq_emod_of_nonneg h0
    have w1 : wrap64 (c / 64) = c / 64 := wrap_id (by omega) (by omega)
    have w2 : wrap64 (c / 4096) = c / 4096 := wrap_id (by omega) (by omega)
    have w3 : wrap64 (c / 262144) = c / 262144 := wrap_id (by omega) (by omega)
    have m2 : Int.tmod (c / 64) 64 = c / 64 % 64 := Int.tmod_eq_emod_of_nonneg (by omega)
    have m3 : Int.tmod (c / 4096) 64 = c / 4096 % 64 := Int.tmod_eq_emod_of_nonneg (by omega)
    have w4 : wrap64 (192 + c / 64) = 192 + c / 64 := wrap_id (by omega) (by omega)
    have w5 : wrap64 (128 + c % 64) = 128 + c % 64 := wrap_id (by omega) (by omega)
    have w6 : wrap64 (224 + c / 4096) = 224 + c / 4096 := wrap_id (by omega) (by omega)
    have w7 : wrap64 (128 + c / 64 % 64) = 128 + c / 64 % 64 := wrap_id (by omega) (by omega)
    have w8 : wrap64 (240 + c / 262144) = 240 + c / 262144 := wrap_id (by omega) (by omega)
    have w9 : wrap64 (128 + c / 4096 % 64) = 128 + c / 4096 % 64 := wrap_id (by omega) (by omega)
    rw [decide_eq_true (show 0 ≤ c ∧ c ≤ 1114111 ∧ (c < 55296 ∨ c > 57343) from hr), if_pos rfl, if_pos hr, d1, d2, d3, m1, w1, w2, w3, m2, m3, w4, w5, w6, w7, w8, w9]
    clear d1 d2 d3 m1 w1 w2 w3 m2 m3 w4 w5 w6 w7 w8 w9
    by_cases q1 : c < 128
    · rw [if_pos q1, if_pos q1, Option.getD_some, Int.emod_eq_of_lt h0 (by omega)]
    · rw [if_neg q1, if_neg q1]
      have e0 : (128 + c % 64) % 256 = 128 + c % 64 := Int.emod_eq_of_lt (by omega) (by omega)
      by_cases q2 : c < 2048
      · have e1 : (192 + c / 64) % 256 = 192 + c / 64 := Int.emod_eq_of_lt (by omega) (by omega)
        rw [if_pos q2, if_pos q2, Option.getD_some, e0, e1]
      · rw [if_neg q2, if_neg q2]
        have e2 : (128 + c / 64 % 64) % 256 = 128 + c / 64 % 64 := Int.emod_eq_of_lt (by omega) (by omega)
        by_cases q3 : c < 65536
        · have e1 : (224 + c / 4096) % 256 = 224 + c / 4096 := Int.emod_eq_of_lt (by omega) (by omega)
          rw [if_pos q3, if_pos q3, Option.getD_some, e0, e1, e2]
        · have e1 : (240 + c / 262144) % 256 = 240 + c / 262144 := Int.emod_eq_of_lt (by omega) (by omega)
          have e3 : (128 + c / 4096 % 64) % 256 = 128 + c / 4096 % 64 := Int.emod_eq_of_lt (by omega) (by omega)
          rw [if_neg q3, if_neg q3, Option.getD_some, e0, e1, e2, e3]
  · rw [decide_eq_false (show ¬ (0 ≤ c ∧ c ≤ 1114111 ∧ (c < 55296 ∨ c > 57343)) from hr), if_neg (by decide), if_neg hr]
    rfl
theorem vrune_ev (c : Int) : Ev (fun k => utf8_ValidRune.f k c) (decide (RightC c)) := by
  have hj : ∀ b, (b = true → 0 ≤ c ∧ c < 55296) → (b = false → ¬ (0 ≤ c ∧ c < 55296)) → Ev (fun k => utf8_ValidRune.j0 k c b) (decide (RightC c)) := by
    intro b h1 h2
    refine ev_one fun k => ?_
    simp only [utf8_ValidRune.j0]
    cases b with
    | true =>
      have := h1 rfl
      rw [if_pos rfl, decide_eq_true (show RightC c from ⟨by omega, by omega, .inl (by omega)⟩)]
    | false =>
      have := h2 rfl
      rw [if_neg (by simp)]
      by_cases q1 : 57343 < c
      · rw [if_pos q1]
        by_cases q2 : c ≤ 1114111
        · rw [if_pos q2, decide_eq_true (show RightC c from ⟨by omega, q2, .inr q1⟩)]
        · rw [if_neg q2, decide_eq_false (show ¬ RightC c from fun h => q2 h.2.1)]
      · rw [if_neg q1, decide_eq_false (show ¬ RightC c from fun h => by have := h.1; have := h.2.2; omega)]
  by_cases h0 : 0 ≤ c
  · by_cases h1 : c < 55296
    · refine ev_same (hj true (fun _ => ⟨h0, h1⟩) (fun h => by cases h)) fun k hk => ?_
      unfold utf8_ValidRune.f
      rw [if_pos h0, decide_eq_true h1]
      exact hk
    · refine ev_same (hj false (fun h => by cases h) (fun _ h => h1 h.2)) fun k hk => ?_
      unfold utf8_ValidRune.f
      rw [if_pos h0, decide_eq_false h1]
      exact hk
  · refine ev_same (hj false (fun h => by cases h) (fun _ h => h0 h.1)) fun k hk => ?_
    unfold utf8_ValidRune.f
    rw [if_neg h0]
    exact hk
theorem wrap32_id {x : Int} (h0 : -2147483648 ≤ x) (h1 : x ≤ 2147483647) : wrap32 x = x := by
  unfold wrap32
  omega
theorem rightU_ev (c : Int) : Ev (fun k => utf_Right.f k c) (decide (RightC c)) := by
  by_cases h0 : c ≥ 0
  · by_cases h1 : c ≤ 1114111
    · have hw : wrap32 c = c := wrap32_id (by omega) (by omega)
      refine ev_same (vrune_ev c) fun k hk => ?_
      unfold utf_Right.f
      rw [if_pos h0, if_pos h1, hw, hk, Option.bind_some]
    · refine ev_now fun k => ?_
      unfold utf_Right.f
      rw [if_pos h0, if_neg h1, decide_eq_false (show ¬ RightC c from fun h => h1 h.2.1)]
  · refine ev_now fun k => ?_
    unfold utf_Right.f
    rw [if_neg h0, decide_eq_false (show ¬ RightC c from fun h => h0 h.1)]
theorem rightR (c : Int) : ductusref01_Right.f c = some (decide (RightC c)) := right_eq c
theorem or_b (x : Int) (h0 : 0 ≤ x) (h1 : x < 32) : Go.bits .or .u8 192 x = 192 + x := by
  have : ∀ j : Fin 32, Go.bits .or .u8 192 ((j.val : Nat) : Int) = 192 + ((j.val : Nat) : Int) := by decide +kernel
  have := this ⟨x.toNat, by omega⟩
  simpa [Int.toNat_of_nonneg h0] using this
theorem or_c (x : Int) (h0 : 0 ≤ x) (h1 : x < 16) : Go.bits .or .u8 224 x = 224 + x := by
  have : ∀ j : Fin 16, Go.bits .or .u8 224 ((j.val : Nat) : Int) = 224 + ((j.val : Nat) : Int) := by decide +kernel
  have := this ⟨x.toNat, by omega⟩
  simpa [Int.toNat_of_nonneg h0] using this
theorem or_d (x : Int) (h0 : 0 ≤ x) (h1 : x < 8) : Go.bits .or .u8 240 x = 240 + x := by
  have : ∀ j : Fin 8, Go.bits .or .u8 240 ((j.val : Nat) : Int) = 240 + ((j.val : Nat) : Int) := by decide +kernel
  have := this ⟨x.toNat, by omega⟩
  simpa [Int.toNat_of_nonneg h0] using this
theorem append_ev (l : List Int) (c : Int) (h : RightC c) (hl : l.length ≤ 9000) : Ev (fun k => utf8_AppendRune.f k l c) (l ++ bytesC c) := by
  have h0 := h.1
  have h1 := h.2.1
  have h2 := h.2.2
  have m0 : c % 4294967296 = c := Int.emod_eq_of_lt h0 (by omega)
  by_cases q1 : c < 128
  · refine ev_now fun k => ?_
    have e : c % 256 = c := Int.emod_eq_of_lt h0 (by omega)
    unfold utf8_AppendRune.f
    rw [m0, if_pos (by omega), if_pos (by omega), bytesC_eq, if_pos h, if_pos q1, e]
  · have hn : Ev (fun k => utf8_appendRuneNonASCII.f k l c) (l ++ bytesC c) := by
      by_cases q2 : c < 2048
      · refine ev_now fun k => ?_
        have e : c / 64 % 256 = c / 64 := Int.emod_eq_of_lt (by omega) (by omega)
        unfold utf8_appendRuneNonASCII.f
        rw [m0, if_pos (by omega), Option.bind_some, e, or_b (c / 64) (by omega) (by omega), if_pos (by simp only [List.length_cons, List.length_nil]; omega), bytesC_eq, if_pos h, if_neg q1, if_pos q2]
      · have ht : c < 65536 → Ev (fun k => utf8_appendRuneNonASCII.j0 k l c c true) (l ++ bytesC c) := by
          intro q3
          refine ev_one fun k => ?_
          have e : c / 4096 % 256 = c / 4096 := Int.emod_eq_of_lt (by omega) (by omega)
          simp only [utf8_appendRuneNonASCII.j0]
          rw [if_pos trivial, Option.bind_some, e, or_c (c / 4096) (by omega) (by omega), if_pos (by simp only [List.length_cons, List.length_nil]; omega), bytesC_eq, if_pos h, if_neg q1, if_neg q2, if_pos q3]
        have hf : ¬ c < 65536 → Ev (fun k => utf8_appendRuneNonASCII.j0 k l c c false) (l ++ bytesC c) := by
          intro q3
          refine ev_one fun k => ?_
          have e : c / 262144 % 256 = c / 262144 := Int.emod_eq_of_lt (by omega) (by omega)
          simp only [utf8_appendRuneNonASCII.j0]
          rw [if_neg (by simp), if_pos (by omega), if_pos h1, Option.bind_some, e, or_d (c / 262144) (by omega) (by omega), if_pos (by simp only [List.length_cons, List.length_nil]; omega), bytesC_eq, if_pos h, if_neg q1, if_neg q2, if_neg q3]
        by_cases q4 : c < 55296
        · refine ev_same (ht (by omega)) fun k hk => ?_
          unfold utf8_appendRuneNonASCII.f
          rw [m0, if_neg (by omega), if_pos q4, decide_eq_true q4]
          exact hk
        · by_cases q3 : c < 65536
          · refine ev_same (ht q3) fun k hk => ?_
            unfold utf8_appendRuneNonASCII.f
            rw [m0, if_neg (by omega), if_neg q4, if_pos (by omega), decide_eq_true (show c ≤ 65535 by omega)]
            exact hk
          · refine ev_same (hf q3) fun k hk => ?_
            unfold utf8_appendRuneNonASCII.f
            rw [m0, if_neg (by omega), if_neg q4, if_pos (by omega), decide_eq_false (show ¬ c ≤ 65535 by omega)]
            exact hk
    refine ev_same hn fun k hk => ?_
    unfold utf8_AppendRune.f
    rw [m0, if_neg (by omega), hk, Option.bind_some]
def encB : List Int → List Int
  | [] => []
  | c :: l => bytesC c ++ encB l
def allR (l : List Int) : Prop := ∀ c ∈ l, RightC c
instance (l : List Int) : Decidable (allR l) := inferInstanceAs (Decidable (∀ c ∈ l, RightC c))
/-- What characters are written as. -/
def encM (l : List Int) : List Int × Int := if allR l then (if (encB l).length ≤ 4000 then (encB l, 0) else ([], 2)) else ([], 1)
theorem idx_loop (l : List Int) (hl : l.length < 9223372036854775807) (d : Nat) : ∀ i : Nat, i + d = l.length → ∃ r, Ev (fun k => slices_IndexFunc_int_utf_Encode_1.l0 k l (l.length : Int) (i : Int)) r ∧ (r ≥ 0 ↔ ¬ allR (l.drop i)) := by
  induction d with
  | zero =>
    intro i hi
    refine ⟨-1, ev_one fun k => ?_, ?_⟩
    · simp only [slices_IndexFunc_int_utf_Encode_1.l0]
      rw [if_neg (by omega)]
    · rw [List.drop_eq_nil_of_le (by omega)]
      simp [allR]
  | succ d ih =>
    intro i hi
    have hw : wrap64 ((i : Int) + 1) = ((i + 1 : Nat) : Int) := wrap_succ i (by omega)
    have he : Ev (fun k => utf_Encode_1.f k (rd l (i : Int))) (!decide (RightC (rd l (i : Int)))) := ev_same (rightU_ev _) fun k hk => by
      unfold utf_Encode_1.f
      rw [hk]
      rfl
    by_cases h : RightC (rd l (i : Int))
    · obtain ⟨r, hr, hi2⟩ := ih (i + 1) (by omega)
      refine ⟨r, ev_step2 he hr fun k hk hk2 => ?_, ?_⟩
      · simp only [slices_IndexFunc_int_utf_Encode_1.l0]
        rw [if_pos (by omega), if_pos (by omega), if_pos (by omega), hk, decide_eq_true h, Option.bind_some, if_neg (by simp), hw]
        exact hk2
      · rw [hi2, drop_cons l i (by omega)]
        simp [allR, h]
    · refine ⟨(i : Int), ev_step he fun k hk => ?_, ?_⟩
      · simp only [slices_IndexFunc_int_utf_Encode_1.l0]
        rw [if_pos (by omega), if_pos (by omega), if_pos (by omega), hk, decide_eq_false h, Option.bind_some, if_pos (by rfl)]
      · rw [drop_cons l i (by omega)]
        simp [allR, h]
theorem contains_ev (l : List Int) (hl : l.length < 9223372036854775807) : Ev (fun k => slices_ContainsFunc_int_utf_Encode_1.f k l) (!decide (allR l)) := by
  obtain ⟨r, hr, hi⟩ := idx_loop l hl l.length 0 (by omega)
  rw [List.drop_zero] at hi
  refine ev_same hr fun k hk => ?_
  unfold slices_ContainsFunc_int_utf_Encode_1.f slices_IndexFunc_int_utf_Encode_1.f
  have hk : slices_IndexFunc_int_utf_Encode_1.l0 k l (l.length : Int) 0 = some r := hk
  rw [hk, Option.bind_some]
  by_cases h : allR l
  · rw [decide_eq_true h, decide_eq_false (show ¬ r ≥ 0 from fun x => hi.1 x h)]
    rfl
  · rw [decide_eq_false h, decide_eq_true (show r ≥ 0 from hi.2 h)]
    rfl
theorem allR_at {l : List Int} (h : allR l) (i : Nat) (hi : i < l.length) : RightC (rd l (i : Int)) := by
  rw [rd_get l i hi]
  exact h _ (List.getElem_mem hi)
theorem encU_loop (l : List Int) (hl : l.length ≤ 9000) (hr : allR l) (d : Nat) : ∀ (i : Nat) (b : List Int), i + d = l.length → b.length ≤ 4000 → Ev (fun k => utf_Encode.l0 k b l (l.length : Int) (i : Int)) (if (b ++ encB (l.drop i)).length ≤ 4000 then (b ++ encB (l.drop i), 0) else ([], 2)) := by
  induction d with
  | zero =>
    intro i b hi hb
    refine ev_one fun k => ?_
    simp only [utf_Encode.l0]
    rw [if_neg (by omega), List.drop_eq_nil_of_le (by omega)]
    simp [encB, hb]
  | succ d ih =>
    intro i b hi hb
    have hw : wrap64 ((i : Int) + 1) = ((i + 1 : Nat) : Int) := wrap_succ i (by omega)
    have hc := allR_at hr i (by omega)
    have hw2 : wrap32 (rd l (i : Int)) = rd l (i : Int) := wrap32_id (by have := hc.1; omega) (by have := hc.2.1; omega)
    have ha := append_ev b (rd l (i : Int)) hc (by omega)
    have eb : b ++ encB (l.drop i) = (b ++ bytesC (rd l (i : Int))) ++ encB (l.drop (i + 1)) := by
      rw [drop_cons l i (by omega), List.append_assoc]
      rfl
    rw [eb]
    by_cases h : (b ++ bytesC (rd l (i : Int))).length ≤ 4000
    · refine ev_step2 ha (ih (i + 1) (b ++ bytesC (rd l (i : Int))) (by omega) h) fun k hk hk2 => ?_
      simp only [utf_Encode.l0]
      rw [if_pos (by omega), if_pos (by omega), if_pos (by omega), hw2, hk, Option.bind_some, if_neg (by omega), hw]
      exact hk2
    · refine ev_step ha fun k hk => ?_
      simp only [utf_Encode.l0]
      rw [if_pos (by omega), if_pos (by omega), if_pos (by omega), hw2, hk, Option.bind_some, if_pos (by omega), if_neg (by rw [List.length_append]; omega)]
theorem encU_ev (l : List Int) (hl : l.length ≤ 9000) : Ev (fun k => utf_Encode.f k l) (encM l) := by
  unfold encM
  by_cases h : allR l
  · have := encU_loop l hl h l.length 0 [] (by omega) (by simp)
    rw [List.drop_zero, List.nil_append] at this
    rw [if_pos h]
    refine ev_same2 (contains_ev l (by omega)) this fun k hk hk2 => ?_
    unfold utf_Encode.f
    rw [hk, decide_eq_true h, Option.bind_some, if_neg (by simp)]
    exact hk2
  · rw [if_neg h]
    refine ev_same (contains_ev l (by omega)) fun k hk => ?_
    unfold utf_Encode.f
    rw [hk, decide_eq_false h, Option.bind_some, if_pos (by rfl)]
theorem encR_l1 (l : List Int) (hl : l.length ≤ 9000) (d : Nat) : ∀ (i : Nat) (b : List Int), i + d = l.length → b.length ≤ 4000 → Ev (fun k => ductusref01_Encode.l1 k l b (i : Int)) (if (b ++ encB (l.drop i)).length ≤ 4000 then (b ++ encB (l.drop i), 0) else ([], 2)) := by
  induction d with
  | zero =>
    intro i b hi hb
    refine ev_one fun k => ?_
    simp only [ductusref01_Encode.l1]
    rw [if_neg (by omega), List.drop_eq_nil_of_le (by omega)]
    simp [encB, hb]
  | succ d ih =>
    intro i b hi hb
    have hw : wrap64 ((i : Int) + 1) = ((i + 1 : Nat) : Int) := wrap_succ i (by omega)
    have h4 := bytes_le (rd l (i : Int))
    have eb : b ++ encB (l.drop i) = (b ++ bytesC (rd l (i : Int))) ++ encB (l.drop (i + 1)) := by
      rw [drop_cons l i (by omega), List.append_assoc]
      rfl
    rw [eb]
    have g : b.length + (bytesC (rd l (i : Int))).length < 140737488355328 := by omega
    by_cases h : (b ++ bytesC (rd l (i : Int))).length ≤ 4000
    · refine ev_step (ih (i + 1) (b ++ bytesC (rd l (i : Int))) (by omega) h) fun k hk => ?_
      simp only [ductusref01_Encode.l1]
      rw [if_pos (by omega), if_pos (by omega), bytes_some, Option.bind_some, if_pos g, Option.bind_some, if_neg (by omega), hw]
      exact hk
    · refine ev_one fun k => ?_
      simp only [ductusref01_Encode.l1]
      rw [if_pos (by omega), if_pos (by omega), bytes_some, Option.bind_some, if_pos g, Option.bind_some, if_pos (by omega), if_neg (by rw [List.length_append]; omega)]
theorem encR_l0 (l : List Int) (hl : l.length ≤ 9000) (d : Nat) : ∀ i : Nat, i + d = l.length → Ev (fun k => ductusref01_Encode.l0 k l (i : Int)) (if allR (l.drop i) then (if (encB l).length ≤ 4000 then (encB l, 0) else ([], 2)) else ([], 1)) := by
  induction d with
  | zero =>
    intro i hi
    have := encR_l1 l hl l.length 0 [] (by omega) (by simp)
    rw [List.drop_zero, List.nil_append] at this
    refine ev_step this fun k hk => ?_
    simp only [ductusref01_Encode.l0]
    rw [if_neg (by omega), List.drop_eq_nil_of_le (by omega), if_pos (by simp [allR])]
    exact hk
  | succ d ih =>
    intro i hi
    have hw : wrap64 ((i : Int) + 1) = ((i + 1 : Nat) : Int) := wrap_succ i (by omega)
    by_cases h : RightC (rd l (i : Int))
    · have e : allR (l.drop i) ↔ allR (l.drop (i + 1)) := by
        rw [drop_cons l i (by omega)]
        simp [allR, h]
      simp only [e]
      refine ev_step (ih (i + 1) (by omega)) fun k hk => ?_
      simp only [ductusref01_Encode.l0]
      rw [if_pos (by omega), if_pos (by omega), rightR, decide_eq_true h, Option.bind_some, if_pos rfl, hw]
      exact hk
    · have e : ¬ allR (l.drop i) := by
        rw [drop_cons l i (by omega)]
        simp [allR, h]
      rw [if_neg e]
      refine ev_one fun k => ?_
      simp only [ductusref01_Encode.l0]
      rw [if_pos (by omega), if_pos (by omega), rightR, decide_eq_false h, Option.bind_some, if_neg (by simp)]
theorem encR_ev (l : List Int) (hl : l.length ≤ 9000) : Ev (fun k => ductusref01_Encode.f k l) (encM l) := encR_l0 l hl l.length 0 (by omega)
-- what is written is read as it was
theorem sidx_loop (l : List Int) (hl : l.length < 9223372036854775807) (d : Nat) : ∀ i : Nat, i + d = l.length → ∃ r, Ev (fun k => slices_IndexFunc_int_swap_looked_1.l0 k l (l.length : Int) (i : Int)) r ∧ (r ≥ 0 ↔ ¬ allR (l.drop i)) := by
  induction d with
  | zero =>
    intro i hi
    refine ⟨-1, ev_one fun k => ?_, ?_⟩
    · simp only [slices_IndexFunc_int_swap_looked_1.l0]
      rw [if_neg (by omega)]
    · rw [List.drop_eq_nil_of_le (by omega)]
      simp [allR]
  | succ d ih =>
    intro i hi
    have hw : wrap64 ((i : Int) + 1) = ((i + 1 : Nat) : Int) := wrap_succ i (by omega)
    have he : Ev (fun k => swap_looked_1.f k (rd l (i : Int))) (!decide (RightC (rd l (i : Int)))) := ev_same (rightU_ev _) fun k hk => by
      unfold swap_looked_1.f
      rw [hk]
      rfl
    by_cases h : RightC (rd l (i : Int))
    · obtain ⟨r, hr, hi2⟩ := ih (i + 1) (by omega)
      refine ⟨r, ev_step2 he hr fun k hk hk2 => ?_, ?_⟩
      · simp only [slices_IndexFunc_int_swap_looked_1.l0]
        rw [if_pos (by omega), if_pos (by omega), if_pos (by omega), hk, decide_eq_true h, Option.bind_some, if_neg (by simp), hw]
        exact hk2
      · rw [hi2, drop_cons l i (by omega)]
        simp [allR, h]
    · refine ⟨(i : Int), ev_step he fun k hk => ?_, ?_⟩
      · simp only [slices_IndexFunc_int_swap_looked_1.l0]
        rw [if_pos (by omega), if_pos (by omega), if_pos (by omega), hk, decide_eq_false h, Option.bind_some, if_pos (by rfl)]
      · rw [drop_cons l i (by omega)]
        simp [allR, h]
theorem scontains_ev (l : List Int) (hl : l.length < 9223372036854775807) : Ev (fun k => slices_ContainsFunc_int_swap_looked_1.f k l) (!decide (allR l)) := by
  obtain ⟨r, hr, hi⟩ := sidx_loop l hl l.length 0 (by omega)
  rw [List.drop_zero] at hi
  refine ev_same hr fun k hk => ?_
  unfold slices_ContainsFunc_int_swap_looked_1.f slices_IndexFunc_int_swap_looked_1.f
  have hk : slices_IndexFunc_int_swap_looked_1.l0 k l (l.length : Int) 0 = some r := hk
  rw [hk, Option.bind_some]
  by_cases h : allR l
  · rw [decide_eq_true h, decide_eq_false (show ¬ r ≥ 0 from fun x => hi.1 x h)]
    rfl
  · rw [decide_eq_false h, decide_eq_true (show r ≥ 0 from hi.2 h)]
    rfl
theorem good_loop (l : List Int) (hl : l.length < 9223372036854775807) (d : Nat) : ∀ i : Nat, i + d = l.length → Ev (fun k => ductusref27_good.l0 k l (i : Int)) (decide (allR (l.drop i))) := by
  induction d with
  | zero =>
    intro i hi
    refine ev_one fun k => ?_
    simp only [ductusref27_good.l0]
    rw [if_neg (by omega), List.drop_eq_nil_of_le (by omega)]
    simp [allR]
  | succ d ih =>
    intro i hi
    have hw : wrap64 ((i : Int) + 1) = ((i + 1 : Nat) : Int) := wrap_succ i (by omega)
    by_cases h : RightC (rd l (i : Int))
    · refine ev_step (ih (i + 1) (by omega)) fun k hk => ?_
      simp only [ductusref27_good.l0]
      rw [if_pos (by omega), if_pos (by omega), rightR, decide_eq_true h, Option.bind_some, if_pos rfl, hw, hk]
      exact congrArg some (decide_eq_decide.2 (by
        rw [drop_cons l i (by omega)]
        simp [allR, h]))
    · refine ev_one fun k => ?_
      simp only [ductusref27_good.l0]
      rw [if_pos (by omega), if_pos (by omega), rightR, decide_eq_false h, Option.bind_some, if_neg (by simp), drop_cons l i (by omega)]
      simp [allR, h]
theorem good_ev (l : List Int) (hl : l.length < 9223372036854775807) : Ev (fun k => ductusref27_good.f k l) (decide (allR l)) := good_loop l hl l.length 0 (by omega)
end Go.Proofs.Ythgmkbghdobmlaa.P
namespace Go.Proofs.Ythgmkbghdobmlaa.P
open Go.RowKit Go.Proofs.YthgmkbghdobmlaaW.PrintWords Go.Proofs.YthgmkbghdobmlaaW.PrintLast Go.Proofs.YthgmkbghdobmlaaW.PrintMore
set_option linter.unusedVariables false
set_option linter.unusedSimpArgs false

theorem closer_or (k : Int) : closerK k = -1 ∨ closerK k = 18 ∨ closerK k = 22 := by
  unfold closerK
  split
  · exact .inr (.inl rfl)
  · split
    · exact .inr (.inr rfl)
    · exact .inl rfl
/-- What a class does. -/
def roleK (k : Int) : Int := if closerK k = 18 then 1 else if closerK k = 22 then 2 else if k = 18 then -1 else if k = 22 then -2 else if k = 10 then 3 else 0
theorem role_eq (c : Int) (k : Nat) : ductusref26_role.f (k + 2) c = some (roleK (cls c)) := by
  unfold ductusref26_role.f
  rw [show ductusref02_Of.f c = some (cls c) from rfl, Option.bind_some]
  generalize cls c = q
  simp only [ductusref26_role.j0, ductusref26_role.j1]
  unfold roleK closerK
  by_cases h1 : q = 14
  · simp [h1]
  · by_cases h2 : q = 16
    · simp [h2]
    · by_cases h3 : q = 15
      · simp [h3]
      · by_cases h4 : q = 17
        · simp [h4]
        · by_cases h5 : q = 19
          · simp [h5]
          · by_cases h6 : q = 20
            · simp [h6]
            · by_cases h7 : q = 21
              · simp [h7]
              · simp only [h1, h2, h3, h4, h5, h6, h7]
                by_cases h8 : q = 18
                · simp [h8]
                · by_cases h9 : q = 22
                  · simp [h9]
                  · by_cases h10 : q = 10
                    · simp [h10]
                    · simp [h4, h7, h8, h9, h10]
theorem role_ev (c : Int) : Ev (fun k => ductusref26_role.f k c) (roleK (cls c)) := ⟨2, fun k hk => by
  obtain ⟨j, rfl⟩ : ∃ j, k = j + 2 := ⟨k - 2, by omega⟩
  exact role_eq c j⟩
def bk (x : Int) : Int := if x = 18 then 1 else 2
theorem role_open {k : Int} (h : closerK k ≠ -1) : roleK k = bk (closerK k) ∧ (roleK k = 1 ∨ roleK k = 2) := by
  unfold roleK bk
  rcases closer_or k with h1 | h1 | h1
  · exact (h h1).elim
  · rw [h1]; exact ⟨rfl, .inl rfl⟩
  · rw [h1]; exact ⟨rfl, .inr rfl⟩
theorem opc_role (c : Int) : opc c = decide (roleK (cls c) ≠ 0 ∧ roleK (cls c) ≠ 3) := by
  unfold opc opcK
  by_cases h1 : closerK (cls c) ≠ -1
  · rw [decide_eq_true h1, Bool.true_or]
    have := (role_open h1).2
    symm
    rw [decide_eq_true_eq]
    omega
  · rw [decide_eq_false h1, Bool.false_or]
    have hn1 : closerK (cls c) = -1 := by simpa using h1
    by_cases h3 : cls c = 18 ∨ cls c = 22
    · rw [decide_eq_true h3]
      symm
      rw [decide_eq_true_eq]
      rcases h3 with h | h
      · rw [h]; decide
      · rw [h]; decide
    · rw [decide_eq_false h3]
      symm
      rw [decide_eq_false_iff_not]
      unfold roleK
      rw [hn1, if_neg (by decide), if_neg (by decide), if_neg (by omega), if_neg (by omega)]
      split
      · exact fun h => h.2 rfl
      · exact fun h => h.1 rfl
theorem rctl_loop (l : List Int) (hl : l.length < 4398046511104) (d : Nat) : ∀ (i : Nat) (acc : List Int), i ≤ l.length → l.length - i = d → acc.length ≤ i → Ev (fun k => ductusref26_Controls.l0 k l acc (i : Int)) (acc ++ (l.drop i).filter opc) := by
  induction d with
  | zero =>
    intro i acc hi hd ha
    refine ev_one fun k => ?_
    simp only [ductusref26_Controls.l0]
    rw [if_neg (by omega), List.drop_eq_nil_of_le (by omega), List.filter_nil, List.append_nil]
  | succ d ih =>
    intro i acc hi hd ha
    rw [drop_cons l i (by omega)]
    have hr := role_ev (rd l (i : Int))
    have w1 : wrap64 ((i : Int) + 1) = ((i + 1 : Nat) : Int) := wrap_succ i (by omega)
    have ho := opc_role (rd l (i : Int))
    have g1 : (i : Int) < (l.length : Int) := by omega
    have g2 : (0 : Int) ≤ (i : Int) := by omega
    by_cases h0 : roleK (cls (rd l (i : Int))) = 0
    · rw [List.filter_cons_of_neg (by rw [ho]; simp [h0])]
      refine ev_step2 hr (ih (i + 1) acc (by omega) (by omega) (by omega)) fun k hk hk2 => ?_
      simp only [ductusref26_Controls.l0]
      rw [if_pos g1, if_pos g2, hk, Option.bind_some, if_pos h0, w1]
      exact hk2
    · by_cases h3 : roleK (cls (rd l (i : Int))) = 3
      · rw [List.filter_cons_of_neg (by rw [ho]; simp [h3])]
        refine ev_step2 hr (ih (i + 1) acc (by omega) (by omega) (by omega)) fun k hk hk2 => ?_
        simp only [ductusref26_Controls.l0]
        rw [if_pos g1, if_pos g2, hk, Option.bind_some, if_neg h0, Option.bind_some, if_pos h3, w1]
        exact hk2
      · rw [List.filter_cons_of_pos (by rw [ho]; simp [h0, h3])]
        have hnext := ih (i + 1) (acc ++ [rd l (i : Int)]) (by omega) (by omega) (by simp; omega)
        rw [List.append_assoc] at hnext
        refine ev_step2 hr hnext fun k hk hk2 => ?_
        simp only [ductusref26_Controls.l0]
        rw [if_pos g1, if_pos g2, hk, Option.bind_some, if_neg h0, Option.bind_some, if_neg h3, if_pos (by omega), w1]
        exact hk2
theorem rctl_ev (l : List Int) (hl : l.length < 4398046511104) : Ev (fun k => ductusref26_Controls.f k l) (l.filter opc) := by
  have h := rctl_loop l hl l.length 0 [] (by omega) (by omega) (by simp)
  simp only [List.drop_zero, List.nil_append] at h
  exact h
end Go.Proofs.Ythgmkbghdobmlaa.P
namespace Go.Proofs.Ythgmkbghdobmlaa.P
open Go.RowKit Go.Proofs.YthgmkbghdobmlaaW.PrintWords Go.Proofs.YthgmkbghdobmlaaW.PrintLast Go.Proofs.YthgmkbghdobmlaaW.PrintMore
set_option linter.unusedVariables false
set_option linter.unusedSimpArgs false

theorem tr0 (c : Int) : tr 0 c = c := by
  unfold tr trM trF
  rw [if_pos (by decide), if_pos (by decide)]
theorem chrs0 (l : List Int) : chrs 0 l = l.filter nctl := by
  unfold chrs
  rw [show tr 0 = id from funext tr0, List.map_id]
theorem normOf_ev (l : List Int) (hl : l.length ≤ 9000) : Ev (fun k => norm_Of.f k l 0) (l.filter nctl, plcs l) := ⟨2 * l.length + 101, fun k hk => by
  have := norm_of_eq k l 0 hl (by omega)
  rw [chrs0] at this
  exact this⟩
theorem rnormOf_ev (l : List Int) (hl : l.length ≤ 9000) : Ev (fun k => ductusref23_Of.f k l 0) (l.filter nctl, plcs l) := ⟨l.length + 101, fun k hk => by
  have := rnorm_of_eq k l 0 hl (by omega)
  rw [chrs0] at this
  exact this⟩
theorem rplain_ev (l : List Int) (hl : l.length ≤ 9000) : Ev (fun k => ductusref27_Plain.f k l) (l.filter nctl) := ev_same (rnormOf_ev l hl) fun k hk => by
  unfold ductusref27_Plain.f
  rw [hk, Option.bind_some]
theorem splain_eq (l : List Int) (hl : l.length ≤ 9000) : swap_Plain.f l = some (l.filter nctl) := by
  unfold swap_Plain.f
  rw [if_pos (by omega)]
theorem ctl_eqB (l : List Int) (hl : l.length ≤ 9000) : balance_Controls.f l = some (l.filter opc) := by
  unfold balance_Controls.f
  rw [if_pos (by omega)]

abbrev F0 (sp : List S39) (i : Nat) : Int := (rd_T39 sp (i : Int)).f0
abbrev F1 (sp : List S39) (i : Nat) : Int := (rd_T39 sp (i : Int)).f1
theorem dropS (sp : List S39) (i : Nat) (h : i < sp.length) : sp.drop i = rd_T39 sp (i : Int) :: sp.drop (i + 1) := by
  rw [List.drop_eq_getElem_cons h]
  unfold rd_T39
  rw [Int.toNat_natCast, List.getD_eq_getElem?_getD, List.getElem?_eq_getElem h]
  rfl
theorem getS (sp : List S39) (i : Nat) (h : i < sp.length) : rd_T39 sp (i : Int) = sp[i] := by
  unfold rd_T39
  rw [Int.toNat_natCast, List.getD_eq_getElem?_getD, List.getElem?_eq_getElem h]
  rfl
def badS (sp : List S39) (m : Int) (i : Nat) : Prop := F0 sp i < 0 ∨ F1 sp i < F0 sp i ∨ F1 sp i > m
def badP (sp : List S39) (i : Nat) : Prop := 0 < i ∧ (F0 sp i < F1 sp (i - 1) ∨ F0 sp i = F0 sp (i - 1))
instance (sp : List S39) (m : Int) (i : Nat) : Decidable (badS sp m i) := inferInstanceAs (Decidable (_ ∨ _))
instance (sp : List S39) (i : Nat) : Decidable (badP sp i) := inferInstanceAs (Decidable (_ ∧ _))
def rightL (sp : List S39) (m : Int) : Nat → Nat → Bool
  | 0, _ => true
  | d + 1, i => if badS sp m i then false else if badP sp i then false else rightL sp m d (i + 1)
theorem scan_loop (sp : List S39) (m : Int) (hn : sp.length ≤ 500) (d : Nat) : ∀ i : Nat, i + d = sp.length → Ev (fun k => scan_Right.l0 k sp m sp (sp.length : Int) (i : Int)) (rightL sp m d i) := by
  induction d with
  | zero =>
    intro i hi
    refine ev_one fun k => ?_
    simp only [scan_Right.l0]
    rw [if_neg (by omega)]
    rfl
  | succ d ih =>
    intro i hi
    have hw : wrap64 ((i : Int) + 1) = ((i + 1 : Nat) : Int) := wrap_succ i (by omega)
    have hjT : Ev (fun k => scan_Right.j1 k sp m (i : Int) sp (sp.length : Int) (i : Int) true (F0 sp i) (F1 sp i)) false := ev_one fun k => by
      simp only [scan_Right.j1, if_true]
    have hjF : Ev (fun k => scan_Right.j1 k sp m (i : Int) sp (sp.length : Int) (i : Int) false (F0 sp i) (F1 sp i)) (if badP sp i then false else rightL sp m d (i + 1)) := by
        by_cases h0 : 0 < i
        · have hw1 : wrap64 ((i : Int) - 1) = ((i - 1 : Nat) : Int) := by
            rw [wrap_id (by omega) (by omega)]
            omega
          by_cases h1 : F0 sp i < F1 sp (i - 1)
          · refine ev_one fun k => ?_
            simp only [scan_Right.j1, Bool.false_eq_true, if_false]
            rw [if_pos (by omega), hw1, if_pos (by omega), if_pos (by omega), if_pos h1, if_pos ⟨h0, .inl h1⟩]
          · by_cases h2 : F0 sp i = F0 sp (i - 1)
            · refine ev_one fun k => ?_
              simp only [scan_Right.j1, Bool.false_eq_true, if_false]
              rw [if_pos (by omega), hw1, if_pos (by omega), if_pos (by omega), if_neg h1, if_pos h2, if_pos ⟨h0, .inr h2⟩]
            · refine ev_step (ih (i + 1) (by omega)) fun k hk => ?_
              simp only [scan_Right.j1, Bool.false_eq_true, if_false]
              rw [if_pos (by omega), hw1, if_pos (by omega), if_pos (by omega), if_neg h1, if_neg h2, hw, hk, if_neg (show ¬ badP sp i from fun h => h.2.elim h1 h2)]
        · refine ev_step (ih (i + 1) (by omega)) fun k hk => ?_
          simp only [scan_Right.j1, Bool.false_eq_true, if_false]
          rw [if_neg (by omega), hw, hk, if_neg (show ¬ badP sp i from fun h => h0 h.1)]
    by_cases h1 : F0 sp i < 0
    · refine ev_step hjT fun k hk => ?_
      simp only [scan_Right.l0]
      rw [if_pos (by omega), if_pos (by omega), if_pos (by omega), if_pos h1, hk]
      simp only [rightL]
      rw [if_pos (.inl h1)]
    · by_cases h2 : F1 sp i < F0 sp i
      · refine ev_step hjT fun k hk => ?_
        simp only [scan_Right.l0]
        rw [if_pos (by omega), if_pos (by omega), if_pos (by omega), if_neg h1, if_pos h2, hk]
        simp only [rightL]
        rw [if_pos (.inr (.inl h2))]
      · by_cases h3 : F1 sp i > m
        · refine ev_step hjT fun k hk => ?_
          simp only [scan_Right.l0]
          rw [if_pos (by omega), if_pos (by omega), if_pos (by omega), if_neg h1, if_neg h2, decide_eq_true h3, hk]
          simp only [rightL]
          rw [if_pos (.inr (.inr h3))]
        · refine ev_step hjF fun k hk => ?_
          simp only [scan_Right.l0]
          rw [if_pos (by omega), if_pos (by omega), if_pos (by omega), if_neg h1, if_neg h2, decide_eq_false h3, hk]
          simp only [rightL]
          rw [if_neg (show ¬ badS sp m i from fun h => h.elim h1 fun h => h.elim h2 h3)]
theorem rscan_loop (sp : List S39) (m : Int) (hn : sp.length ≤ 500) (d : Nat) : ∀ i : Nat, i + d = sp.length → Ev (fun k => ductusref22_Right.l0 k sp m (i : Int)) (rightL sp m d i) := by
  induction d with
  | zero =>
    intro i hi
    refine ev_one fun k => ?_
    simp only [ductusref22_Right.l0]
    rw [if_neg (by omega)]
    rfl
  | succ d ih =>
    intro i hi
    have hw : wrap64 ((i : Int) + 1) = ((i + 1 : Nat) : Int) := wrap_succ i (by omega)
    have hjT : Ev (fun k => ductusref22_Right.j1 k sp m (i : Int) true (F0 sp i) (F1 sp i)) false := ev_one fun k => by
      simp only [ductusref22_Right.j1, if_true]
    have hjF : Ev (fun k => ductusref22_Right.j1 k sp m (i : Int) false (F0 sp i) (F1 sp i)) (if badP sp i then false else rightL sp m d (i + 1)) := by
        by_cases h0 : 0 < i
        · have hw1 : wrap64 ((i : Int) - 1) = ((i - 1 : Nat) : Int) := by
            rw [wrap_id (by omega) (by omega)]
            omega
          by_cases h1 : F0 sp i < F1 sp (i - 1)
          · refine ev_one fun k => ?_
            simp only [ductusref22_Right.j1, Bool.false_eq_true, if_false]
            rw [if_pos (by omega), hw1, if_pos (by omega), if_pos (by omega), if_pos h1, if_pos ⟨h0, .inl h1⟩]
          · by_cases h2 : F0 sp i = F0 sp (i - 1)
            · refine ev_one fun k => ?_
              simp only [ductusref22_Right.j1, Bool.false_eq_true, if_false]
              rw [if_pos (by omega), hw1, if_pos (by omega), if_pos (by omega), if_neg h1, if_pos h2, if_pos ⟨h0, .inr h2⟩]
            · refine ev_step (ih (i + 1) (by omega)) fun k hk => ?_
              simp only [ductusref22_Right.j1, Bool.false_eq_true, if_false]
              rw [if_pos (by omega), hw1, if_pos (by omega), if_pos (by omega), if_neg h1, if_neg h2, hw, hk, if_neg (show ¬ badP sp i from fun h => h.2.elim h1 h2)]
        · refine ev_step (ih (i + 1) (by omega)) fun k hk => ?_
          simp only [ductusref22_Right.j1, Bool.false_eq_true, if_false]
          rw [if_neg (by omega), hw, hk, if_neg (show ¬ badP sp i from fun h => h0 h.1)]
    by_cases h1 : F0 sp i < 0
    · refine ev_step hjT fun k hk => ?_
      simp only [ductusref22_Right.l0]
      rw [if_pos (by omega), if_pos (by omega), if_pos h1, hk]
      simp only [rightL]
      rw [if_pos (.inl h1)]
    · by_cases h2 : F1 sp i < F0 sp i
      · refine ev_step hjT fun k hk => ?_
        simp only [ductusref22_Right.l0]
        rw [if_pos (by omega), if_pos (by omega), if_neg h1, if_pos h2, hk]
        simp only [rightL]
        rw [if_pos (.inr (.inl h2))]
      · by_cases h3 : F1 sp i > m
        · refine ev_step hjT fun k hk => ?_
          simp only [ductusref22_Right.l0]
          rw [if_pos (by omega), if_pos (by omega), if_neg h1, if_neg h2, decide_eq_true h3, hk]
          simp only [rightL]
          rw [if_pos (.inr (.inr h3))]
        · refine ev_step hjF fun k hk => ?_
          simp only [ductusref22_Right.l0]
          rw [if_pos (by omega), if_pos (by omega), if_neg h1, if_neg h2, decide_eq_false h3, hk]
          simp only [rightL]
          rw [if_neg (show ¬ badS sp m i from fun h => h.elim h1 fun h => h.elim h2 h3)]
def rightM (sp : List S39) (m : Int) : Bool := rightL sp m sp.length 0
theorem scan_ev (sp : List S39) (m : Int) (hn : sp.length ≤ 500) : Ev (fun k => scan_Right.f k sp m) (rightM sp m) := scan_loop sp m hn sp.length 0 (by omega)
theorem rscan_ev (sp : List S39) (m : Int) (hn : sp.length ≤ 500) : Ev (fun k => ductusref22_Right.f k sp m) (rightM sp m) := rscan_loop sp m hn sp.length 0 (by omega)
theorem right_at (sp : List S39) (m : Int) : ∀ (d i : Nat), i + d = sp.length → rightL sp m d i = true → ∀ j, i ≤ j → j < sp.length → ¬ badS sp m j ∧ ¬ badP sp j
  | 0, i, hi, _, j, h1, h2 => by omega
  | d + 1, i, hi, h, j, h1, h2 => by
    simp only [rightL] at h
    by_cases c1 : badS sp m i
    · rw [if_pos c1] at h
      cases h
    rw [if_neg c1] at h
    by_cases c2 : badP sp i
    · rw [if_pos c2] at h
      cases h
    rw [if_neg c2] at h
    by_cases e : j = i
    · subst e
      exact ⟨c1, c2⟩
    · exact right_at sp m d (i + 1) (by omega) h j (by omega) h2
theorem right_in {sp : List S39} {m : Int} (h : rightM sp m = true) (j : Nat) (hj : j < sp.length) : 0 ≤ F0 sp j ∧ F0 sp j ≤ F1 sp j ∧ F1 sp j ≤ m := by
  have := (right_at sp m sp.length 0 (by omega) h j (by omega) hj).1
  unfold badS at this
  omega
theorem right_up {sp : List S39} {m : Int} (h : rightM sp m = true) (i : Nat) : ∀ j : Nat, i < j → j < sp.length → F1 sp i ≤ F0 sp j := by
  intro j hij hj
  induction j with
  | zero => omega
  | succ j ih =>
    have h2 := (right_at sp m sp.length 0 (by omega) h (j + 1) (by omega) hj).2
    have h3 := right_in h j (by omega)
    have e : j + 1 - 1 = j := by omega
    unfold badP at h2
    rw [e] at h2
    by_cases e2 : i = j
    · subst e2
      omega
    · have := ih (by omega) (by omega)
      omega
/-- Spans in order, each within n. -/
def Good (n : Int) (sp : List S39) : Prop := (∀ s ∈ sp, 0 ≤ s.f0 ∧ s.f0 ≤ s.f1 ∧ s.f1 ≤ n) ∧ sp.Pairwise (fun a b => a.f1 ≤ b.f0)
theorem right_good {sp : List S39} {m : Int} (h : rightM sp m = true) : Good m sp := by
  constructor
  · intro s hs
    obtain ⟨i, hi, rfl⟩ := List.mem_iff_getElem.1 hs
    have := right_in h i hi
    unfold F0 F1 at this
    rw [getS sp i hi] at this
    exact this
  · rw [List.pairwise_iff_getElem]
    intro i j hi hj hij
    have := right_up h i j hij hj
    unfold F0 F1 at this
    rw [getS sp i hi, getS sp j hj] at this
    exact this

def exM (l at_ pl : List Int) : List S39 → List Int → Int → List Int × Int
  | [], out, last => if (((out ++ l.drop last.toNat).length : Nat) : Int) > 8000 then ([], 2) else (out ++ l.drop last.toNat, 0)
  | s :: sp, out, last => if (((out ++ (l.take (backOf at_ s.f0 s.f1).1.toNat).drop last.toNat ++ pl ++ ((l.take (backOf at_ s.f0 s.f1).2.1.toNat).drop (backOf at_ s.f0 s.f1).1.toNat).filter opc).length : Nat) : Int) > 8000 then ([], 2) else exM l at_ pl sp (out ++ (l.take (backOf at_ s.f0 s.f1).1.toNat).drop last.toNat ++ pl ++ ((l.take (backOf at_ s.f0 s.f1).2.1.toNat).drop (backOf at_ s.f0 s.f1).1.toNat).filter opc) (backOf at_ s.f0 s.f1).2.1
def Fits (l at_ : List Int) : List S39 → Int → Prop
  | [], last => 0 ≤ last ∧ last ≤ (l.length : Int)
  | s :: sp, last => (0 ≤ last ∧ last ≤ (backOf at_ s.f0 s.f1).1 ∧ (backOf at_ s.f0 s.f1).1 ≤ (backOf at_ s.f0 s.f1).2.1 ∧ (backOf at_ s.f0 s.f1).2.1 ≤ (l.length : Int)) ∧ Fits l at_ sp (backOf at_ s.f0 s.f1).2.1
theorem mid_len (l : List Int) (a b : Nat) : ((l.take b).drop a).length ≤ l.length := by
  rw [List.length_drop, List.length_take]
  omega
theorem ex_loop (l at_ pl : List Int) (sp : List S39) (hl : l.length ≤ 500) (ha : at_.length ≤ 501) (hp : pl.length ≤ 500) (hs : sp.length ≤ 500) (d : Nat) : ∀ (i : Nat) (out : List Int) (last : Int), i + d = sp.length → out.length ≤ 8000 → Fits l at_ (sp.drop i) last →
    Ev (fun k => swap_exchange.l0 k l at_ sp pl out last (i : Int)) (exM l at_ pl (sp.drop i) out last) := by
  induction d with
  | zero =>
    intro i out last hi ho hf
    rw [List.drop_eq_nil_of_le (by omega)] at hf ⊢
    refine ev_one fun k => ?_
    simp only [swap_exchange.l0]
    have hd : (l.drop last.toNat).length ≤ l.length := by rw [List.length_drop]; omega
    rw [if_neg (by omega), if_pos (show 0 ≤ last ∧ last ≤ (l.length : Int) from hf), if_pos (by omega)]
    simp only [exM]
    split <;> rfl
  | succ d ih =>
    intro i out last hi ho hf
    rw [dropS sp i (by omega)] at hf ⊢
    have hw : wrap64 ((i : Int) + 1) = ((i + 1 : Nat) : Int) := wrap_succ i (by omega)
    obtain ⟨hf1, hf2⟩ := hf
    simp only [exM]
    obtain ⟨B, hB⟩ : ∃ B, backOf at_ (rd_T39 sp (i : Int)).f0 (rd_T39 sp (i : Int)).f1 = B := ⟨_, rfl⟩
    rw [hB] at hf1 hf2 ⊢
    have hbk : norm_Back.f at_ (rd_T39 sp (i : Int)).f0 (rd_T39 sp (i : Int)).f1 = some B := by rw [back_eq at_ (by omega), hB]
    have m1 := mid_len l last.toNat B.1.toNat
    have m2 := mid_len l B.1.toNat B.2.1.toNat
    have m3 := List.length_filter_le opc ((l.take B.2.1.toNat).drop B.1.toNat)
    have hct : balance_Controls.f ((l.take B.2.1.toNat).drop B.1.toNat) = some (((l.take B.2.1.toNat).drop B.1.toNat).filter opc) := ctl_eqB _ (by omega)
    obtain ⟨o, ho2⟩ : ∃ o, out ++ (l.take B.1.toNat).drop last.toNat ++ pl ++ ((l.take B.2.1.toNat).drop B.1.toNat).filter opc = o := ⟨_, rfl⟩
    have hfl : ([out, (l.take B.1.toNat).drop last.toNat, pl, ((l.take B.2.1.toNat).drop B.1.toNat).filter opc] : List (List Int)).flatten = o := by rw [← ho2]; simp
    have hol : o.length ≤ 10000 := by
      rw [← ho2]
      simp only [List.length_append]
      omega
    rw [ho2]
    by_cases c : ((o.length : Nat) : Int) > 8000
    · refine ev_one fun k => ?_
      simp only [swap_exchange.l0]
      rw [if_pos (by omega), if_pos (by omega), hbk, Option.bind_some, if_pos hf1, hct, Option.bind_some, hfl, if_pos (by omega), if_pos c, if_pos c]
    · refine ev_step (ih (i + 1) o B.2.1 (by omega) (by omega) hf2) fun k hk => ?_
      simp only [swap_exchange.l0]
      rw [if_pos (by omega), if_pos (by omega), hbk, Option.bind_some, if_pos hf1, hct, Option.bind_some, hfl, if_pos (by omega), if_neg c, if_neg c, hw]
      exact hk
/-- The document's controls. -/
theorem rctlB_ev (l : List Int) (hl : l.length ≤ 9000) : Ev (fun k => ductusref26_Controls.f k l) (l.filter opc) := rctl_ev l (by omega)
theorem rex_loop (l w at_ pl : List Int) (sp : List S39) (hl : l.length ≤ 500) (ha : at_.length ≤ 501) (hp : pl.length ≤ 500) (hs : sp.length ≤ 500) (d : Nat) : ∀ (i : Nat) (out : List Int) (last : Int), i + d = sp.length → out.length ≤ 8000 → Fits l at_ (sp.drop i) last →
    Ev (fun k => ductusref27_exchanged.l0 k l sp at_ pl out last (i : Int)) (exM l at_ pl (sp.drop i) out last) := by
  induction d with
  | zero =>
    intro i out last hi ho hf
    rw [List.drop_eq_nil_of_le (by omega)] at hf ⊢
    refine ev_one fun k => ?_
    simp only [ductusref27_exchanged.l0]
    have hd : (l.drop last.toNat).length ≤ l.length := by rw [List.length_drop]; omega
    rw [if_neg (by omega), if_pos hf.1, if_pos hf.2, if_pos (by omega), Option.bind_some]
    simp only [exM]
    split <;> rfl
  | succ d ih =>
    intro i out last hi ho hf
    rw [dropS sp i (by omega)] at hf ⊢
    have hw : wrap64 ((i : Int) + 1) = ((i + 1 : Nat) : Int) := wrap_succ i (by omega)
    obtain ⟨hf1, hf2⟩ := hf
    simp only [exM]
    obtain ⟨B, hB⟩ : ∃ B, backOf at_ (rd_T39 sp (i : Int)).f0 (rd_T39 sp (i : Int)).f1 = B := ⟨_, rfl⟩
    rw [hB] at hf1 hf2 ⊢
    have hbk : Ev (fun k => ductusref23_Back.f k at_ (rd_T39 sp (i : Int)).f0 (rd_T39 sp (i : Int)).f1) B := ⟨1, fun k hk => (rback_eq k hk at_ (by omega) _ _).trans (congrArg some hB)⟩
    have m1 := mid_len l last.toNat B.1.toNat
    have m2 := mid_len l B.1.toNat B.2.1.toNat
    have m3 := List.length_filter_le opc ((l.take B.2.1.toNat).drop B.1.toNat)
    have hct := rctlB_ev ((l.take B.2.1.toNat).drop B.1.toNat) (by omega)
    obtain ⟨o, ho2⟩ : ∃ o, out ++ (l.take B.1.toNat).drop last.toNat ++ pl ++ ((l.take B.2.1.toNat).drop B.1.toNat).filter opc = o := ⟨_, rfl⟩
    have hol : o.length ≤ 10000 := by
      rw [← ho2]
      simp only [List.length_append]
      omega
    have q1 : out.length + ((l.take B.1.toNat).drop last.toNat).length < 17592186044416 := by omega
    have q2 : (out ++ (l.take B.1.toNat).drop last.toNat).length + pl.length < 17592186044416 := by rw [List.length_append]; omega
    have q3 : (out ++ (l.take B.1.toNat).drop last.toNat ++ pl).length + (((l.take B.2.1.toNat).drop B.1.toNat).filter opc).length < 17592186044416 := by rw [List.length_append, List.length_append]; omega
    have q4 : B.1 ≤ (l.length : Int) := by omega
    have q5 : 0 ≤ B.1 := by omega
    rw [ho2]
    by_cases c : ((o.length : Nat) : Int) > 8000
    · refine ev_step2 hbk hct fun k hk hk2 => ?_
      simp only [ductusref27_exchanged.l0]
      rw [if_pos (by omega), if_pos (by omega), hk, Option.bind_some, if_pos hf1.1, if_pos hf1.2.1, if_pos q4, if_pos q1, Option.bind_some, if_pos q2, Option.bind_some, if_pos q5, if_pos hf1.2.2.1, if_pos hf1.2.2.2, hk2, Option.bind_some, if_pos q3, Option.bind_some, ho2, if_pos c, if_pos c]
    · refine ev_step3 hbk hct (ih (i + 1) o B.2.1 (by omega) (by omega) hf2) fun k hk hk2 hk3 => ?_
      simp only [ductusref27_exchanged.l0]
      rw [if_pos (by omega), if_pos (by omega), hk, Option.bind_some, if_pos hf1.1, if_pos hf1.2.1, if_pos q4, if_pos q1, Option.bind_some, if_pos q2, Option.bind_some, if_pos q5, if_pos hf1.2.2.1, if_pos hf1.2.2.2, hk2, Option.bind_some, if_pos q3, Option.bind_some, ho2, if_neg c, if_neg c, hw]
      exact hk3

def cntM (l : List Int) : Int := ((l.filter nctl).length : Int)
theorem plcs_le (l : List Int) (i j : Int) (h0 : 0 ≤ i) (h : i ≤ j) (hj : j ≤ cntM l) : rd (plcs l) i ≤ rd (plcs l) j := by
  unfold cntM at hj
  obtain ⟨a, rfl⟩ := Int.eq_ofNat_of_zero_le h0
  obtain ⟨b, rfl⟩ := Int.eq_ofNat_of_zero_le (Int.le_trans h0 h)
  by_cases e : a = b
  · subst e
    exact Int.le_refl _
  · exact Int.le_of_lt (plcs_mono l a b (by omega) (by omega))
theorem plcs_rng (l : List Int) (i : Int) (h0 : 0 ≤ i) (hj : i ≤ cntM l) : 0 ≤ rd (plcs l) i ∧ rd (plcs l) i ≤ (l.length : Int) := by
  unfold cntM at hj
  obtain ⟨a, rfl⟩ := Int.eq_ofNat_of_zero_le h0
  have hlt : a < (plcs l).length := by rw [plcs_len]; omega
  have := plcs_in l _ (List.getElem_mem hlt)
  rw [rd_get (plcs l) a hlt]
  exact this
/-- What a span's place is. -/
theorem back_at (l : List Int) (hl : l.length ≤ 9000) (a b : Int) (h0 : 0 ≤ a) (h1 : a ≤ b) (h2 : b ≤ cntM l) :
    backOf (plcs l) a b = (rd (plcs l) a, (if b > a then rd (plcs l) (b - 1) + 1 else rd (plcs l) a), true) := by
  unfold backOf
  have hp : b < ((plcs l).length : Int) := by
    rw [plcs_len]
    unfold cntM at h2
    omega
  rw [if_pos ⟨h0, h1, hp⟩]
  by_cases h : b > a
  · rw [if_pos h, if_pos h]
    have := plcs_rng l (b - 1) (by omega) (by omega)
    rw [wrap_id (by omega) (by omega)]
  · rw [if_neg h, if_neg h]
theorem back_fit (l : List Int) (hl : l.length ≤ 9000) (a b : Int) (h0 : 0 ≤ a) (h1 : a ≤ b) (h2 : b ≤ cntM l) :
    0 ≤ (backOf (plcs l) a b).1 ∧ (backOf (plcs l) a b).1 ≤ (backOf (plcs l) a b).2.1 ∧ (backOf (plcs l) a b).2.1 ≤ (l.length : Int) ∧ ∀ c : Int, b ≤ c → c ≤ cntM l → (backOf (plcs l) a b).2.1 ≤ rd (plcs l) c := by
  rw [back_at l hl a b h0 h1 h2]
  have r1 := plcs_rng l a h0 (by omega)
  by_cases h : b > a
  · simp only [if_pos h]
    have e := plcs_le l a (b - 1) h0 (by omega) (by omega)
    obtain ⟨x, hx⟩ := Int.eq_ofNat_of_zero_le (show 0 ≤ b - 1 by omega)
    have e2 := plcs_lt l x (by unfold cntM at h2; omega)
    rw [← hx] at e2
    refine ⟨r1.1, by omega, by omega, fun c hc hc2 => ?_⟩
    obtain ⟨y, hy⟩ := Int.eq_ofNat_of_zero_le (show 0 ≤ c by omega)
    have e3 := plcs_mono l x y (by omega) (by unfold cntM at hc2; omega)
    rw [← hx, ← hy] at e3
    omega
  · simp only [if_neg h]
    exact ⟨r1.1, Int.le_refl _, r1.2, fun c hc hc2 => plcs_le l a c h0 (by omega) hc2⟩
theorem fits_of (l : List Int) (hl : l.length ≤ 9000) : ∀ (sp : List S39) (last : Int), Good (cntM l) sp → 0 ≤ last → last ≤ (l.length : Int) → (∀ s ∈ sp, last ≤ rd (plcs l) s.f0) → Fits l (plcs l) sp last
  | [], last, hg, h0, h1, _ => ⟨h0, h1⟩
  | s :: sp, last, hg, h0, h1, h2 => by
    obtain ⟨b0, b1, b2⟩ := hg.1 s (by simp)
    obtain ⟨f0, f1, f2, f3⟩ := back_fit l hl s.f0 s.f1 b0 b1 b2
    have hh := h2 s (by simp)
    have hb : (backOf (plcs l) s.f0 s.f1).1 = rd (plcs l) s.f0 := by rw [back_at l hl _ _ b0 b1 b2]
    refine ⟨⟨h0, by omega, f1, f2⟩, fits_of l hl sp _ ⟨fun t ht => hg.1 t (by simp [ht]), (List.pairwise_cons.1 hg.2).2⟩ (by omega) f2 fun t ht => ?_⟩
    have e := (List.pairwise_cons.1 hg.2).1 t ht
    obtain ⟨c0, c1, c2⟩ := hg.1 t (by simp [ht])
    exact f3 t.f0 e (by omega)
theorem fits0 (l : List Int) (hl : l.length ≤ 9000) (sp : List S39) (hg : Good (cntM l) sp) : Fits l (plcs l) sp 0 :=
  fits_of l hl sp 0 hg (by omega) (by omega) fun s hs => (plcs_rng l s.f0 (hg.1 s hs).1 (by have := hg.1 s hs; omega)).1

def okM (l w : List Int) (sp : List S39) : Bool := decide (allR l) && (decide (allR w) && rightM sp (cntM l))
theorem okM_right {l w : List Int} {sp : List S39} (h : okM l w sp = true) : rightM sp (cntM l) = true := by
  unfold okM at h
  simp only [Bool.and_eq_true] at h
  exact h.2.2
def allM (l : List Int) (sp : List S39) (w : List Int) : List Int × Int := if okM l w sp = true then exM l (plcs l) (w.filter nctl) sp [] 0 else ([], 1)
theorem plcs_cnt (l : List Int) (hl : l.length ≤ 9000) : wrap64 (((plcs l).length : Int) - 1) = cntM l := by
  have h1 := plcs_len l
  have h2 := List.length_filter_le nctl l
  unfold cntM
  rw [wrap_id (by omega) (by omega)]
  omega
theorem looked_ev (l w : List Int) (sp : List S39) (hl : l.length ≤ 500) (hs : sp.length ≤ 500) (hw : w.length ≤ 500) : Ev (fun k => swap_looked.f k l sp w) (plcs l, okM l w sp) := by
  have hm := plcs_cnt l (by omega)
  refine ev_same2 (ev_and (normOf_ev l (by omega)) (scontains_ev l (by omega))) (ev_and (scontains_ev w (by omega)) (scan_ev sp (cntM l) hs)) fun k hk hk2 => ?_
  obtain ⟨e1, e2⟩ := ev_fst hk
  obtain ⟨e3, e4⟩ := ev_fst hk2
  unfold swap_looked.f okM
  rw [e1, Option.bind_some, e2, Option.bind_some]
  by_cases h1 : allR l
  · rw [decide_eq_true h1, if_neg (by simp), e3, Option.bind_some]
    by_cases h2 : allR w
    · rw [decide_eq_true h2, if_neg (by simp), hm, e4, Option.bind_some]
      rfl
    · rw [decide_eq_false h2, if_pos (by simp)]
      rfl
  · rw [decide_eq_false h1, if_pos (by simp)]
    rfl
theorem rmay_ev (l w : List Int) (sp : List S39) (hl : l.length ≤ 500) (hs : sp.length ≤ 500) (hw : w.length ≤ 500) : Ev (fun k => ductusref27_may.f k l sp w) (okM l w sp) := by
  have hm := plcs_cnt l (by omega)
  refine ev_same2 (ev_and (rnormOf_ev l (by omega)) (good_ev l (by omega))) (ev_and (good_ev w (by omega)) (rscan_ev sp (cntM l) hs)) fun k hk hk2 => ?_
  obtain ⟨e1, e2⟩ := ev_fst hk
  obtain ⟨e3, e4⟩ := ev_fst hk2
  unfold ductusref27_may.f okM
  rw [e1, Option.bind_some, e2, Option.bind_some]
  by_cases h1 : allR l
  · rw [decide_eq_true h1, if_pos rfl, e3, Option.bind_some]
    by_cases h2 : allR w
    · rw [decide_eq_true h2, if_pos rfl, hm, e4, Option.bind_some]
      rfl
    · rw [decide_eq_false h2, if_neg (by simp)]
      rfl
  · rw [decide_eq_false h1, if_neg (by simp)]
    rfl
theorem plcs_short (l : List Int) (hl : l.length ≤ 500) : (plcs l).length ≤ 501 := by
  have h1 := plcs_len l
  have h2 := List.length_filter_le nctl l
  omega
theorem exch_ev (l w : List Int) (sp : List S39) (hl : l.length ≤ 500) (hs : sp.length ≤ 500) (hw : w.length ≤ 500) (hg : Good (cntM l) sp) : Ev (fun k => swap_exchange.f k l (plcs l) sp w) (exM l (plcs l) (w.filter nctl) sp [] 0) := by
  have h2 := List.length_filter_le nctl w
  refine ev_same (ex_loop l (plcs l) (w.filter nctl) sp hl (plcs_short l hl) (by omega) hs sp.length 0 [] 0 (by omega) (by simp) (fits0 l (by omega) sp hg)) fun k hk => ?_
  unfold swap_exchange.f
  rw [splain_eq w (by omega), Option.bind_some]
  exact hk
theorem rexch_ev (l w : List Int) (sp : List S39) (hl : l.length ≤ 500) (hs : sp.length ≤ 500) (hw : w.length ≤ 500) (hg : Good (cntM l) sp) : Ev (fun k => ductusref27_exchanged.f k l sp w) (exM l (plcs l) (w.filter nctl) sp [] 0) := by
  have h2 := List.length_filter_le nctl w
  refine ev_same3 (rnormOf_ev l (by omega)) (rplain_ev w (by omega)) (rex_loop l w (plcs l) (w.filter nctl) sp hl (plcs_short l hl) (by omega) hs sp.length 0 [] 0 (by omega) (by simp) (fits0 l (by omega) sp hg)) fun k h1 h2 h3 => ?_
  unfold ductusref27_exchanged.f
  rw [h1, Option.bind_some, h2, Option.bind_some]
  exact h3
theorem all_ev (l w : List Int) (sp : List S39) (hl : l.length ≤ 500) (hs : sp.length ≤ 500) (hw : w.length ≤ 500) : Ev (fun k => swap_All.f k l sp w) (allM l sp w) := by
  by_cases h : okM l w sp = true
  · refine ev_same2 (looked_ev l w sp hl hs hw) (exch_ev l w sp hl hs hw (right_good (okM_right h))) fun k h1 h2 => ?_
    unfold swap_All.f allM
    rw [h1, Option.bind_some, if_pos h, if_pos h]
    exact h2
  · refine ev_same (looked_ev l w sp hl hs hw) fun k h1 => ?_
    unfold swap_All.f allM
    rw [h1, Option.bind_some, if_neg h, if_neg h]
theorem rall_ev (l w : List Int) (sp : List S39) (hl : l.length ≤ 500) (hs : sp.length ≤ 500) (hw : w.length ≤ 500) : Ev (fun k => ductusref27_All.f k l sp w) (allM l sp w) := by
  by_cases h : okM l w sp = true
  · refine ev_same2 (rmay_ev l w sp hl hs hw) (rexch_ev l w sp hl hs hw (right_good (okM_right h))) fun k h1 h2 => ?_
    unfold ductusref27_All.f allM
    rw [h1, Option.bind_some, if_pos h, if_pos h, h2, Option.bind_some]
  · refine ev_same (rmay_ev l w sp hl hs hw) fun k h1 => ?_
    unfold ductusref27_All.f allM
    rw [h1, Option.bind_some, if_neg h, if_neg h]
/-- Those that are told, if they rise. -/
def chM (sp : List S39) (wh : List Int) : Nat → Nat → Int → List S39 → Option (List S39)
  | 0, _, _, kept => some kept
  | d + 1, i, last, kept => if rd wh (i : Int) ≤ last ∨ (sp.length : Int) ≤ rd wh (i : Int) then none else chM sp wh d (i + 1) (rd wh (i : Int)) (kept ++ [rd_T39 sp (rd wh (i : Int))])
def chE (l w : List Int) (o : Option (List S39)) : List Int × Int := match o with
  | none => ([], 12)
  | some kept => exM l (plcs l) (w.filter nctl) kept [] 0
def someM (l : List Int) (sp : List S39) (wh w : List Int) : List Int × Int := if okM l w sp = true then chE l w (chM sp wh wh.length 0 (-1) []) else ([], 1)
def Inv (sp : List S39) (n : Int) (last : Int) (kept : List S39) : Prop := Good n kept ∧ ∀ s ∈ kept, ∀ j : Nat, last < (j : Int) → j < sp.length → s.f1 ≤ F0 sp j
theorem inv_step {sp : List S39} {n : Int} (hr : rightM sp n = true) {last : Int} {kept : List S39} (h : Inv sp n last kept) (z : Int) (h0 : 0 ≤ z) (h1 : last < z) (h2 : z < (sp.length : Int)) : Inv sp n z (kept ++ [rd_T39 sp z]) := by
  obtain ⟨j, rfl⟩ := Int.eq_ofNat_of_zero_le h0
  have hj : j < sp.length := by omega
  have hb := right_in hr j hj
  refine ⟨⟨?_, ?_⟩, ?_⟩
  · intro s hs
    rcases List.mem_append.1 hs with hs | hs
    · exact h.1.1 s hs
    · obtain rfl := List.mem_singleton.1 hs
      exact hb
  · refine List.pairwise_append.2 ⟨h.1.2, List.pairwise_singleton _ _, fun a ha b hb2 => ?_⟩
    obtain rfl := List.mem_singleton.1 hb2
    exact h.2 a ha j h1 hj
  · intro s hs k hk hk2
    rcases List.mem_append.1 hs with hs | hs
    · exact h.2 s hs k (by omega) hk2
    · obtain rfl := List.mem_singleton.1 hs
      exact right_up hr j k (by omega) hk2
theorem inv_nil (sp : List S39) (n last : Int) : Inv sp n last [] := ⟨⟨by simp, List.Pairwise.nil⟩, by simp⟩
theorem some_loop (l w : List Int) (sp : List S39) (wh : List Int) (hl : l.length ≤ 500) (hs : sp.length ≤ 500) (hw : w.length ≤ 500) (hwh : wh.length ≤ 500) (hr : rightM sp (cntM l) = true) (d : Nat) :
    ∀ (i : Nat) (last : Int) (kept : List S39), i + d = wh.length → -1 ≤ last → kept.length ≤ i → Inv sp (cntM l) last kept → Ev (fun k => swap_Some.l0 k l (plcs l) sp wh w kept last (i : Int)) (chE l w (chM sp wh d i last kept)) := by
  induction d with
  | zero =>
    intro i last kept hi hla hk hv
    refine ev_step (exch_ev l w kept hl (by omega) hw hv.1) fun k hk => ?_
    simp only [swap_Some.l0]
    rw [if_neg (by omega)]
    exact hk
  | succ d ih =>
    intro i last kept hi hla hk hv
    have hw1 : wrap64 ((i : Int) + 1) = ((i + 1 : Nat) : Int) := wrap_succ i (by omega)
    simp only [chM]
    by_cases c1 : rd wh (i : Int) ≤ last
    · rw [if_pos (.inl c1)]
      refine ev_one fun k => ?_
      simp only [swap_Some.l0]
      rw [if_pos (by omega), if_pos (by omega), if_pos c1]
      rfl
    · by_cases c2 : (sp.length : Int) ≤ rd wh (i : Int)
      · rw [if_pos (.inr c2)]
        refine ev_one fun k => ?_
        simp only [swap_Some.l0]
        rw [if_pos (by omega), if_pos (by omega), if_neg c1, if_pos c2]
        rfl
      · rw [if_neg (fun h => h.elim c1 c2)]
        refine ev_step (ih (i + 1) (rd wh (i : Int)) (kept ++ [rd_T39 sp (rd wh (i : Int))]) (by omega) (by omega) (by rw [List.length_append]; simp; omega) (inv_step hr hv _ (by omega) (by omega) (by omega))) fun k hk2 => ?_
        simp only [swap_Some.l0]
        rw [if_pos (by omega), if_pos (by omega), if_neg c1, if_neg c2, if_pos (by omega), if_pos (by omega), hw1]
        exact hk2
theorem rsome_loop (l w : List Int) (sp : List S39) (wh : List Int) (hl : l.length ≤ 500) (hs : sp.length ≤ 500) (hw : w.length ≤ 500) (hwh : wh.length ≤ 500) (hr : rightM sp (cntM l) = true) (d : Nat) :
    ∀ (i : Nat) (last : Int) (kept : List S39), i + d = wh.length → -1 ≤ last → (0 < i → last = rd wh ((i - 1 : Nat) : Int)) → (i = 0 → last = -1) → kept.length ≤ i → Inv sp (cntM l) last kept → Ev (fun k => ductusref27_Some.l0 k l sp wh w kept (i : Int)) (chE l w (chM sp wh d i last kept)) := by
  induction d with
  | zero =>
    intro i last kept hi hla hla2 hla3 hk hv
    refine ev_step (rexch_ev l w kept hl (by omega) hw hv.1) fun k hk => ?_
    simp only [ductusref27_Some.l0]
    rw [if_neg (by omega), hk, Option.bind_some]
    rfl
  | succ d ih =>
    intro i last kept hi hla hla2 hla3 hk hv
    have hw1 : wrap64 ((i : Int) + 1) = ((i + 1 : Nat) : Int) := wrap_succ i (by omega)
    simp only [chM]
    obtain ⟨z, hz⟩ : ∃ z, rd wh (i : Int) = z := ⟨_, rfl⟩
    rw [hz]
    by_cases c0 : z < 0
    · rw [if_pos (.inl (by omega))]
      refine ev_one fun k => ?_
      simp only [ductusref27_Some.l0]
      rw [if_pos (by omega), if_pos (by omega), hz, if_pos c0]
      rfl
    by_cases c2 : (sp.length : Int) ≤ z
    · rw [if_pos (.inr c2)]
      refine ev_one fun k => ?_
      simp only [ductusref27_Some.l0]
      rw [if_pos (by omega), if_pos (by omega), hz, if_neg c0, if_pos (by omega)]
      rfl
    have c3 : z < (sp.length : Int) := by omega
    by_cases ci : 0 < i
    · have hw2 : wrap64 ((i : Int) - 1) = ((i - 1 : Nat) : Int) := by
        rw [wrap_id (by omega) (by omega)]
        omega
      have e := hla2 ci
      by_cases c1 : z ≤ last
      · rw [if_pos (.inl c1)]
        refine ev_one fun k => ?_
        simp only [ductusref27_Some.l0]
        rw [if_pos (by omega), if_pos (by omega), hz, if_neg c0, if_neg (by omega), if_pos (by omega), hw2, if_pos (by omega), if_pos (by omega), ← e, if_pos (by omega)]
        rfl
      · rw [if_neg (fun h => h.elim c1 c2)]
        refine ev_step (ih (i + 1) z (kept ++ [rd_T39 sp z]) (by omega) (by omega) (fun _ => by rw [Nat.add_sub_cancel]; exact hz.symm) (fun h => by omega) (by rw [List.length_append]; simp; omega) (inv_step hr hv _ (by omega) (by omega) (by omega))) fun k hk2 => ?_
        simp only [ductusref27_Some.l0]
        rw [if_pos (by omega), if_pos (by omega), hz, if_neg c0, if_neg (by omega), if_pos (by omega), hw2, if_pos (by omega), if_pos (by omega), ← e, if_neg (by omega), if_pos (by omega), if_pos c3, if_pos (by omega), hw1]
        exact hk2
    · have e := hla3 (by omega)
      rw [if_neg (fun h => h.elim (fun h => by omega) c2)]
      refine ev_step (ih (i + 1) z (kept ++ [rd_T39 sp z]) (by omega) (by omega) (fun _ => by rw [Nat.add_sub_cancel]; exact hz.symm) (fun h => by omega) (by rw [List.length_append]; simp; omega) (inv_step hr hv _ (by omega) (by omega) (by omega))) fun k hk2 => ?_
      simp only [ductusref27_Some.l0]
      rw [if_pos (by omega), if_pos (by omega), hz, if_neg c0, if_neg (by omega), if_neg (by omega), if_pos (by omega), if_pos c3, if_pos (by omega), hw1]
      exact hk2
theorem some_ev (l w : List Int) (sp : List S39) (wh : List Int) (hl : l.length ≤ 500) (hs : sp.length ≤ 500) (hw : w.length ≤ 500) (hwh : wh.length ≤ 500) : Ev (fun k => swap_Some.f k l sp wh w) (someM l sp wh w) := by
  by_cases h : okM l w sp = true
  · refine ev_same2 (looked_ev l w sp hl hs hw) (some_loop l w sp wh hl hs hw hwh (okM_right h) wh.length 0 (-1) [] (by omega) (by omega) (by simp) (inv_nil _ _ _)) fun k h1 h2 => ?_
    unfold swap_Some.f someM
    rw [h1, Option.bind_some, if_pos h, if_pos h]
    exact h2
  · refine ev_same (looked_ev l w sp hl hs hw) fun k h1 => ?_
    unfold swap_Some.f someM
    rw [h1, Option.bind_some, if_neg h, if_neg h]
theorem rsome_ev (l w : List Int) (sp : List S39) (wh : List Int) (hl : l.length ≤ 500) (hs : sp.length ≤ 500) (hw : w.length ≤ 500) (hwh : wh.length ≤ 500) : Ev (fun k => ductusref27_Some.f k l sp wh w) (someM l sp wh w) := by
  by_cases h : okM l w sp = true
  · refine ev_same2 (rmay_ev l w sp hl hs hw) (rsome_loop l w sp wh hl hs hw hwh (okM_right h) wh.length 0 (-1) [] (by omega) (by omega) (fun h => by omega) (fun _ => rfl) (by simp) (inv_nil _ _ _)) fun k h1 h2 => ?_
    unfold ductusref27_Some.f someM
    rw [h1, Option.bind_some, if_pos h, if_pos h]
    exact h2
  · refine ev_same (rmay_ev l w sp hl hs hw) fun k h1 => ?_
    unfold ductusref27_Some.f someM
    rw [h1, Option.bind_some, if_neg h, if_neg h]
end Go.Proofs.Ythgmkbghdobmlaa.P
namespace Go.Proofs.Ythgmkbghdobmlaa.P
open Go.RowKit Go.Proofs.YthgmkbghdobmlaaW.PrintWords Go.Proofs.YthgmkbghdobmlaaW.PrintLast Go.Proofs.YthgmkbghdobmlaaW.PrintMore
set_option linter.unusedVariables false
set_option linter.unusedSimpArgs false

theorem alive27 : Ev (fun k => ductuslaw27_alive.f k) true := Ev.of ductuslaw27_alive.mono (k := 300) (by decide +kernel)
theorem great_no {l0 : List Int} {l1 : List S39} {l2 : List Int} (h0 : l0.length ≤ 500) (h1 : l1.length ≤ 500) (h2 : l2.length ≤ 500) : ductuslaw27_great.f l0 l1 l2 = some false := by
  unfold ductuslaw27_great.f
  rw [if_neg (by omega), if_neg (by omega), decide_eq_false (by omega)]
theorem great_yes {l0 : List Int} {l1 : List S39} {l2 : List Int} (h : ¬ (l0.length ≤ 500 ∧ l1.length ≤ 500 ∧ l2.length ≤ 500)) : ductuslaw27_great.f l0 l1 l2 = some true := by
  unfold ductuslaw27_great.f
  by_cases h0 : l0.length ≤ 500
  · rw [if_neg (by omega)]
    by_cases h1 : l1.length ≤ 500
    · rw [if_neg (by omega), decide_eq_true (by omega)]
    · rw [if_pos (by omega)]
  · rw [if_pos (by omega)]
/-- What an exchange can end in. -/
theorem ex_ends (l at_ pl : List Int) : ∀ (sp : List S39) (out : List Int) (last : Int), exM l at_ pl sp out last = ([], 2) ∨ ∃ o, exM l at_ pl sp out last = (o, 0) ∧ o.length ≤ 8000
  | [], out, last => by
    simp only [exM]
    by_cases c : (((out ++ l.drop last.toNat).length : Nat) : Int) > 8000
    · rw [if_pos c]
      exact .inl rfl
    · rw [if_neg c]
      exact .inr ⟨_, rfl, by omega⟩
  | s :: sp, out, last => by
    simp only [exM]
    split
    · exact .inl rfl
    · exact ex_ends l at_ pl sp _ _
end Go.Proofs.Ythgmkbghdobmlaa.P
namespace Go.Proofs.Ythgmkbghdobmlaa.P
open Go.Joins Go.Deep Go.ChangeShapes Go.WideShapes
set_option linter.unusedVariables false
variable {H : Type} {enc : TypeId × Value → H} {P : Program} {w : World} {base : Nat} {spare : Nat → Bool} {held : Bool}

theorem open_str3 {r : Reach} {b0 : Nat} {t : TypeId} {f0 f1 f2 : Field} {v : Value} {d : DataW H} {p : List MemPlace} (hs : P.underlying t = some (.struct #[f0, f1, f2])) (hone : oneCellFields P #[f0, f1, f2] = true) (hC : P.cellsOf t = 3) (hv : Value.okWide P w r b0 t v) (h : DataW.Trod enc P w base spare held t v d p) :
    ∃ (v0 v1 v2 : Value) (y0 y1 y2 : DataW H × List MemPlace) (n : Nat), v = .agg #[v0, v1, v2] ∧ True ∧ True ∧ DataW.trod enc P w base spare held n f0.type [v0] = some y0 ∧ DataW.trod enc P w base spare held n f1.type [v1] = some y1 ∧ DataW.trod enc P w base spare held n f2.type [v2] = some y2 := by
  obtain ⟨v0, v1, v2, y0, y1, y2, n, h1, _, _, h2, h3, h4⟩ := open_agg3 hs hone hC hv h
  exact ⟨v0, v1, v2, y0, y1, y2, n, h1, trivial, trivial, h2, h3, h4⟩

end Go.Proofs.Ythgmkbghdobmlaa.P
namespace Go.Proofs.Ythgmkbghdobmlaa.P
open Go.Joins Go.Deep Go.ChangeShapes Go.WideShapes
open Go.Proofs.YthgmkbghdobmlaaW.PrintWords
set_option linter.unusedVariables false
variable {H : Type} {enc : TypeId × Value → H} {P : Program} {w : World} {base : Nat} {held : Bool}

/-- A whole number that its kind holds. -/
abbrev fits (k : IntKind) (x : Int) : Prop := (Lit.int k x).wf = true
theorem open_ints1 {t e : TypeId} {k : IntKind} {n : Nat} {v : Value} {y : DataW H × List MemPlace} (ht : P.underlying t = some (.slice e)) (he : P.underlying e = some (.int k)) (hc : P.cellsOf e = 1)
    (hf : DataW.trod enc P w base (fun _ => true) held n t [v] = some y) : ∃ (a : Option Addr) (cap : Nat) (l : List Int), v = .slice a l.length cap ∧ l.length ≤ cap ∧ l.length ≤ maxLen ∧ Kd.C (Kd.int k) w a l.length l ∧ ∀ x ∈ l, fits k x := by
  have hv : ∃ (a : Option Addr) (len cap : Nat) (zs : List Int), v = .slice a len cap ∧ ((a = none ∧ len = 0 ∧ cap = 0 ∧ zs = []) ∨ ∃ x, a = some x ∧ len ≤ cap ∧ cap ≤ maxLen ∧ zs.length = cap ∧ (∀ i, i < zs.length → w.cell? (x.add i) = some (.int k (zs.getD i 0))) ∧ ∀ n ∈ zs, (Lit.int k n).wf = true) := by
    rcases open_ints ht he hc hf with ⟨hcs, _⟩ | ⟨x, l, c, zs, hcs, _, hl, hm, hz, _, hcell, hwz⟩
    · exact ⟨none, 0, 0, [], (List.cons.inj hcs).1, .inl ⟨rfl, rfl, rfl, rfl⟩⟩
    · exact ⟨some x, l, c, zs, (List.cons.inj hcs).1, .inr ⟨x, rfl, hl, hm, by simpa using hz, hcell, hwz⟩⟩
  obtain ⟨a, len, cap, zs, rfl, h⟩ := hv
  obtain ⟨l0, rfl, hr0, hm0, hw0, hc0⟩ := ReadsInt.ofRowC h
  exact ⟨a, cap, l0, rfl, hc0, hm0, Kd.C_of_reads (d := (0 : Int)) (h1 := fun _ => rfl) hr0, hw0⟩
theorem open_ints1T {t e : TypeId} {k : IntKind} {v : Value} {d : DataW H} {p : List MemPlace} {a : Option Addr} {len cap : Nat} (hv : v = .slice a len cap) (ht : P.underlying t = some (.slice e)) (he : P.underlying e = some (.int k)) (hc : P.cellsOf e = 1)
    (h : DataW.Trod enc P w base (fun _ => true) held t v d p) : ∃ (a : Option Addr) (cap : Nat) (l : List Int), v = .slice a l.length cap ∧ l.length ≤ cap ∧ l.length ≤ maxLen ∧ Kd.C (Kd.int k) w a l.length l ∧ ∀ x ∈ l, fits k x := by
  subst hv
  obtain ⟨n, hn⟩ := h
  exact open_ints1 ht he hc (by simpa [Value.cells] using hn)
instance : Inhabited S39 := ⟨z39⟩
theorem open_spans1 {t e : TypeId} {f0 f1 : Field} {n : Nat} {v : Value} {y : DataW H × List MemPlace} (ht : P.underlying t = some (.slice e)) (he : P.underlying e = some (.struct #[f0, f1]))
    (ce : P.cellsOf e = 2) (o0 : f0.offset = 0) (o1 : f1.offset = 1) (c0 : P.cellsOf f0.type = 1) (c1 : P.cellsOf f1.type = 1) (h0 : P.underlying f0.type = some (.int .i64)) (h1 : P.underlying f1.type = some (.int .i64))
    (hf : DataW.trod enc P w base (fun _ => true) held n t [v] = some y) : ∃ (a : Option Addr) (cap : Nat) (l : List S39), v = .slice a l.length cap ∧ l.length ≤ cap ∧ l.length ≤ maxLen ∧ Kd.C k39 w a l.length l ∧ ∀ x ∈ l, fits .i64 x.f0 ∧ fits .i64 x.f1 := by
  rcases open_slice_pairs ht he ce o0 o1 c0 c1 hf with ⟨hcs, _⟩ | ⟨a, len, cap, m, n', V0, V1, D0, D1, P0, P1, hcs, _, hl, hm, hmm, _, hx⟩
  · obtain rfl := (List.cons.inj hcs).1
    exact ⟨none, 0, [], rfl, Nat.le_refl _, Nat.zero_le _, ⟨rfl, by simp, fun h => absurd h (Nat.lt_irrefl 0)⟩, by simp⟩
  · obtain rfl := (List.cons.inj hcs).1
    have hml : m = cap := by rw [hmm, if_pos rfl]
    have ex : ∀ i, i < len → ∃ p : S39, w.cell? (a.add (i * 2)) = some (.int .i64 p.f0) ∧ w.cell? (a.add (i * 2 + 1)) = some (.int .i64 p.f1) ∧ fits .i64 p.f0 ∧ fits .i64 p.f1 := by
      intro i hi
      obtain ⟨g0, g1, g2, g3⟩ := hx i (by omega)
      obtain ⟨x0, e0, _, w0⟩ := DataW.trod_int h0 g2
      obtain ⟨x1, e1, _, w1⟩ := DataW.trod_int h1 g3
      exact ⟨⟨x0, x1⟩, by rw [g0, (List.cons.inj e0).1], by rw [g1, (List.cons.inj e1).1], w0, w1⟩
    obtain ⟨q, hq⟩ := choose_lt ex
    have hlen : ((List.range len).map q).length = len := by simp
    refine ⟨some a, cap, (List.range len).map q, by rw [hlen], by rw [hlen]; exact hl, by rw [hlen]; exact Nat.le_trans hl hm, ?_, ?_⟩
    · rw [hlen]
      refine ⟨hlen, by have := Nat.le_trans hl hm; simp only [maxLen] at this; omega, fun _ => ⟨a, rfl, fun j p hp => ?_⟩⟩
      have hj : j < len := by
        have := List.getElem?_eq_some_iff.1 hp
        obtain ⟨h, _⟩ := this
        rw [hlen] at h
        exact h
      have hpq : p = q j := by
        rw [List.getElem?_map, List.getElem?_range hj] at hp
        exact (Option.some.inj hp).symm
      subst hpq
      obtain ⟨r0, r1, _, _⟩ := hq j hj
      refine ⟨_, rfl, k39_mk w (q j), fun i u hu => ?_⟩
      match i, hu with
      | 0, hu =>
        obtain rfl := Option.some.inj hu
        exact r0
      | 1, hu =>
        obtain rfl := Option.some.inj hu
        exact r1
      | i + 2, hu => simp at hu
    · intro x hx'
      obtain ⟨j, hj, rfl⟩ := List.mem_map.1 hx'
      obtain ⟨_, _, r2, r3⟩ := hq j (List.mem_range.1 hj)
      exact ⟨r2, r3⟩
end Go.Proofs.Ythgmkbghdobmlaa.P
namespace Go.Proofs.Ythgmkbghdobmlaa.Pure
open Go.RowKit Go.Proofs.Ythgmkbghdobmlaa.P Go.Proofs.YthgmkbghdobmlaaW.PrintWords Go.Proofs.YthgmkbghdobmlaaW.PrintLast Go.Proofs.YthgmkbghdobmlaaW.PrintMore
set_option linter.unusedVariables false
set_option linter.unusedSimpArgs false

theorem ex_short (l at_ pl : List Int) (sp : List S39) : (exM l at_ pl sp [] 0).1.length ≤ 8000 := by
  rcases ex_ends l at_ pl sp [] 0 with h | ⟨o, h, ho⟩
  · rw [h]
    simp
  · rw [h]
    exact ho
theorem all_short (l w : List Int) (sp : List S39) : (allM l sp w).1.length ≤ 8000 := by
  unfold allM
  split
  · exact ex_short _ _ _ _
  · simp
theorem some_short (l w : List Int) (sp : List S39) (wh : List Int) : (someM l sp wh w).1.length ≤ 8000 := by
  unfold someM
  split
  · unfold chE
    split
    · simp
    · exact ex_short _ _ _ _
  · simp
def bytesM (x : List Int × Int) : List Int × Int := if x.2 = 0 then encM x.1 else ([], x.2)
theorem bytes_ev (l w : List Int) (sp : List S39) (hl : l.length ≤ 500) (hs : sp.length ≤ 500) (hw : w.length ≤ 500) : Ev (fun k => swap_Bytes.f k l sp w) (bytesM (allM l sp w)) := by
  have ha := all_short l w sp
  obtain ⟨R, hR⟩ : ∃ R, allM l sp w = R := ⟨_, rfl⟩
  have hA := all_ev l w sp hl hs hw
  rw [hR] at hA ha ⊢
  refine ev_same2 hA (encU_ev R.1 (by omega)) fun k h1 h2 => ?_
  unfold swap_Bytes.f bytesM
  rw [h1, Option.bind_some]
  by_cases c : R.2 = 0
  · rw [if_pos c, if_pos c, h2, Option.bind_some]
  · rw [if_neg c, if_neg c]
theorem rbytes_ev (l w : List Int) (sp : List S39) (hl : l.length ≤ 500) (hs : sp.length ≤ 500) (hw : w.length ≤ 500) : Ev (fun k => ductusref27_Bytes.f k l sp w) (bytesM (allM l sp w)) := by
  have ha := all_short l w sp
  obtain ⟨R, hR⟩ : ∃ R, allM l sp w = R := ⟨_, rfl⟩
  have hA := rall_ev l w sp hl hs hw
  rw [hR] at hA ha ⊢
  refine ev_same2 hA (encR_ev R.1 (by omega)) fun k h1 h2 => ?_
  unfold ductusref27_Bytes.f bytesM
  rw [h1, Option.bind_some]
  by_cases c : R.2 = 0
  · rw [if_pos c, if_pos c, h2, Option.bind_some]
  · rw [if_neg c, if_neg c]
theorem ints_ev9 (a : List Int) (h : a.length ≤ 9000) : Ev (fun k => ductusref01_Ints.f k a a) true := ⟨a.length + 1, fun k hk => ints_same k a (by omega) (by omega)⟩
theorem SwapAnswers (l0 : List Int) (l1 : List S39) (l2 : List Int) (l3 : List Int) (h0 : ∀ x ∈ l0, P.fits .i64 x) (h1 : ∀ x ∈ l1, P.fits .i64 x.f0 ∧ P.fits .i64 x.f1) (h2 : ∀ x ∈ l2, P.fits .i64 x) (h3 : ∀ x ∈ l3, P.fits .i64 x) : ∃ k, ductuslaw27_SwapAnswers.f k l0 l1 l2 l3 = some true := by
  refine Ev.rounds ?_
  by_cases hg : l0.length ≤ 500 ∧ l1.length ≤ 500 ∧ l2.length ≤ 500
  · by_cases hw : l3.length ≤ 500
    · have hJ : Ev (fun k => ductuslaw27_SwapAnswers.j0 k l3 (decide ((l3.length : Int) > 500)) l0 l1 l2) true := by
        have e0 : decide ((l3.length : Int) > 500) = false := decide_eq_false (by omega)
        rw [e0]
        have a1 := all_short l0 l2 l1
        have a2 := some_short l0 l2 l1 l3
        have hA := all_ev l0 l2 l1 hg.1 hg.2.1 hg.2.2
        have hB := rall_ev l0 l2 l1 hg.1 hg.2.1 hg.2.2
        have hC := some_ev l0 l2 l1 l3 hg.1 hg.2.1 hg.2.2 hw
        have hD := rsome_ev l0 l2 l1 l3 hg.1 hg.2.1 hg.2.2 hw
        have hE := bytes_ev l0 l2 l1 hg.1 hg.2.1 hg.2.2
        have hF := rbytes_ev l0 l2 l1 hg.1 hg.2.1 hg.2.2
        obtain ⟨x, hx⟩ : ∃ x, allM l0 l1 l2 = x := ⟨_, rfl⟩
        obtain ⟨y, hy⟩ : ∃ y, someM l0 l1 l3 l2 = y := ⟨_, rfl⟩
        obtain ⟨z, hz⟩ : ∃ z, bytesM x = z := ⟨_, rfl⟩
        rw [hx] at hA hB hE hF a1
        rw [hz] at hE hF
        rw [hy] at hC hD a2
        have hp := splain_eq l0 (by omega)
        have hP := rplain_ev l0 (by omega)
        have hfl := List.length_filter_le nctl l0
        have hI1 := ints_ev9 x.1 (by omega)
        have hI2 := ints_ev9 y.1 (by omega)
        have hI3 := ints_ev9 (l0.filter nctl) (by omega)
        refine ev_step3 (ev_and (ev_and hA hB) (ev_and hC hD)) (ev_and (ev_and hE hF) hP) (ev_and (ev_and hI1 hI2) hI3) fun k q1 q2 q3 => ?_
        obtain ⟨q11, q12⟩ := ev_fst q1
        obtain ⟨e1, e2⟩ := ev_fst q11
        obtain ⟨e3, e4⟩ := ev_fst q12
        obtain ⟨q21, e7⟩ := ev_fst q2
        obtain ⟨e5, e6⟩ := ev_fst q21
        obtain ⟨q31, e10⟩ := ev_fst q3
        obtain ⟨e8, e9⟩ := ev_fst q31
        simp only [ductuslaw27_SwapAnswers.j0, Bool.false_eq_true, if_false]
        rw [e1, Option.bind_some, e2, Option.bind_some, e3, Option.bind_some, e4, Option.bind_some, e5, Option.bind_some, e6, Option.bind_some, e8, Option.bind_some, if_pos rfl, if_pos rfl, e9, Option.bind_some, if_pos rfl, if_pos rfl, if_pos rfl, if_pos rfl, hp, Option.bind_some, e7, Option.bind_some, e10, Option.bind_some]
      refine ev_same2 alive27 hJ fun k ha hk => ?_
      unfold ductuslaw27_SwapAnswers.f
      rw [ha, Option.bind_some, if_pos rfl, great_no hg.1 hg.2.1 hg.2.2, Option.bind_some, if_neg (by simp)]
      exact hk
    · have hJ : Ev (fun k => ductuslaw27_SwapAnswers.j0 k l3 (decide ((l3.length : Int) > 500)) l0 l1 l2) true := by
        rw [decide_eq_true (show (l3.length : Int) > 500 by omega)]
        exact ev_one fun k => by simp only [ductuslaw27_SwapAnswers.j0, if_true]
      refine ev_same2 alive27 hJ fun k ha hk => ?_
      unfold ductuslaw27_SwapAnswers.f
      rw [ha, Option.bind_some, if_pos rfl, great_no hg.1 hg.2.1 hg.2.2, Option.bind_some, if_neg (by simp)]
      exact hk
  · have hJ : Ev (fun k => ductuslaw27_SwapAnswers.j0 k l3 true l0 l1 l2) true := ev_one fun k => by simp only [ductuslaw27_SwapAnswers.j0, if_true]
    refine ev_same2 alive27 hJ fun k ha hk => ?_
    unfold ductuslaw27_SwapAnswers.f
    rw [ha, Option.bind_some, if_pos rfl, great_yes hg, Option.bind_some, if_pos rfl]
    exact hk
end Go.Proofs.Ythgmkbghdobmlaa.Pure
