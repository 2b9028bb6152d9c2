/- Proved: the document's way of telling the character that bytes begin with, and the model's, are one; conditions: at least one byte, all of them bytes. -/
import Derived.Test.YtgcdhjgdlnpknaaDoorPDecode
import Derived.Test.YtgcdhjgdlnpknaaDoorPUtfV
namespace Go.Proofs.YtgcdhjgdlnpknaaDoor.P
open Go.RowKit Go.Proofs.YtgcdhjgdlnpknaaDoorW.PrintWords Go.Proofs.YtgcdhjgdlnpknaaDoorW.PrintLast
set_option linter.unusedVariables false
set_option linter.unusedSimpArgs false

theorem take_succ' (xs : List Int) (i : Nat) (h : i < xs.length) : xs.take (i + 1) = xs.take i ++ [rd xs (i : Int)] := by
  rw [rd_get xs i h]
  exact List.take_succ_eq_append_getElem h
theorem str_inj {a b : List Int} (ha : ∀ x ∈ a, 0 ≤ x ∧ x < 256) (hb : ∀ x ∈ b, 0 ≤ x ∧ x < 256) (h : (strOfNums a).toList = (strOfNums b).toList) : a = b := by
  have h1 : (strOfNums a).data.toList = (strOfNums b).data.toList := by
    rw [← ByteArray.toList_eq, ← ByteArray.toList_eq]
    exact h
  rw [strOfNums_data, strOfNums_data] at h1
  revert b
  induction a with
  | nil =>
    intro b hb _ h1
    cases b with
    | nil => rfl
    | cons y b => simp at h1
  | cons x a ih =>
    intro b hb _ h1
    cases b with
    | nil => simp at h1
    | cons y b =>
      simp only [List.map_cons, List.cons.injEq] at h1
      have hx := ha x (by simp)
      have hy := hb y (by simp)
      have e : x = y := by
        have := congrArg UInt8.toNat h1.1
        simp only [UInt8.toNat_ofNat'] at this
        omega
      rw [e, ih (fun z hz => ha z (by simp [hz])) (fun z hz => hb z (by simp [hz])) (by
        rw [ByteArray.toList_eq, ByteArray.toList_eq, strOfNums_data, strOfNums_data]
        exact h1.2) h1.2]
theorem cmpS_iff {a b : List Int} (ha : ∀ x ∈ a, 0 ≤ x ∧ x < 256) (hb : ∀ x ∈ b, 0 ≤ x ∧ x < 256) : cmpS a b = true ↔ a = b := by
  unfold cmpS
  rw [beq_iff_eq]
  exact ⟨str_inj ha hb, fun h => by rw [h]⟩
/-- Is it a character? -/
def RightC (c : Int) : Prop := 0 ≤ c ∧ c ≤ 1114111 ∧ (c < 55296 ∨ c > 57343)
instance (c : Int) : Decidable (RightC c) := inferInstanceAs (Decidable (0 ≤ c ∧ c ≤ 1114111 ∧ (c < 55296 ∨ c > 57343)))
theorem bytesC_eq (c : Int) : bytesC c = if RightC c then (if c < 128 then [c] else if c < 2048 then [192 + c / 64, 128 + c % 64] else if c < 65536 then [224 + c / 4096, 128 + c / 64 % 64, 128 + c % 64] else [240 + c / 262144, 128 + c / 4096 % 64, 128 + c / 64 % 64, 128 + c % 64]) else [] := by
  unfold bytesC ductusref01_Bytes.f
  rw [right_eq, Option.bind_some]
  by_cases hr : RightC c
  · have h0 : 0 ≤ c := hr.1
    have h1 : c ≤ 1114111 := hr.2.1
    have d1 : Int.tdiv c 64 = c / 64 := Int.tdiv_eq_ediv_of_nonneg h0
    have d2 : Int.tdiv c 4096 = c / 4096 := Int.tdiv_eq_ediv_of_nonneg h0
    have d3 : Int.tdiv c 262144 = c / 262144 := Int.tdiv_eq_ediv_of_nonneg h0
    have m1 : Int.tmod c 64 = c % 64 := Int.tmod_eq_emod_of_nonneg h0
    have w1 : wrap64 (c / 64) = c / 64 := wrap_id (by omega) (by omega)
    have w2 : wrap64 (c / 4096) = c / 4096 := wrap_id (by omega) (by omega)
    have w3 : wrap64 (c / 262144) = c / 262144 := wrap_id (by omega) (by omega)
    have m2 : Int.tmod (c / 64) 64 = c / 64 % 64 := Int.tmod_eq_emod_of_nonneg (by omega)
    have m3 : Int.tmod (c / 4096) 64 = c / 4096 % 64 := Int.tmod_eq_emod_of_nonneg (by omega)
    have w4 : wrap64 (192 + c / 64) = 192 + c / 64 := wrap_id (by omega) (by omega)
    have w5 : wrap64 (128 + c % 64) = 128 + c % 64 := wrap_id (by omega) (by omega)
    have w6 : wrap64 (224 + c / 4096) = 224 + c / 4096 := wrap_id (by omega) (by omega)
    have w7 : wrap64 (128 + c / 64 % 64) = 128 + c / 64 % 64 := wrap_id (by omega) (by omega)
    have w8 : wrap64 (240 + c / 262144) = 240 + c / 262144 := wrap_id (by omega) (by omega)
    have w9 : wrap64 (128 + c / 4096 % 64) = 128 + c / 4096 % 64 := wrap_id (by omega) (by omega)
    rw [decide_eq_true (show 0 ≤ c ∧ c ≤ 1114111 ∧ (c < 55296 ∨ c > 57343) from hr), if_pos rfl, if_pos hr, d1, d2, d3, m1, w1, w2, w3, m2, m3, w4, w5, w6, w7, w8, w9]
    clear d1 d2 d3 m1 w1 w2 w3 m2 m3 w4 w5 w6 w7 w8 w9
    by_cases q1 : c < 128
    · rw [if_pos q1, if_pos q1, Option.getD_some, Int.emod_eq_of_lt h0 (by omega)]
    · rw [if_neg q1, if_neg q1]
      have e0 : (128 + c % 64) % 256 = 128 + c % 64 := Int.emod_eq_of_lt (by omega) (by omega)
      by_cases q2 : c < 2048
      · have e1 : (192 + c / 64) % 256 = 192 + c / 64 := Int.emod_eq_of_lt (by omega) (by omega)
        rw [if_pos q2, if_pos q2, Option.getD_some, e0, e1]
      · rw [if_neg q2, if_neg q2]
        have e2 : (128 + c / 64 % 64) % 256 = 128 + c / 64 % 64 := Int.emod_eq_of_lt (by omega) (by omega)
        by_cases q3 : c < 65536
        · have e1 : (224 + c / 4096) % 256 = 224 + c / 4096 := Int.emod_eq_of_lt (by omega) (by omega)
          rw [if_pos q3, if_pos q3, Option.getD_some, e0, e1, e2]
        · have e1 : (240 + c / 262144) % 256 = 240 + c / 262144 := Int.emod_eq_of_lt (by omega) (by omega)
          have e3 : (128 + c / 4096 % 64) % 256 = 128 + c / 4096 % 64 := Int.emod_eq_of_lt (by omega) (by omega)
          rw [if_neg q3, if_neg q3, Option.getD_some, e0, e1, e2, e3]
  · rw [decide_eq_false (show ¬ (0 ≤ c ∧ c ≤ 1114111 ∧ (c < 55296 ∨ c > 57343)) from hr), if_neg (by decide), if_neg hr]
    rfl
theorem bytesC_bytes (c : Int) : ∀ x ∈ bytesC c, 0 ≤ x ∧ x < 256 := by
  rw [bytesC_eq]
  intro x hx
  split at hx
  · next hr =>
    have h0 : 0 ≤ c := hr.1
    have h1 : c ≤ 1114111 := hr.2.1
    clear hr
    repeat' split at hx
    all_goals simp only [List.mem_cons, List.not_mem_nil, or_false] at hx
    all_goals omega
  · simp at hx
theorem bytesC_len (c : Int) : (bytesC c).length = if RightC c then (if c < 128 then 1 else if c < 2048 then 2 else if c < 65536 then 3 else 4) else 0 := by
  rw [bytesC_eq]
  repeat' split
  all_goals rfl
theorem val_one {l : List Int} {b0 : Nat} (e0 : rd l 0 = (b0 : Int)) (l0 : b0 < 256) : valN l 1 = (b0 : Int) := by
  unfold valN v0
  rw [e0]
  simp only [vf, lead]
  rw [show rd ([0, 192, 224, 240] : List Int) ((1 - 1 : Nat) : Int) = 0 from rfl, wrap_id (x := (b0 : Int)) (by omega) (by omega), wrap_id (by omega) (by omega)]
  show (b0 : Int) - 0 = b0
  omega
theorem ok_one {l : List Int} {b0 : Nat} (e0 : rd l 0 = (b0 : Int)) (l0 : b0 < 256) (hl : 1 ≤ l.length) : okN l 1 = true ↔ b0 < 128 := by
  have ht : l.take 1 = [(b0 : Int)] := by
    rw [← e0]
    have := take_succ' l 0 (by omega)
    simpa using this
  unfold okN
  rw [val_one e0 l0, ht, Bool.and_eq_true, decide_eq_true_eq, cmpS_iff (by intro x hx; simp at hx; omega) (bytesC_bytes _), bytesC_len, bytesC_eq]
  by_cases h : b0 < 128
  · have hr : RightC (b0 : Int) := ⟨by omega, by omega, .inl (by omega)⟩
    rw [if_pos hr, if_pos (by omega), if_pos hr, if_pos (by omega)]
    simp [h]
  · constructor
    · rintro ⟨h1, _⟩
      split at h1
      · rw [if_neg (by omega)] at h1
        repeat' split at h1
        all_goals omega
      · omega
    · exact fun x => (h x).elim
theorem val_two {l : List Int} {b0 b1 : Nat} (e0 : rd l 0 = (b0 : Int)) (l0 : b0 < 256) (e1 : rd l 1 = (b1 : Int)) (l1 : b1 < 256) : valN l 2 = ((b0 : Int) - 192) * 64 + (b1 : Int) - 128 := by
  unfold valN v0
  rw [e0]
  simp only [vf, lead, vstep]
  rw [show rd ([0, 192, 224, 240] : List Int) ((2 - 1 : Nat) : Int) = 192 from rfl, show rd l ((1 : Nat) : Int) = (b1 : Int) from e1, wrap_id (x := (b0 : Int)) (by omega) (by omega), wrap_id (x := (b1 : Int)) (by omega) (by omega), wrap_id (x := (b0 : Int) - 192) (by omega) (by omega), wrap_id (x := ((b0 : Int) - 192) * 64) (by omega) (by omega), wrap_id (x := ((b0 : Int) - 192) * 64 + (b1 : Int)) (by omega) (by omega), wrap_id (by omega) (by omega)]
theorem take_two {l : List Int} {b0 b1 : Nat} (e0 : rd l 0 = (b0 : Int)) (e1 : rd l 1 = (b1 : Int)) (hl : 2 ≤ l.length) : l.take 2 = [(b0 : Int), (b1 : Int)] := by
  have t1 := take_succ' l 0 (by omega)
  have t2 := take_succ' l 1 (by omega)
  have t1 : l.take 1 = [(b0 : Int)] := by rw [← e0]; simpa using t1
  rw [t1] at t2
  have t2 : l.take 2 = [(b0 : Int)] ++ [rd l 1] := t2
  rw [t2, e1]
  rfl
theorem ok_two {l : List Int} {b0 b1 : Nat} (e0 : rd l 0 = (b0 : Int)) (l0 : b0 < 256) (e1 : rd l 1 = (b1 : Int)) (l1 : b1 < 256) (hl : 2 ≤ l.length) : okN l 2 = true ↔ (b0 / 32 = 6 ∧ b1 / 64 = 2 ∧ b0 % 32 * 64 + b1 % 64 ≥ 128) := by
  unfold okN
  rw [val_two e0 l0 e1 l1, take_two e0 e1 hl, Bool.and_eq_true, decide_eq_true_eq, cmpS_iff (by intro x hx; simp at hx; omega) (bytesC_bytes _), bytesC_len, bytesC_eq]
  generalize hc : ((b0 : Int) - 192) * 64 + (b1 : Int) - 128 = c
  constructor
  · rintro ⟨h1, h2⟩
    by_cases hr : RightC c
    · rw [if_pos hr] at h1 h2
      by_cases q1 : c < 128
      · rw [if_pos q1] at h1
        omega
      · rw [if_neg q1] at h1 h2
        by_cases q2 : c < 2048
        · rw [if_pos q2] at h2
          simp only [List.cons.injEq, and_true] at h2
          omega
        · rw [if_neg q2] at h1
          split at h1 <;> omega
    · rw [if_neg hr] at h1
      omega
  · rintro ⟨h1, h2, h3⟩
    have hr : RightC c := ⟨by omega, by omega, .inl (by omega)⟩
    rw [if_pos hr, if_pos hr, if_neg (by omega), if_pos (by omega), if_neg (by omega), if_pos (by omega)]
    refine ⟨rfl, ?_⟩
    simp only [List.cons.injEq, and_true]
    omega
theorem val_three {l : List Int} {b0 b1 b2 : Nat} (e0 : rd l 0 = (b0 : Int)) (l0 : b0 < 256) (e1 : rd l 1 = (b1 : Int)) (l1 : b1 < 256) (e2 : rd l 2 = (b2 : Int)) (l2 : b2 < 256) : valN l 3 = (((b0 : Int) - 224) * 64 + (b1 : Int) - 128) * 64 + (b2 : Int) - 128 := by
  unfold valN v0
  rw [e0]
  simp only [vf, lead, vstep]
  rw [show rd ([0, 192, 224, 240] : List Int) ((3 - 1 : Nat) : Int) = 224 from rfl, show rd l ((1 : Nat) : Int) = (b1 : Int) from e1, show rd l ((1 + 1 : Nat) : Int) = (b2 : Int) from e2, wrap_id (x := (b0 : Int)) (by omega) (by omega), wrap_id (x := (b1 : Int)) (by omega) (by omega), wrap_id (x := (b2 : Int)) (by omega) (by omega), wrap_id (x := (b0 : Int) - 224) (by omega) (by omega), wrap_id (x := ((b0 : Int) - 224) * 64) (by omega) (by omega), wrap_id (x := ((b0 : Int) - 224) * 64 + (b1 : Int)) (by omega) (by omega), wrap_id (x := ((b0 : Int) - 224) * 64 + (b1 : Int) - 128) (by omega) (by omega), wrap_id (x := (((b0 : Int) - 224) * 64 + (b1 : Int) - 128) * 64) (by omega) (by omega), wrap_id (x := (((b0 : Int) - 224) * 64 + (b1 : Int) - 128) * 64 + (b2 : Int)) (by omega) (by omega), wrap_id (by omega) (by omega)]
theorem take_three {l : List Int} {b0 b1 b2 : Nat} (e0 : rd l 0 = (b0 : Int)) (e1 : rd l 1 = (b1 : Int)) (e2 : rd l 2 = (b2 : Int)) (hl : 3 ≤ l.length) : l.take 3 = [(b0 : Int), (b1 : Int), (b2 : Int)] := by
  have t3 := take_succ' l 2 (by omega)
  rw [take_two e0 e1 (by omega)] at t3
  have t3 : l.take 3 = [(b0 : Int), (b1 : Int)] ++ [rd l 2] := t3
  rw [t3, e2]
  rfl
theorem ok_three {l : List Int} {b0 b1 b2 : Nat} (e0 : rd l 0 = (b0 : Int)) (l0 : b0 < 256) (e1 : rd l 1 = (b1 : Int)) (l1 : b1 < 256) (e2 : rd l 2 = (b2 : Int)) (l2 : b2 < 256) (hl : 3 ≤ l.length) : okN l 3 = true ↔ (b0 / 16 = 14 ∧ b1 / 64 = 2 ∧ b2 / 64 = 2 ∧ b0 % 16 * 4096 + b1 % 64 * 64 + b2 % 64 ≥ 2048 ∧ (b0 % 16 * 4096 + b1 % 64 * 64 + b2 % 64 < 55296 ∨ 57344 ≤ b0 % 16 * 4096 + b1 % 64 * 64 + b2 % 64)) := by
  unfold okN
  rw [val_three e0 l0 e1 l1 e2 l2, take_three e0 e1 e2 hl, Bool.and_eq_true, decide_eq_true_eq, cmpS_iff (by intro x hx; simp at hx; omega) (bytesC_bytes _), bytesC_len, bytesC_eq]
  generalize hc : (((b0 : Int) - 224) * 64 + (b1 : Int) - 128) * 64 + (b2 : Int) - 128 = c
  constructor
  · rintro ⟨h1, h2⟩
    by_cases hr : RightC c
    · rw [if_pos hr] at h1 h2
      obtain ⟨r1, r2, r3⟩ := hr
      by_cases q1 : c < 128
      · rw [if_pos q1] at h1
        omega
      · rw [if_neg q1] at h1 h2
        by_cases q2 : c < 2048
        · rw [if_pos q2] at h1
          omega
        · rw [if_neg q2] at h1 h2
          by_cases q3 : c < 65536
          · rw [if_pos q3] at h2
            simp only [List.cons.injEq, and_true] at h2
            omega
          · rw [if_neg q3] at h1
            omega
    · rw [if_neg hr] at h1
      omega
  · rintro ⟨h1, h2, h3, h4, h5⟩
    have hr : RightC c := ⟨by omega, by omega, by omega⟩
    rw [if_pos hr, if_pos hr, if_neg (by omega), if_neg (by omega), if_pos (by omega), if_neg (by omega), if_neg (by omega), if_pos (by omega)]
    refine ⟨rfl, ?_⟩
    simp only [List.cons.injEq, and_true]
    omega
theorem val_four {l : List Int} {b0 b1 b2 b3 : Nat} (e0 : rd l 0 = (b0 : Int)) (l0 : b0 < 256) (e1 : rd l 1 = (b1 : Int)) (l1 : b1 < 256) (e2 : rd l 2 = (b2 : Int)) (l2 : b2 < 256) (e3 : rd l 3 = (b3 : Int)) (l3 : b3 < 256) : valN l 4 = ((((b0 : Int) - 240) * 64 + (b1 : Int) - 128) * 64 + (b2 : Int) - 128) * 64 + (b3 : Int) - 128 := by
  unfold valN v0
  rw [e0]
  simp only [vf, lead, vstep]
  rw [show rd ([0, 192, 224, 240] : List Int) ((4 - 1 : Nat) : Int) = 240 from rfl, show rd l ((1 : Nat) : Int) = (b1 : Int) from e1, show rd l ((1 + 1 : Nat) : Int) = (b2 : Int) from e2, show rd l ((1 + 1 + 1 : Nat) : Int) = (b3 : Int) from e3, wrap_id (x := (b0 : Int)) (by omega) (by omega), wrap_id (x := (b1 : Int)) (by omega) (by omega), wrap_id (x := (b2 : Int)) (by omega) (by omega), wrap_id (x := (b3 : Int)) (by omega) (by omega), wrap_id (x := (b0 : Int) - 240) (by omega) (by omega), wrap_id (x := ((b0 : Int) - 240) * 64) (by omega) (by omega), wrap_id (x := ((b0 : Int) - 240) * 64 + (b1 : Int)) (by omega) (by omega), wrap_id (x := ((b0 : Int) - 240) * 64 + (b1 : Int) - 128) (by omega) (by omega), wrap_id (x := (((b0 : Int) - 240) * 64 + (b1 : Int) - 128) * 64) (by omega) (by omega), wrap_id (x := (((b0 : Int) - 240) * 64 + (b1 : Int) - 128) * 64 + (b2 : Int)) (by omega) (by omega), wrap_id (x := (((b0 : Int) - 240) * 64 + (b1 : Int) - 128) * 64 + (b2 : Int) - 128) (by omega) (by omega), wrap_id (x := ((((b0 : Int) - 240) * 64 + (b1 : Int) - 128) * 64 + (b2 : Int) - 128) * 64) (by omega) (by omega), wrap_id (x := ((((b0 : Int) - 240) * 64 + (b1 : Int) - 128) * 64 + (b2 : Int) - 128) * 64 + (b3 : Int)) (by omega) (by omega), wrap_id (by omega) (by omega)]
theorem take_four {l : List Int} {b0 b1 b2 b3 : Nat} (e0 : rd l 0 = (b0 : Int)) (e1 : rd l 1 = (b1 : Int)) (e2 : rd l 2 = (b2 : Int)) (e3 : rd l 3 = (b3 : Int)) (hl : 4 ≤ l.length) : l.take 4 = [(b0 : Int), (b1 : Int), (b2 : Int), (b3 : Int)] := by
  have t3 := take_succ' l 3 (by omega)
  rw [take_three e0 e1 e2 (by omega)] at t3
  have t3 : l.take 4 = [(b0 : Int), (b1 : Int), (b2 : Int)] ++ [rd l 3] := t3
  rw [t3, e3]
  rfl
theorem ok_four {l : List Int} {b0 b1 b2 b3 : Nat} (e0 : rd l 0 = (b0 : Int)) (l0 : b0 < 256) (e1 : rd l 1 = (b1 : Int)) (l1 : b1 < 256) (e2 : rd l 2 = (b2 : Int)) (l2 : b2 < 256) (e3 : rd l 3 = (b3 : Int)) (l3 : b3 < 256) (hl : 4 ≤ l.length) : okN l 4 = true ↔ (b0 / 8 = 30 ∧ b1 / 64 = 2 ∧ b2 / 64 = 2 ∧ b3 / 64 = 2 ∧ b0 % 8 * 262144 + b1 % 64 * 4096 + b2 % 64 * 64 + b3 % 64 ≥ 65536 ∧ b0 % 8 * 262144 + b1 % 64 * 4096 + b2 % 64 * 64 + b3 % 64 ≤ 1114111) := by
  unfold okN
  rw [val_four e0 l0 e1 l1 e2 l2 e3 l3, take_four e0 e1 e2 e3 hl, Bool.and_eq_true, decide_eq_true_eq, cmpS_iff (by intro x hx; simp at hx; omega) (bytesC_bytes _), bytesC_len, bytesC_eq]
  generalize hc : ((((b0 : Int) - 240) * 64 + (b1 : Int) - 128) * 64 + (b2 : Int) - 128) * 64 + (b3 : Int) - 128 = c
  constructor
  · rintro ⟨h1, h2⟩
    by_cases hr : RightC c
    · rw [if_pos hr] at h1 h2
      obtain ⟨r1, r2, r3⟩ := hr
      by_cases q1 : c < 128
      · rw [if_pos q1] at h1
        omega
      · rw [if_neg q1] at h1 h2
        by_cases q2 : c < 2048
        · rw [if_pos q2] at h1
          omega
        · rw [if_neg q2] at h1 h2
          by_cases q3 : c < 65536
          · rw [if_pos q3] at h1
            omega
          · rw [if_neg q3] at h2
            simp only [List.cons.injEq, and_true] at h2
            omega
    · rw [if_neg hr] at h1
      omega
  · rintro ⟨h1, h2, h3, h4, h5, h6⟩
    have hr : RightC c := ⟨by omega, by omega, by omega⟩
    rw [if_pos hr, if_pos hr, if_neg (by omega), if_neg (by omega), if_neg (by omega), if_neg (by omega), if_neg (by omega), if_neg (by omega)]
    refine ⟨rfl, ?_⟩
    simp only [List.cons.injEq, and_true]
    omega
set_option maxRecDepth 100000 in
/-- The document's character, and the model's. -/
theorem dec_nums {l : List Int} {b0 b1 b2 b3 : Nat} (e0 : rd l 0 = (b0 : Int)) (l0 : b0 < 256) (e1 : rd l 1 = (b1 : Int)) (l1 : b1 < 256) (e2 : rd l 2 = (b2 : Int)) (l2 : b2 < 256) (e3 : rd l 3 = (b3 : Int)) (l3 : b3 < 256) (h0 : 1 ≤ l.length) : chr l = (((Lib.decodeN l.length b0 b1 b2 b3).1 : Nat) : Int) ∧ adv l = (Lib.decodeN l.length b0 b1 b2 b3).2 := by
  have k1 := ok_one e0 l0 h0
  have k2 := fun hl => ok_two e0 l0 e1 l1 hl
  have k3 := fun hl => ok_three e0 l0 e1 l1 e2 l2 hl
  have k4 := fun hl => ok_four e0 l0 e1 l1 e2 l2 e3 l3 hl
  have v1 := val_one e0 l0
  have v2 := val_two e0 l0 e1 l1
  have v3 := val_three e0 l0 e1 l1 e2 l2
  have v4 := val_four e0 l0 e1 l1 e2 l2 e3 l3
  have fin : ∀ (c : Int) (p : Nat × Nat), fstOf l = c → ((0 ≤ c ∧ c = ((p.1 : Nat) : Int) ∧ (bytesC c).length = p.2) ∨ (c = -1 ∧ p = (65533, 1))) → chr l = ((p.1 : Nat) : Int) ∧ adv l = p.2 := by
    intro c p hc h
    unfold chr adv
    rw [hc]
    rcases h with ⟨q1, q2, q3⟩ | ⟨q1, q2⟩
    · rw [if_neg (by omega), if_neg (by omega)]
      exact ⟨q2, q3⟩
    · rw [if_pos (by omega), if_pos (by omega), q2]
      exact ⟨rfl, rfl⟩
  by_cases a1 : b0 < 128
  · have ho := k1.2 a1
    refine fin (valN l 1) _ ?_ (.inl ⟨by omega, ?_, ?_⟩)
    · unfold fstOf
      simp only [fstF]
      rw [if_pos h0, if_pos ho]
    · unfold Lib.decodeN
      rw [if_pos a1, v1]
    · unfold Lib.decodeN
      rw [if_pos a1, okN_len ho]
  · have n1 : ¬ okN l 1 = true := fun h => a1 (k1.1 h)
    by_cases a2 : b0 / 32 = 6 ∧ (1 < l.length ∧ b1 / 64 = 2)
    · by_cases c2 : b0 % 32 * 64 + b1 % 64 ≥ 128
      · have ho := (k2 (by omega)).2 ⟨a2.1, a2.2.2, c2⟩
        refine fin (valN l 2) _ ?_ (.inl ⟨by omega, ?_, ?_⟩)
        · unfold fstOf
          simp only [fstF]
          rw [if_pos h0, if_neg n1, if_pos (by omega), if_pos ho]
        · unfold Lib.decodeN
          rw [if_neg a1, if_pos a2, if_pos c2, v2]
          dsimp only
          omega
        · unfold Lib.decodeN
          rw [if_neg a1, if_pos a2, if_pos c2, okN_len ho]
      · have n2 : ¬ okN l 2 = true := fun h => c2 ((k2 (by omega)).1 h).2.2
        refine fin (-1) _ ?_ (.inr ⟨rfl, ?_⟩)
        · unfold fstOf
          simp only [fstF]
          rw [if_pos h0, if_neg n1, if_pos (by omega), if_neg n2]
          by_cases q3 : 1 + 1 + 1 ≤ l.length
          · rw [if_pos q3, if_neg (fun h => by have := ((k3 q3).1 h).1; omega)]
            by_cases q4 : 1 + 1 + 1 + 1 ≤ l.length
            · rw [if_pos q4, if_neg (fun h => by have := ((k4 q4).1 h).1; omega)]
            · rw [if_neg q4]
          · rw [if_neg q3]
        · unfold Lib.decodeN
          rw [if_neg a1, if_pos a2, if_neg c2]
    · have n2 : ∀ hl : 2 ≤ l.length, ¬ okN l 2 = true := fun hl h => a2 ⟨((k2 hl).1 h).1, by omega, ((k2 hl).1 h).2.1⟩
      by_cases a3 : b0 / 16 = 14 ∧ (1 < l.length ∧ b1 / 64 = 2) ∧ (2 < l.length ∧ b2 / 64 = 2)
      · by_cases c3 : b0 % 16 * 4096 + b1 % 64 * 64 + b2 % 64 ≥ 2048 ∧ (b0 % 16 * 4096 + b1 % 64 * 64 + b2 % 64 < 55296 ∨ (57344 ≤ b0 % 16 * 4096 + b1 % 64 * 64 + b2 % 64 ∧ b0 % 16 * 4096 + b1 % 64 * 64 + b2 % 64 ≤ 1114111))
        · have ho := (k3 (by omega)).2 ⟨a3.1, a3.2.1.2, a3.2.2.2, c3.1, by omega⟩
          refine fin (valN l 3) _ ?_ (.inl ⟨by omega, ?_, ?_⟩)
          · unfold fstOf
            simp only [fstF]
            rw [if_pos h0, if_neg n1, if_pos (by omega), if_neg (n2 (by omega)), if_pos (by omega), if_pos ho]
          · unfold Lib.decodeN
            rw [if_neg a1, if_neg a2, if_pos a3, if_pos c3, v3]
            dsimp only
            omega
          · unfold Lib.decodeN
            rw [if_neg a1, if_neg a2, if_pos a3, if_pos c3, okN_len ho]
        · have n3 : ¬ okN l 3 = true := fun h => by have := (k3 (by omega)).1 h; omega
          refine fin (-1) _ ?_ (.inr ⟨rfl, ?_⟩)
          · unfold fstOf
            simp only [fstF]
            rw [if_pos h0, if_neg n1, if_pos (by omega), if_neg (n2 (by omega)), if_pos (by omega), if_neg n3]
            by_cases q4 : 1 + 1 + 1 + 1 ≤ l.length
            · rw [if_pos q4, if_neg (fun h => by have := ((k4 q4).1 h).1; omega)]
            · rw [if_neg q4]
          · unfold Lib.decodeN
            rw [if_neg a1, if_neg a2, if_pos a3, if_neg c3]
      · have n3 : ∀ hl : 3 ≤ l.length, ¬ okN l 3 = true := fun hl h => by have := (k3 hl).1 h; omega
        by_cases a4 : b0 / 8 = 30 ∧ (1 < l.length ∧ b1 / 64 = 2) ∧ (2 < l.length ∧ b2 / 64 = 2) ∧ (3 < l.length ∧ b3 / 64 = 2)
        · by_cases c4 : b0 % 8 * 262144 + b1 % 64 * 4096 + b2 % 64 * 64 + b3 % 64 ≥ 65536 ∧ (b0 % 8 * 262144 + b1 % 64 * 4096 + b2 % 64 * 64 + b3 % 64 < 55296 ∨ (57344 ≤ b0 % 8 * 262144 + b1 % 64 * 4096 + b2 % 64 * 64 + b3 % 64 ∧ b0 % 8 * 262144 + b1 % 64 * 4096 + b2 % 64 * 64 + b3 % 64 ≤ 1114111))
          · have ho := (k4 (by omega)).2 ⟨a4.1, a4.2.1.2, a4.2.2.1.2, a4.2.2.2.2, c4.1, by omega⟩
            refine fin (valN l 4) _ ?_ (.inl ⟨by omega, ?_, ?_⟩)
            · unfold fstOf
              simp only [fstF]
              rw [if_pos h0, if_neg n1, if_pos (by omega), if_neg (n2 (by omega)), if_pos (by omega), if_neg (n3 (by omega)), if_pos (by omega), if_pos ho]
            · unfold Lib.decodeN
              rw [if_neg a1, if_neg a2, if_neg a3, if_pos a4, if_pos c4, v4]
              dsimp only
              omega
            · unfold Lib.decodeN
              rw [if_neg a1, if_neg a2, if_neg a3, if_pos a4, if_pos c4, okN_len ho]
          · have n4 : ¬ okN l 4 = true := fun h => by have := (k4 (by omega)).1 h; omega
            refine fin (-1) _ ?_ (.inr ⟨rfl, ?_⟩)
            · unfold fstOf
              simp only [fstF]
              rw [if_pos h0, if_neg n1, if_pos (by omega), if_neg (n2 (by omega)), if_pos (by omega), if_neg (n3 (by omega)), if_pos (by omega), if_neg n4]
            · unfold Lib.decodeN
              rw [if_neg a1, if_neg a2, if_neg a3, if_pos a4, if_neg c4]
        · refine fin (-1) _ ?_ (.inr ⟨rfl, ?_⟩)
          · unfold fstOf
            simp only [fstF]
            rw [if_pos h0, if_neg n1]
            by_cases q2 : 1 + 1 ≤ l.length
            · rw [if_pos q2, if_neg (n2 q2)]
              by_cases q3 : 1 + 1 + 1 ≤ l.length
              · rw [if_pos q3, if_neg (n3 q3)]
                by_cases q4 : 1 + 1 + 1 + 1 ≤ l.length
                · rw [if_pos q4, if_neg (fun h => by have := (k4 q4).1 h; omega)]
                · rw [if_neg q4]
              · rw [if_neg q3]
            · rw [if_neg q2]
          · unfold Lib.decodeN
            rw [if_neg a1, if_neg a2, if_neg a3, if_neg a4]
theorem dec_core (l : List Int) (h0 : 0 < l.length) (hb : ∀ x ∈ l, 0 ≤ x ∧ x < 256) : chr l = (((decL l).1 : Nat) : Int) ∧ adv l = (decL l).2 := by
  have nb : ∀ i : Nat, 0 ≤ rd l (i : Int) ∧ rd l (i : Int) < 256 := fun i => by
    by_cases hi : i < l.length
    · rw [rd_get l i hi]
      exact hb _ (List.getElem_mem hi)
    · rw [rd_nat, List.getD_eq_getElem?_getD, List.getElem?_eq_none (by omega)]
      simp
  have n0 := nb 0
  have n1 := nb 1
  have n2 := nb 2
  have n3 := nb 3
  have z0 : 0 ≤ rd l 0 ∧ rd l 0 < 256 := n0
  have z1 : 0 ≤ rd l 1 ∧ rd l 1 < 256 := n1
  have z2 : 0 ≤ rd l 2 ∧ rd l 2 < 256 := n2
  have z3 : 0 ≤ rd l 3 ∧ rd l 3 < 256 := n3
  exact dec_nums (show rd l 0 = (((rd l 0).toNat : Nat) : Int) by omega) (by omega) (show rd l 1 = (((rd l 1).toNat : Nat) : Int) by omega) (by omega) (show rd l 2 = (((rd l 2).toNat : Nat) : Int) by omega) (by omega) (show rd l 3 = (((rd l 3).toNat : Nat) : Int) by omega) (by omega) h0
end Go.Proofs.YtgcdhjgdlnpknaaDoor.P
