/- Proved: what the functions of utf answer, in the document's words: characters, bytes, how they are read, and written; each under its own written conditions. -/
import Derived.Test.YtgcdhjgdlnpknaaDoorPUtfD
import Derived.Test.YtgcdhjgdlnpknaaDoorPInts
import Derived.Test.YtgcdhjgdlnpknaaDoorPEv
import Derived.Test.YtgcdhjgdlnpknaaDoorSDecU
import Derived.Test.YtgcdhjgdlnpknaaDoorSValid
import Derived.Test.YtgcdhjgdlnpknaaDoorPx3
import Derived.Test.YtgcdhjgdlnpknaaDoorPx2
import Derived.Test.YtgcdhjgdlnpknaaDoorPx5
import Derived.Test.YtgcdhjgdlnpknaaDoorPx4
namespace Go.Proofs.YtgcdhjgdlnpknaaDoor.P
open Go.RowKit Go.Proofs.YtgcdhjgdlnpknaaDoorW.PrintWords Go.Proofs.YtgcdhjgdlnpknaaDoorW.PrintLast
set_option linter.unusedVariables false
set_option linter.unusedSimpArgs false

theorem alive01 : Ev (fun k => ductuslaw01_alive.f k) true := Ev.of ductuslaw01_alive.mono (k := 100) (by decide +kernel)
theorem ints_ev (a : List Int) (h : a.length < 9223372036854775807) : Ev (fun k => ductusref01_Ints.f k a a) true := ⟨a.length + 1, fun k hk => ints_same k a h (by omega)⟩
-- reading
theorem get_str (l : List Int) (hb : bytesB l) (i : Nat) : ((strOfNums l).get! i).toNat = (rd l (i : Int)).toNat := by
  have h1 : (strOfNums l).get! i = (l.map fun n => UInt8.ofNat n.toNat).getD i 0 := by
    show (strOfNums l).data[i]! = _
    rw [getElem!_def]
    unfold strOfNums
    simp only [List.getElem?_toArray]
    rw [List.getD_eq_getElem?_getD]
    cases (List.map (fun n => UInt8.ofNat n.toNat) l)[i]? with
    | none => rfl
    | some x => rfl
  rw [h1]
  by_cases hi : i < l.length
  · have := bytes_rd hb i
    rw [List.getD_eq_getElem?_getD, List.getElem?_eq_getElem (by simpa using hi), Option.getD_some, List.getElem_map, ← rd_get l i hi, UInt8.toNat_ofNat']
    omega
  · rw [List.getD_eq_getElem?_getD, List.getElem?_eq_none (by simpa using hi), rd_nat, List.getD_eq_getElem?_getD, List.getElem?_eq_none (by omega)]
    rfl
theorem decode_str (l : List Int) (hb : bytesB l) (i : Nat) (hi : i ≤ l.length) : Utf8.decode (strOfNums l) i = decL (l.drop i) := by
  rw [Lib.decode_at, strOfNums_size, get_str l hb, get_str l hb, get_str l hb, get_str l hb]
  unfold decL
  rw [List.length_drop]
  have e0 : rd (l.drop i) 0 = rd l (i : Int) := rd_drop l i 0
  have e1 : rd (l.drop i) 1 = rd l ((i + 1 : Nat) : Int) := rd_drop l i 1
  have e2 : rd (l.drop i) 2 = rd l ((i + 2 : Nat) : Int) := rd_drop l i 2
  have e3 : rd (l.drop i) 3 = rd l ((i + 3 : Nat) : Int) := rd_drop l i 3
  rw [e0, e1, e2, e3]
theorem dec_small (n b0 b1 b2 b3 : Nat) (h0 : b0 < 256) : (Lib.decodeN n b0 b1 b2 b3).1 ≤ 1114111 := by
  unfold Lib.decodeN
  repeat' split
  all_goals simp only []
  all_goals omega
theorem decU_loop (l : List Int) (hl : l.length ≤ 4000) (hb : bytesB l) (d : Nat) : ∀ (i : Nat) (cs at_ : List Int), i ≤ l.length → l.length - i ≤ d → cs.length ≤ i → at_.length ≤ i → ∃ K, ∀ k, K ≤ k →
    utf_Decode.l0 k (strOfNums l) i cs at_ = some (cs ++ (decF d (l.drop i)).map Prod.fst, at_ ++ startsAt i (decF d (l.drop i))) := by
  induction d with
  | zero =>
    intro i cs at_ hi hd h1 h2
    refine ⟨1, fun k hk => ?_⟩
    obtain ⟨k, rfl⟩ : ∃ m, k = m + 1 := ⟨k - 1, by omega⟩
    simp only [utf_Decode.l0]
    rw [strOfNums_size, if_neg (by omega), if_pos (by omega)]
    simp [decF, startsAt]
  | succ d ih =>
    intro i cs at_ hi hd h1 h2
    have hdl : (l.drop i).length = l.length - i := List.length_drop
    by_cases h : i < l.length
    · have ha := adv_pos (l.drop i) (by omega)
      obtain ⟨q1, q2⟩ := dec_core (l.drop i) (by omega) (bytes_drop hb i)
      have q3 : (decL (l.drop i)).1 ≤ 1114111 := dec_small _ _ _ _ _ (by have := bytes_rd (bytes_drop hb i) 0; have : 0 ≤ rd (l.drop i) 0 ∧ rd (l.drop i) 0 < 256 := this; omega)
      have hw : wrap64 (((decL (l.drop i)).1 : Nat) : Int) = (((decL (l.drop i)).1 : Nat) : Int) := wrap_id (by omega) (by omega)
      have e : decF (d + 1) (l.drop i) = (chr (l.drop i), adv (l.drop i)) :: decF d (l.drop (i + adv (l.drop i))) := by
        simp only [decF]
        rw [if_neg (by omega), List.drop_drop]
      obtain ⟨K, hK⟩ := ih (i + adv (l.drop i)) (cs ++ [chr (l.drop i)]) (at_ ++ [(i : Int)]) (by omega) (by omega) (by simp; omega) (by simp; omega)
      refine ⟨K + 1, fun k hk => ?_⟩
      obtain ⟨k, rfl⟩ : ∃ m, k = m + 1 := ⟨k - 1, by omega⟩
      simp only [utf_Decode.l0]
      rw [strOfNums_size, if_pos h, if_pos (by omega), if_pos (by omega), decode_str l hb i hi, hw, ← q1, ← q2, hK k (by omega), e]
      simp [startsAt]
    · have e : decF (d + 1) (l.drop i) = [] := by
        simp only [decF]
        rw [if_pos (by omega)]
      refine ⟨1, fun k hk => ?_⟩
      obtain ⟨k, rfl⟩ : ∃ m, k = m + 1 := ⟨k - 1, by omega⟩
      simp only [utf_Decode.l0]
      rw [strOfNums_size, if_neg h, if_pos (by omega), e]
      simp [startsAt]
/-- What bytes are read as. -/
def decM (l : List Int) : List Int × List Int × Int := if l.length ≤ 4000 then (decC l, decA l, 0) else ([], [], 2)
theorem decU_ev (l : List Int) (hb : bytesB l) : Ev (fun k => utf_Decode.f k l) (decM l) := by
  unfold decM
  by_cases h : l.length ≤ 4000
  · rw [if_pos h]
    obtain ⟨K, hK⟩ := decU_loop l h hb l.length 0 [] [] (by omega) (by omega) (by simp) (by simp)
    refine ⟨K, fun k hk => ?_⟩
    show utf_Decode.f k l = _
    unfold utf_Decode.f
    rw [if_neg (by omega), hK k hk, Option.bind_some]
    unfold decC decA
    simp
  · rw [if_neg h]
    refine ⟨0, fun k _ => ?_⟩
    show utf_Decode.f k l = _
    unfold utf_Decode.f
    rw [if_pos (by omega)]
theorem refDec_ev (l : List Int) : Ev (fun k => ductusref01_Decode.f k l) (decM l) := by
  unfold decM
  by_cases h : l.length ≤ 4000
  · rw [if_pos h]
    exact ⟨l.length + 61, fun k hk => decode_eq k l (by omega) h⟩
  · rw [if_neg h]
    refine ⟨0, fun k _ => ?_⟩
    show ductusref01_Decode.f k l = _
    unfold ductusref01_Decode.f
    rw [if_pos (by omega)]
-- are they just characters' bytes?
theorem bad_iff (l : List Int) (h0 : 0 < l.length) (hb : bytesB l) : bad (decL l) = true ↔ fstOf l < 0 := by
  obtain ⟨q1, q2⟩ := dec_core l h0 hb
  unfold bad
  rw [decide_eq_true_eq]
  by_cases h : fstOf l < 0
  · have e1 : chr l = 65533 := by unfold chr; rw [if_pos h]
    have e2 : adv l = 1 := by unfold adv; rw [if_pos h]
    constructor
    · exact fun _ => h
    · intro _
      omega
  · constructor
    · rintro ⟨a1, a2⟩
      have e1 : chr l = fstOf l := by unfold chr; rw [if_neg h]
      have e2 : adv l = (bytesC (fstOf l)).length := by unfold adv; rw [if_neg h]
      have e3 : fstOf l = 65533 := by omega
      rw [e3] at e2
      have : (bytesC 65533).length = 3 := by decide +kernel
      omega
    · exact fun x => (h x).elim
theorem validR_loop (n : Nat) : ∀ l : List Int, l.length ≤ n → l.length ≤ 4000 → bytesB l → ∃ K, ∀ k, K ≤ k → ductusref01_Valid.l0 k l = some (validL l) := by
  induction n with
  | zero =>
    intro l hn hl hb
    obtain rfl : l = [] := List.eq_nil_of_length_eq_zero (by omega)
    refine ⟨1, fun k hk => ?_⟩
    obtain ⟨k, rfl⟩ : ∃ m, k = m + 1 := ⟨k - 1, by omega⟩
    simp only [ductusref01_Valid.l0]
    rw [if_neg (by simp)]
    rfl
  | succ n ih =>
    intro l hn hl hb
    by_cases h0 : 0 < l.length
    · have hba := bad_iff l h0 hb
      obtain ⟨q1, q2⟩ := dec_core l h0 hb
      have ha := adv_pos l h0
      by_cases h : fstOf l < 0
      · refine ⟨52, fun k hk => ?_⟩
        obtain ⟨k, rfl⟩ : ∃ m, k = m + 1 := ⟨k - 1, by omega⟩
        simp only [ductusref01_Valid.l0]
        rw [if_pos (by omega), first_eq k (by omega) l h0 hl, Option.bind_some, if_pos h, validL_step l h0, if_pos (hba.2 h)]
      · have e2 : adv l = (bytesC (fstOf l)).length := by unfold adv; rw [if_neg h]
        obtain ⟨K, hK⟩ := ih (l.drop (adv l)) (by rw [List.length_drop]; omega) (by rw [List.length_drop]; omega) (bytes_drop hb _)
        refine ⟨K + 52, fun k hk => ?_⟩
        obtain ⟨k, rfl⟩ : ∃ m, k = m + 1 := ⟨k - 1, by omega⟩
        simp only [ductusref01_Valid.l0]
        rw [if_pos (by omega), first_eq k (by omega) l h0 hl, Option.bind_some, if_neg h, size_eq, Option.bind_some, ← e2, if_pos (by omega), if_pos (by omega), Int.toNat_natCast, hK k (by omega), validL_step l h0, if_neg (fun x => h (hba.1 x)), q2]
    · obtain rfl : l = [] := List.eq_nil_of_length_eq_zero (by omega)
      refine ⟨1, fun k hk => ?_⟩
      obtain ⟨k, rfl⟩ : ∃ m, k = m + 1 := ⟨k - 1, by omega⟩
      simp only [ductusref01_Valid.l0]
      rw [if_neg (by simp)]
      rfl
def validM (l : List Int) : Bool := if l.length ≤ 4000 then validL l else false
theorem validR_ev (l : List Int) (hb : bytesB l) : Ev (fun k => ductusref01_Valid.f k l) (validM l) := by
  unfold validM
  by_cases h : l.length ≤ 4000
  · rw [if_pos h]
    obtain ⟨K, hK⟩ := validR_loop l.length l (Nat.le_refl _) h hb
    refine ⟨K, fun k hk => ?_⟩
    show ductusref01_Valid.f k l = _
    unfold ductusref01_Valid.f
    rw [if_neg (by omega)]
    exact hK k hk
  · rw [if_neg h]
    refine ⟨0, fun k _ => ?_⟩
    show ductusref01_Valid.f k l = _
    unfold ductusref01_Valid.f
    rw [if_pos (by omega)]
theorem validU (l : List Int) (hb : bytesB l) : utf_Valid.f l = some (validM l) := by
  unfold utf_Valid.f validM utf8_Valid.f
  by_cases h : l.length ≤ 4000
  · rw [if_pos (by omega), if_pos h, if_pos hb]
    rfl
  · rw [if_neg (by omega), if_neg h]
theorem offset_same (l : List Int) (i : Int) : ductusref01_Offset.f l i = utf_Offset.f l i := rfl
theorem offset_some (l : List Int) (i : Int) : ∃ r, utf_Offset.f l i = some r := by
  unfold utf_Offset.f
  by_cases h0 : i < 0
  · exact ⟨_, by rw [if_pos h0]⟩
  · rw [if_neg h0]
    by_cases h1 : i ≥ (l.length : Int)
    · exact ⟨_, by rw [if_pos h1]⟩
    · rw [if_neg h1, if_pos (by omega), if_pos (by omega)]
      exact ⟨_, rfl⟩
-- characters
theorem vrune_ev (c : Int) : Ev (fun k => utf8_ValidRune.f k c) (decide (RightC c)) := by
  have hj : ∀ b, (b = true → 0 ≤ c ∧ c < 55296) → (b = false → ¬ (0 ≤ c ∧ c < 55296)) → Ev (fun k => utf8_ValidRune.j0 k c b) (decide (RightC c)) := by
    intro b h1 h2
    refine ev_one fun k => ?_
    simp only [utf8_ValidRune.j0]
    cases b with
    | true =>
      have := h1 rfl
      rw [if_pos rfl, decide_eq_true (show RightC c from ⟨by omega, by omega, .inl (by omega)⟩)]
    | false =>
      have := h2 rfl
      rw [if_neg (by simp)]
      by_cases q1 : 57343 < c
      · rw [if_pos q1]
        by_cases q2 : c ≤ 1114111
        · rw [if_pos q2, decide_eq_true (show RightC c from ⟨by omega, q2, .inr q1⟩)]
        · rw [if_neg q2, decide_eq_false (show ¬ RightC c from fun h => q2 h.2.1)]
      · rw [if_neg q1, decide_eq_false (show ¬ RightC c from fun h => by have := h.1; have := h.2.2; omega)]
  by_cases h0 : 0 ≤ c
  · by_cases h1 : c < 55296
    · refine ev_same (hj true (fun _ => ⟨h0, h1⟩) (fun h => by cases h)) fun k hk => ?_
      unfold utf8_ValidRune.f
      rw [if_pos h0, decide_eq_true h1]
      exact hk
    · refine ev_same (hj false (fun h => by cases h) (fun _ h => h1 h.2)) fun k hk => ?_
      unfold utf8_ValidRune.f
      rw [if_pos h0, decide_eq_false h1]
      exact hk
  · refine ev_same (hj false (fun h => by cases h) (fun _ h => h0 h.1)) fun k hk => ?_
    unfold utf8_ValidRune.f
    rw [if_neg h0]
    exact hk
theorem wrap32_id {x : Int} (h0 : -2147483648 ≤ x) (h1 : x ≤ 2147483647) : wrap32 x = x := by
  unfold wrap32
  omega
theorem rightU_ev (c : Int) : Ev (fun k => utf_Right.f k c) (decide (RightC c)) := by
  by_cases h0 : c ≥ 0
  · by_cases h1 : c ≤ 1114111
    · have hw : wrap32 c = c := wrap32_id (by omega) (by omega)
      refine ev_same (vrune_ev c) fun k hk => ?_
      unfold utf_Right.f
      rw [if_pos h0, if_pos h1, hw, hk, Option.bind_some]
    · refine ev_now fun k => ?_
      unfold utf_Right.f
      rw [if_pos h0, if_neg h1, decide_eq_false (show ¬ RightC c from fun h => h1 h.2.1)]
  · refine ev_now fun k => ?_
    unfold utf_Right.f
    rw [if_neg h0, decide_eq_false (show ¬ RightC c from fun h => h0 h.1)]
theorem rightR (c : Int) : ductusref01_Right.f c = some (decide (RightC c)) := right_eq c
theorem rlen_ev (c : Int) (h : RightC c) : Ev (fun k => utf8_RuneLen.f k c) ((bytesC c).length : Int) := by
  have h0 := h.1
  have h1 := h.2.1
  have h2 := h.2.2
  rw [bytesC_len, if_pos h]
  have hj : Ev (fun k => utf8_RuneLen.j0 k c false) (if c < 65536 then (3 : Int) else 4) := by
    refine ev_one fun k => ?_
    simp only [utf8_RuneLen.j0]
    rw [if_neg (by simp)]
    by_cases q : c < 65536
    · rw [if_pos (by omega), if_pos q]
    · rw [if_neg (by omega), if_pos h1, if_neg q]
  by_cases q1 : c < 128
  · refine ev_now fun k => ?_
    unfold utf8_RuneLen.f
    rw [if_neg (by omega), if_pos (by omega), if_pos q1]
    rfl
  · by_cases q2 : c < 2048
    · refine ev_now fun k => ?_
      unfold utf8_RuneLen.f
      rw [if_neg (by omega), if_neg (by omega), if_pos (by omega), if_neg q1, if_pos q2]
      rfl
    · have e : (((if c < 65536 then 3 else 4 : Nat)) : Int) = (if c < 65536 then (3 : Int) else 4) := by split <;> rfl
      refine ev_same hj fun k hk => ?_
      unfold utf8_RuneLen.f
      rw [if_neg (by omega), if_neg (by omega), if_neg (by omega), if_neg q1, if_neg q2, e]
      by_cases q3 : 55296 ≤ c
      · rw [if_pos q3, decide_eq_false (show ¬ c ≤ 57343 by omega)]
        exact hk
      · rw [if_neg q3]
        exact hk
theorem bytesC_no {c : Int} (h : ¬ RightC c) : bytesC c = [] := by rw [bytesC_eq, if_neg h]
theorem sizeU_ev (c : Int) : Ev (fun k => utf_Size.f k c) ((bytesC c).length : Int) := by
  by_cases h : RightC c
  · have hw : wrap32 c = c := wrap32_id (by have := h.1; omega) (by have := h.2.1; omega)
    refine ev_same2 (rightU_ev c) (rlen_ev c h) fun k hk hk2 => ?_
    unfold utf_Size.f
    rw [hk, decide_eq_true h, Option.bind_some, if_pos rfl, hw, hk2, Option.bind_some]
  · refine ev_same (rightU_ev c) fun k hk => ?_
    unfold utf_Size.f
    rw [hk, decide_eq_false h, Option.bind_some, if_neg (by simp), bytesC_no h]
    rfl
-- writing
theorem or_a (x : Int) (h0 : 0 ≤ x) (h1 : x < 64) : Go.bits .or .u8 128 x = 128 + x := by
  have : ∀ j : Fin 64, Go.bits .or .u8 128 ((j.val : Nat) : Int) = 128 + ((j.val : Nat) : Int) := by decide +kernel
  have := this ⟨x.toNat, by omega⟩
  simpa [Int.toNat_of_nonneg h0] using this
theorem or_b (x : Int) (h0 : 0 ≤ x) (h1 : x < 32) : Go.bits .or .u8 192 x = 192 + x := by
  have : ∀ j : Fin 32, Go.bits .or .u8 192 ((j.val : Nat) : Int) = 192 + ((j.val : Nat) : Int) := by decide +kernel
  have := this ⟨x.toNat, by omega⟩
  simpa [Int.toNat_of_nonneg h0] using this
theorem or_c (x : Int) (h0 : 0 ≤ x) (h1 : x < 16) : Go.bits .or .u8 224 x = 224 + x := by
  have : ∀ j : Fin 16, Go.bits .or .u8 224 ((j.val : Nat) : Int) = 224 + ((j.val : Nat) : Int) := by decide +kernel
  have := this ⟨x.toNat, by omega⟩
  simpa [Int.toNat_of_nonneg h0] using this
theorem or_d (x : Int) (h0 : 0 ≤ x) (h1 : x < 8) : Go.bits .or .u8 240 x = 240 + x := by
  have : ∀ j : Fin 8, Go.bits .or .u8 240 ((j.val : Nat) : Int) = 240 + ((j.val : Nat) : Int) := by decide +kernel
  have := this ⟨x.toNat, by omega⟩
  simpa [Int.toNat_of_nonneg h0] using this
theorem and_a (x : Int) (h0 : 0 ≤ x) (h1 : x < 256) : Go.bits .and .u8 x 63 = x % 64 := by
  have : ∀ j : Fin 256, Go.bits .and .u8 ((j.val : Nat) : Int) 63 = ((j.val : Nat) : Int) % 64 := by decide +kernel
  have := this ⟨x.toNat, by omega⟩
  simpa [Int.toNat_of_nonneg h0] using this
theorem low_a (x : Int) : Go.bits .or .u8 128 (Go.bits .and .u8 (x % 256) 63) = 128 + x % 64 := by
  rw [and_a (x % 256) (by omega) (by omega), or_a _ (by omega) (by omega)]
  omega
theorem append_ev (l : List Int) (c : Int) (h : RightC c) (hl : l.length ≤ 5000) : Ev (fun k => utf8_AppendRune.f k l c) (l ++ bytesC c) := by
  have h0 := h.1
  have h1 := h.2.1
  have h2 := h.2.2
  have m0 : c % 4294967296 = c := Int.emod_eq_of_lt h0 (by omega)
  by_cases q1 : c < 128
  · refine ev_now fun k => ?_
    have e : c % 256 = c := Int.emod_eq_of_lt h0 (by omega)
    unfold utf8_AppendRune.f
    rw [m0, if_pos (by omega), if_pos (by omega), bytesC_eq, if_pos h, if_pos q1, e]
  · have hn : Ev (fun k => utf8_appendRuneNonASCII.f k l c) (l ++ bytesC c) := by
      by_cases q2 : c < 2048
      · refine ev_now fun k => ?_
        have e : c / 64 % 256 = c / 64 := Int.emod_eq_of_lt (by omega) (by omega)
        unfold utf8_appendRuneNonASCII.f
        rw [m0, if_pos (by omega), Option.bind_some, e, or_b (c / 64) (by omega) (by omega), if_pos (by simp only [List.length_cons, List.length_nil]; omega), bytesC_eq, if_pos h, if_neg q1, if_pos q2]
      · have ht : c < 65536 → Ev (fun k => utf8_appendRuneNonASCII.j0 k l c c true) (l ++ bytesC c) := by
          intro q3
          refine ev_one fun k => ?_
          have e : c / 4096 % 256 = c / 4096 := Int.emod_eq_of_lt (by omega) (by omega)
          simp only [utf8_appendRuneNonASCII.j0]
          rw [if_pos trivial, Option.bind_some, e, or_c (c / 4096) (by omega) (by omega), if_pos (by simp only [List.length_cons, List.length_nil]; omega), bytesC_eq, if_pos h, if_neg q1, if_neg q2, if_pos q3]
        have hf : ¬ c < 65536 → Ev (fun k => utf8_appendRuneNonASCII.j0 k l c c false) (l ++ bytesC c) := by
          intro q3
          refine ev_one fun k => ?_
          have e : c / 262144 % 256 = c / 262144 := Int.emod_eq_of_lt (by omega) (by omega)
          simp only [utf8_appendRuneNonASCII.j0]
          rw [if_neg (by simp), if_pos (by omega), if_pos h1, Option.bind_some, e, or_d (c / 262144) (by omega) (by omega), if_pos (by simp only [List.length_cons, List.length_nil]; omega), bytesC_eq, if_pos h, if_neg q1, if_neg q2, if_neg q3]
        by_cases q4 : c < 55296
        · refine ev_same (ht (by omega)) fun k hk => ?_
          unfold utf8_appendRuneNonASCII.f
          rw [m0, if_neg (by omega), if_pos q4, decide_eq_true q4]
          exact hk
        · by_cases q3 : c < 65536
          · refine ev_same (ht q3) fun k hk => ?_
            unfold utf8_appendRuneNonASCII.f
            rw [m0, if_neg (by omega), if_neg q4, if_pos (by omega), decide_eq_true (show c ≤ 65535 by omega)]
            exact hk
          · refine ev_same (hf q3) fun k hk => ?_
            unfold utf8_appendRuneNonASCII.f
            rw [m0, if_neg (by omega), if_neg q4, if_pos (by omega), decide_eq_false (show ¬ c ≤ 65535 by omega)]
            exact hk
    refine ev_same hn fun k hk => ?_
    unfold utf8_AppendRune.f
    rw [m0, if_neg (by omega), hk, Option.bind_some]
def encB : List Int → List Int
  | [] => []
  | c :: l => bytesC c ++ encB l
theorem encB_app (a b : List Int) : encB (a ++ b) = encB a ++ encB b := by
  induction a with
  | nil => rfl
  | cons c a ih => simp [encB, ih]
theorem encB_bytes (l : List Int) : bytesB (encB l) := by
  induction l with
  | nil => intro x hx; simp [encB] at hx
  | cons c l ih =>
    intro x hx
    rcases List.mem_append.1 hx with h | h
    · exact bytesC_bytes c x h
    · exact ih x h
def allR (l : List Int) : Prop := ∀ c ∈ l, RightC c
instance (l : List Int) : Decidable (allR l) := inferInstanceAs (Decidable (∀ c ∈ l, RightC c))
/-- What characters are written as. -/
def encM (l : List Int) : List Int × Int := if allR l then (if (encB l).length ≤ 4000 then (encB l, 0) else ([], 2)) else ([], 1)
theorem idx_loop (l : List Int) (hl : l.length < 9223372036854775807) (d : Nat) : ∀ i : Nat, i + d = l.length → ∃ r, Ev (fun k => slices_IndexFunc_int_utf_Encode_1.l0 k l (l.length : Int) (i : Int)) r ∧ (r ≥ 0 ↔ ¬ allR (l.drop i)) := by
  induction d with
  | zero =>
    intro i hi
    refine ⟨-1, ev_one fun k => ?_, ?_⟩
    · simp only [slices_IndexFunc_int_utf_Encode_1.l0]
      rw [if_neg (by omega)]
    · rw [List.drop_eq_nil_of_le (by omega)]
      simp [allR]
  | succ d ih =>
    intro i hi
    have hw : wrap64 ((i : Int) + 1) = ((i + 1 : Nat) : Int) := wrap_succ i (by omega)
    have he : Ev (fun k => utf_Encode_1.f k (rd l (i : Int))) (!decide (RightC (rd l (i : Int)))) := ev_same (rightU_ev _) fun k hk => by
      unfold utf_Encode_1.f
      rw [hk]
      rfl
    by_cases h : RightC (rd l (i : Int))
    · obtain ⟨r, hr, hi2⟩ := ih (i + 1) (by omega)
      refine ⟨r, ev_step2 he hr fun k hk hk2 => ?_, ?_⟩
      · simp only [slices_IndexFunc_int_utf_Encode_1.l0]
        rw [if_pos (by omega), if_pos (by omega), if_pos (by omega), hk, decide_eq_true h, Option.bind_some, if_neg (by simp), hw]
        exact hk2
      · rw [hi2, drop_cons l i (by omega)]
        simp [allR, h]
    · refine ⟨(i : Int), ev_step he fun k hk => ?_, ?_⟩
      · simp only [slices_IndexFunc_int_utf_Encode_1.l0]
        rw [if_pos (by omega), if_pos (by omega), if_pos (by omega), hk, decide_eq_false h, Option.bind_some, if_pos (by rfl)]
      · rw [drop_cons l i (by omega)]
        simp [allR, h]
theorem contains_ev (l : List Int) (hl : l.length < 9223372036854775807) : Ev (fun k => slices_ContainsFunc_int_utf_Encode_1.f k l) (!decide (allR l)) := by
  obtain ⟨r, hr, hi⟩ := idx_loop l hl l.length 0 (by omega)
  rw [List.drop_zero] at hi
  refine ev_same hr fun k hk => ?_
  unfold slices_ContainsFunc_int_utf_Encode_1.f slices_IndexFunc_int_utf_Encode_1.f
  have hk : slices_IndexFunc_int_utf_Encode_1.l0 k l (l.length : Int) 0 = some r := hk
  rw [hk, Option.bind_some]
  by_cases h : allR l
  · rw [decide_eq_true h, decide_eq_false (show ¬ r ≥ 0 from fun x => hi.1 x h)]
    rfl
  · rw [decide_eq_false h, decide_eq_true (show r ≥ 0 from hi.2 h)]
    rfl
theorem allR_at {l : List Int} (h : allR l) (i : Nat) (hi : i < l.length) : RightC (rd l (i : Int)) := by
  rw [rd_get l i hi]
  exact h _ (List.getElem_mem hi)
theorem encU_loop (l : List Int) (hl : l.length ≤ 5000) (hr : allR l) (d : Nat) : ∀ (i : Nat) (b : List Int), i + d = l.length → b.length ≤ 4000 → Ev (fun k => utf_Encode.l0 k b l (l.length : Int) (i : Int)) (if (b ++ encB (l.drop i)).length ≤ 4000 then (b ++ encB (l.drop i), 0) else ([], 2)) := by
  induction d with
  | zero =>
    intro i b hi hb
    refine ev_one fun k => ?_
    simp only [utf_Encode.l0]
    rw [if_neg (by omega), List.drop_eq_nil_of_le (by omega)]
    simp [encB, hb]
  | succ d ih =>
    intro i b hi hb
    have hw : wrap64 ((i : Int) + 1) = ((i + 1 : Nat) : Int) := wrap_succ i (by omega)
    have hc := allR_at hr i (by omega)
    have hw2 : wrap32 (rd l (i : Int)) = rd l (i : Int) := wrap32_id (by have := hc.1; omega) (by have := hc.2.1; omega)
    have ha := append_ev b (rd l (i : Int)) hc (by omega)
    have eb : b ++ encB (l.drop i) = (b ++ bytesC (rd l (i : Int))) ++ encB (l.drop (i + 1)) := by
      rw [drop_cons l i (by omega), List.append_assoc]
      rfl
    rw [eb]
    by_cases h : (b ++ bytesC (rd l (i : Int))).length ≤ 4000
    · refine ev_step2 ha (ih (i + 1) (b ++ bytesC (rd l (i : Int))) (by omega) h) fun k hk hk2 => ?_
      simp only [utf_Encode.l0]
      rw [if_pos (by omega), if_pos (by omega), if_pos (by omega), hw2, hk, Option.bind_some, if_neg (by omega), hw]
      exact hk2
    · refine ev_step ha fun k hk => ?_
      simp only [utf_Encode.l0]
      rw [if_pos (by omega), if_pos (by omega), if_pos (by omega), hw2, hk, Option.bind_some, if_pos (by omega), if_neg (by rw [List.length_append]; omega)]
theorem encU_ev (l : List Int) (hl : l.length ≤ 5000) : Ev (fun k => utf_Encode.f k l) (encM l) := by
  unfold encM
  by_cases h : allR l
  · have := encU_loop l hl h l.length 0 [] (by omega) (by simp)
    rw [List.drop_zero, List.nil_append] at this
    rw [if_pos h]
    refine ev_same2 (contains_ev l (by omega)) this fun k hk hk2 => ?_
    unfold utf_Encode.f
    rw [hk, decide_eq_true h, Option.bind_some, if_neg (by simp)]
    exact hk2
  · rw [if_neg h]
    refine ev_same (contains_ev l (by omega)) fun k hk => ?_
    unfold utf_Encode.f
    rw [hk, decide_eq_false h, Option.bind_some, if_pos (by rfl)]
theorem encR_l1 (l : List Int) (hl : l.length ≤ 5000) (d : Nat) : ∀ (i : Nat) (b : List Int), i + d = l.length → b.length ≤ 4000 → Ev (fun k => ductusref01_Encode.l1 k l b (i : Int)) (if (b ++ encB (l.drop i)).length ≤ 4000 then (b ++ encB (l.drop i), 0) else ([], 2)) := by
  induction d with
  | zero =>
    intro i b hi hb
    refine ev_one fun k => ?_
    simp only [ductusref01_Encode.l1]
    rw [if_neg (by omega), List.drop_eq_nil_of_le (by omega)]
    simp [encB, hb]
  | succ d ih =>
    intro i b hi hb
    have hw : wrap64 ((i : Int) + 1) = ((i + 1 : Nat) : Int) := wrap_succ i (by omega)
    have h4 := bytes_le (rd l (i : Int))
    have eb : b ++ encB (l.drop i) = (b ++ bytesC (rd l (i : Int))) ++ encB (l.drop (i + 1)) := by
      rw [drop_cons l i (by omega), List.append_assoc]
      rfl
    rw [eb]
    have g : b.length + (bytesC (rd l (i : Int))).length < 140737488355328 := by omega
    by_cases h : (b ++ bytesC (rd l (i : Int))).length ≤ 4000
    · refine ev_step (ih (i + 1) (b ++ bytesC (rd l (i : Int))) (by omega) h) fun k hk => ?_
      simp only [ductusref01_Encode.l1]
      rw [if_pos (by omega), if_pos (by omega), bytes_some, Option.bind_some, if_pos g, Option.bind_some, if_neg (by omega), hw]
      exact hk
    · refine ev_one fun k => ?_
      simp only [ductusref01_Encode.l1]
      rw [if_pos (by omega), if_pos (by omega), bytes_some, Option.bind_some, if_pos g, Option.bind_some, if_pos (by omega), if_neg (by rw [List.length_append]; omega)]
theorem encR_l0 (l : List Int) (hl : l.length ≤ 5000) (d : Nat) : ∀ i : Nat, i + d = l.length → Ev (fun k => ductusref01_Encode.l0 k l (i : Int)) (if allR (l.drop i) then (if (encB l).length ≤ 4000 then (encB l, 0) else ([], 2)) else ([], 1)) := by
  induction d with
  | zero =>
    intro i hi
    have := encR_l1 l hl l.length 0 [] (by omega) (by simp)
    rw [List.drop_zero, List.nil_append] at this
    refine ev_step this fun k hk => ?_
    simp only [ductusref01_Encode.l0]
    rw [if_neg (by omega), List.drop_eq_nil_of_le (by omega), if_pos (by simp [allR])]
    exact hk
  | succ d ih =>
    intro i hi
    have hw : wrap64 ((i : Int) + 1) = ((i + 1 : Nat) : Int) := wrap_succ i (by omega)
    by_cases h : RightC (rd l (i : Int))
    · have e : allR (l.drop i) ↔ allR (l.drop (i + 1)) := by
        rw [drop_cons l i (by omega)]
        simp [allR, h]
      simp only [e]
      refine ev_step (ih (i + 1) (by omega)) fun k hk => ?_
      simp only [ductusref01_Encode.l0]
      rw [if_pos (by omega), if_pos (by omega), rightR, decide_eq_true h, Option.bind_some, if_pos rfl, hw]
      exact hk
    · have e : ¬ allR (l.drop i) := by
        rw [drop_cons l i (by omega)]
        simp [allR, h]
      rw [if_neg e]
      refine ev_one fun k => ?_
      simp only [ductusref01_Encode.l0]
      rw [if_pos (by omega), if_pos (by omega), rightR, decide_eq_false h, Option.bind_some, if_neg (by simp)]
theorem encR_ev (l : List Int) (hl : l.length ≤ 5000) : Ev (fun k => ductusref01_Encode.f k l) (encM l) := encR_l0 l hl l.length 0 (by omega)
-- what is written is read as it was
theorem dec_one (c : Int) (h : RightC c) (r : List Int) (hr : bytesB r) : chr (bytesC c ++ r) = c ∧ adv (bytesC c ++ r) = (bytesC c).length := by
  have h0 := h.1
  have h1 := h.2.1
  have h2 := h.2.2
  have hb : bytesB (bytesC c ++ r) := fun x hx => by
    rcases List.mem_append.1 hx with q | q
    · exact bytesC_bytes c x q
    · exact hr x q
  have hlen := bytesC_len c
  rw [if_pos h] at hlen
  have hpos : 0 < (bytesC c ++ r).length := by
    rw [List.length_append, hlen]
    repeat' split
    all_goals omega
  obtain ⟨q1, q2⟩ := dec_core _ hpos hb
  have key : decL (bytesC c ++ r) = (c.toNat, (bytesC c).length) := by
    rw [hlen]
    unfold decL
    rw [List.length_append, hlen]
    have hbr := fun i => bytes_rd hr i
    rw [bytesC_eq, if_pos h]
    by_cases a1 : c < 128
    · rw [if_pos a1, if_pos a1]
      have e0 : rd ([c] ++ r) 0 = c := rfl
      rw [e0]
      unfold Lib.decodeN
      rw [if_pos (by omega)]
    · rw [if_neg a1, if_neg a1]
      by_cases a2 : c < 2048
      · rw [if_pos a2, if_pos a2]
        have e0 : rd ([192 + c / 64, 128 + c % 64] ++ r) 0 = 192 + c / 64 := rfl
        have e1 : rd ([192 + c / 64, 128 + c % 64] ++ r) 1 = 128 + c % 64 := rfl
        rw [e0, e1]
        unfold Lib.decodeN
        rw [if_neg (by omega), if_pos (by omega), if_pos (by omega)]
        apply Prod.ext
        · dsimp only
          omega
        · rfl
      · rw [if_neg a2, if_neg a2]
        by_cases a3 : c < 65536
        · rw [if_pos a3, if_pos a3]
          have e0 : rd ([224 + c / 4096, 128 + c / 64 % 64, 128 + c % 64] ++ r) 0 = 224 + c / 4096 := rfl
          have e1 : rd ([224 + c / 4096, 128 + c / 64 % 64, 128 + c % 64] ++ r) 1 = 128 + c / 64 % 64 := rfl
          have e2 : rd ([224 + c / 4096, 128 + c / 64 % 64, 128 + c % 64] ++ r) 2 = 128 + c % 64 := rfl
          rw [e0, e1, e2]
          unfold Lib.decodeN
          rw [if_neg (by omega), if_neg (by omega), if_pos (by omega), if_pos (by omega)]
          apply Prod.ext
          · dsimp only
            omega
          · rfl
        · rw [if_neg a3, if_neg a3]
          have e0 : rd ([240 + c / 262144, 128 + c / 4096 % 64, 128 + c / 64 % 64, 128 + c % 64] ++ r) 0 = 240 + c / 262144 := rfl
          have e1 : rd ([240 + c / 262144, 128 + c / 4096 % 64, 128 + c / 64 % 64, 128 + c % 64] ++ r) 1 = 128 + c / 4096 % 64 := rfl
          have e2 : rd ([240 + c / 262144, 128 + c / 4096 % 64, 128 + c / 64 % 64, 128 + c % 64] ++ r) 2 = 128 + c / 64 % 64 := rfl
          have e3 : rd ([240 + c / 262144, 128 + c / 4096 % 64, 128 + c / 64 % 64, 128 + c % 64] ++ r) 3 = 128 + c % 64 := rfl
          rw [e0, e1, e2, e3]
          unfold Lib.decodeN
          rw [if_neg (by omega), if_neg (by omega), if_neg (by omega), if_pos (by omega), if_pos (by omega)]
          apply Prod.ext
          · dsimp only
            omega
          · rfl
  rw [key] at q1 q2
  refine ⟨?_, q2⟩
  rw [q1]
  dsimp only
  omega
theorem bytesC_pos {c : Int} (h : RightC c) : 0 < (bytesC c).length := by
  rw [bytesC_len, if_pos h]
  repeat' split
  all_goals omega
theorem decF_enc : ∀ (l : List Int) (n : Nat), allR l → (encB l).length ≤ n → decF n (encB l) = l.map fun c => (c, (bytesC c).length) := by
  intro l
  induction l with
  | nil =>
    intro n _ _
    cases n with
    | zero => rfl
    | succ n => rfl
  | cons c l ih =>
    intro n hr hn
    have hc := hr c (by simp)
    have hp := bytesC_pos hc
    simp only [encB] at hn ⊢
    rw [List.length_append] at hn
    cases n with
    | zero => omega
    | succ n =>
      obtain ⟨q1, q2⟩ := dec_one c hc (encB l) (encB_bytes l)
      simp only [decF]
      rw [if_neg (by rw [List.length_append]; omega), q1, q2, List.drop_left, ih n (fun x hx => hr x (by simp [hx])) (by omega)]
      rfl
theorem decC_enc (l : List Int) (h : allR l) : decC (encB l) = l := by
  unfold decC
  rw [decF_enc l _ h (Nat.le_refl _), List.map_map]
  have : (Prod.fst ∘ fun c : Int => (c, (bytesC c).length)) = id := rfl
  rw [this, List.map_id]
theorem preC_enc (a b : List Int) (h : allR (a ++ b)) : preC (encB (a ++ b)) a.length = (encB a).length := by
  unfold preC
  have ha : allR a := fun x hx => h x (by simp [hx])
  rw [decF_enc _ _ h (Nat.le_refl _)]
  have h1 := decF_sum (encB a).length (encB a) (Nat.le_refl _)
  rw [decF_enc a _ ha (Nat.le_refl _)] at h1
  unfold pre at h1 ⊢
  rw [List.length_map, List.take_of_length_le (by simp)] at h1
  rw [← List.map_take, List.take_left]
  exact h1
theorem step_valid (l : List Int) (n : Nat) : ∀ m : List Int, m.length ≤ n → allR m → validL (encB m) = true := by
  induction n with
  | zero =>
    intro m hm _
    obtain rfl : m = [] := List.eq_nil_of_length_eq_zero (by omega)
    rfl
  | succ n ih =>
    intro m hm hr
    cases m with
    | nil => rfl
    | cons c m =>
      have hc := hr c (by simp)
      have hp := bytesC_pos hc
      obtain ⟨q1, q2⟩ := dec_one c hc (encB m) (encB_bytes m)
      have hpos : 0 < (bytesC c ++ encB m).length := by rw [List.length_append]; omega
      have hb : bytesB (bytesC c ++ encB m) := encB_bytes (c :: m)
      obtain ⟨p1, p2⟩ := dec_core _ hpos hb
      have hnb : ¬ bad (decL (bytesC c ++ encB m)) = true := by
        unfold bad
        rw [decide_eq_true_eq]
        rintro ⟨x1, x2⟩
        have e : c = 65533 := by rw [q1] at p1; omega
        subst e
        have : (bytesC 65533).length = 3 := by decide +kernel
        omega
      simp only [encB]
      rw [validL_step _ hpos, if_neg hnb, ← p2, q2, List.drop_left]
      exact ih m (by simp at hm; omega) (fun x hx => hr x (by simp [hx]))
end Go.Proofs.YtgcdhjgdlnpknaaDoor.P
