/- Proved: what the document's Decode answers, and that a part between two places is decoded as that part; conditions: enough rounds, at most 4000 bytes. -/
import Derived.Test.YtgcdhjgdlnpknaaDoorPLib
import Derived.Test.YtgcdhjgdlnpknaaDoorPx4
namespace Go.Proofs.YtgcdhjgdlnpknaaDoor.P
open Go.RowKit Go.Proofs.YtgcdhjgdlnpknaaDoorW.PrintWords Go.Proofs.YtgcdhjgdlnpknaaDoorW.PrintLast Go.Proofs.YtgcdhjgdlnpknaaDoorW.PrintMore
set_option linter.unusedVariables false
set_option linter.unusedSimpArgs false

/-- A character's bytes. -/
def bytesC (c : Int) : List Int := (ductusref01_Bytes.f c).getD []
theorem right_eq (c : Int) : ductusref01_Right.f c = some (decide (0 ≤ c ∧ c ≤ 1114111 ∧ (c < 55296 ∨ c > 57343))) := by
  unfold ductusref01_Right.f
  by_cases h0 : c ≥ 0
  · by_cases h1 : c ≤ 1114111
    · by_cases h2 : c < 55296
      · rw [if_pos h0, if_pos h1, if_pos h2, decide_eq_true (show 0 ≤ c ∧ c ≤ 1114111 ∧ (c < 55296 ∨ c > 57343) from ⟨h0, h1, .inl h2⟩)]
      · rw [if_pos h0, if_pos h1, if_neg h2]
        congr 1
        rw [decide_eq_decide]
        omega
    · rw [if_pos h0, if_neg h1, decide_eq_false (by omega)]
  · rw [if_neg h0, decide_eq_false (by omega)]
theorem bytes_some (c : Int) : ductusref01_Bytes.f c = some (bytesC c) := by
  have : ∃ b, ductusref01_Bytes.f c = some b := by
    unfold ductusref01_Bytes.f
    rw [right_eq, Option.bind_some]
    repeat' split
    all_goals exact ⟨_, rfl⟩
  obtain ⟨b, hb⟩ := this
  unfold bytesC
  rw [hb]
  rfl
theorem bytes_none {c : Int} (h : c < 0) : bytesC c = [] := by
  unfold bytesC ductusref01_Bytes.f
  rw [right_eq, Option.bind_some, decide_eq_false (by omega), if_neg (by decide)]
  rfl
theorem bytes_le (c : Int) : (bytesC c).length ≤ 4 := by
  unfold bytesC ductusref01_Bytes.f
  rw [right_eq, Option.bind_some]
  repeat' split
  all_goals simp
def cmpS (a b : List Int) : Bool := (strOfNums a).toList == (strOfNums b).toList
theorem starts_eq (l b : List Int) : ductusref01_starts.f l b = some (decide (0 < b.length) && decide (b.length ≤ l.length) && cmpS (l.take b.length) b) := by
  unfold ductusref01_starts.f cmpS
  by_cases h0 : (b.length : Int) > 0
  · by_cases h1 : (l.length : Int) ≥ (b.length : Int)
    · rw [if_pos h0, if_pos h1, if_pos (by omega), if_pos (by omega), Int.toNat_natCast, decide_eq_true (by omega), decide_eq_true (by omega)]
      rfl
    · rw [if_pos h0, if_neg h1, decide_eq_false (show ¬ b.length ≤ l.length by omega)]
      simp
  · rw [if_neg h0, decide_eq_false (show ¬ 0 < b.length by omega)]
    rfl
def lead : List Int := [0, 192, 224, 240]
def vstep (l : List Int) (c : Int) (i : Nat) : Int := wrap64 (wrap64 (wrap64 (c * 64) + wrap64 (rd l (i : Int))) - 128)
def vf (l : List Int) : Nat → Nat → Int → Int
  | 0, _, c => c
  | d + 1, i, c => vf l d (i + 1) (vstep l c i)
def v0 (l : List Int) (n : Nat) : Int := wrap64 (wrap64 (rd l 0) - rd lead ((n - 1 : Nat) : Int))
/-- The number that n bytes tell. -/
def valN (l : List Int) (n : Nat) : Int := vf l (n - 1) 1 (v0 l n)
/-- Are these n bytes that number's? -/
def okN (l : List Int) (n : Nat) : Bool := decide ((bytesC (valN l n)).length = n) && cmpS (l.take n) (bytesC (valN l n))
def fstF (l : List Int) : Nat → Nat → Int
  | 0, _ => -1
  | d + 1, n => if n ≤ l.length then (if okN l n = true then valN l n else fstF l d (n + 1)) else -1
def fstOf (l : List Int) : Int := fstF l 4 1
theorem first_l1 (l : List Int) (n : Nat) (hn : n ≤ l.length) (hl : l.length ≤ 4000) (h1 : 1 ≤ n) (K : Nat) (r : Option Int) (hr : ∀ k, K ≤ k → ductusref01_first.l0 k l lead (wrap64 ((n : Int) + 1)) = r) (d : Nat) : ∀ (k i : Nat) (c : Int), i + d = n → K + d < k →
    ductusref01_first.l1 k l lead (n : Int) c (i : Int) = if ((bytesC (vf l d i c)).length = n ∧ cmpS (l.take n) (bytesC (vf l d i c)) = true) then some (vf l d i c) else r := by
  induction d with
  | zero =>
    intro k i c hi hk
    obtain ⟨k, rfl⟩ : ∃ m, k = m + 1 := ⟨k - 1, by omega⟩
    have hv : vf l 0 i c = c := rfl
    rw [hv]
    simp only [ductusref01_first.l1]
    rw [if_neg (by omega), bytes_some, Option.bind_some, starts_eq, Option.bind_some, Option.bind_some, hr k (by omega)]
    by_cases e : (bytesC c).length = n
    · have e1 : decide (0 < (bytesC c).length) = true := decide_eq_true (by omega)
      have e2 : decide ((bytesC c).length ≤ l.length) = true := decide_eq_true (by omega)
      have e3 : ((bytesC c).length : Int) = (n : Int) := by omega
      have e4 : l.take (bytesC c).length = l.take n := by rw [e]
      rw [e1, e2, Bool.true_and, Bool.true_and, e4]
      by_cases q : cmpS (l.take n) (bytesC c) = true
      · rw [if_pos q, if_pos e3, if_pos (show (bytesC c).length = n ∧ cmpS (l.take n) (bytesC c) = true from ⟨e, q⟩)]
      · rw [if_neg q, if_neg (show ¬ ((bytesC c).length = n ∧ cmpS (l.take n) (bytesC c) = true) from fun h => q h.2)]
    · rw [if_neg (show ¬ (((bytesC c).length : Int) = (n : Int)) by omega), if_neg (show ¬ ((bytesC c).length = n ∧ cmpS (l.take n) (bytesC c) = true) from fun h => e h.1)]
      exact ite_self r
  | succ d ih =>
    intro k i c hi hk
    obtain ⟨k, rfl⟩ : ∃ m, k = m + 1 := ⟨k - 1, by omega⟩
    simp only [ductusref01_first.l1, vf]
    rw [if_pos (by omega), if_pos (by omega), if_pos (by omega), wrap_succ i (by omega)]
    exact ih k (i + 1) (vstep l c i) (by omega) (by omega)
theorem first_l0 (l : List Int) (h0 : 0 < l.length) (hl : l.length ≤ 4000) (d : Nat) : ∀ (k n : Nat), n + d = 5 → 1 ≤ n → 10 * d + 10 < k → ductusref01_first.l0 k l lead (n : Int) = some (fstF l d n) := by
  induction d with
  | zero =>
    intro k n hn h1 hk
    obtain ⟨k, rfl⟩ : ∃ m, k = m + 2 := ⟨k - 2, by omega⟩
    simp only [ductusref01_first.l0, ductusref01_first.j1, fstF]
    rw [if_neg (by omega), if_neg (by decide)]
  | succ d ih =>
    intro k n hn h1 hk
    obtain ⟨k, rfl⟩ : ∃ m, k = m + 2 := ⟨k - 2, by omega⟩
    simp only [ductusref01_first.l0, fstF]
    rw [if_pos (by omega)]
    by_cases h : n ≤ l.length
    · rw [if_pos h, decide_eq_true (show (n : Int) ≤ (l.length : Int) by omega)]
      simp only [ductusref01_first.j1]
      have hw : wrap64 ((n : Int) - 1) = ((n - 1 : Nat) : Int) := by rw [wrap_id (by omega) (by omega)]; omega
      have hlead : lead.length = 4 := rfl
      rw [if_pos trivial, if_pos (by omega), hw, if_pos (by omega), if_pos (by omega)]
      have := first_l1 l n h hl h1 (10 * d + 11) (some (fstF l d (n + 1))) (fun k hk => by rw [wrap_succ n (by omega)]; exact ih k (n + 1) (by omega) (by omega) (by omega)) (n - 1) k 1 (v0 l n) (by omega) (by omega)
      have h1' : ((1 : Nat) : Int) = 1 := rfl
      rw [h1'] at this
      refine this.trans ?_
      unfold okN valN
      by_cases e : (bytesC (vf l (n - 1) 1 (v0 l n))).length = n ∧ cmpS (l.take n) (bytesC (vf l (n - 1) 1 (v0 l n))) = true
      · rw [if_pos e, decide_eq_true e.1, e.2, if_pos (by decide)]
      · rw [if_neg e, if_neg (fun q => e (by simpa using q))]
    · rw [if_neg h, decide_eq_false (show ¬ (n : Int) ≤ (l.length : Int) by omega)]
      simp only [ductusref01_first.j1]
      rw [if_neg (by decide)]
theorem first_eq (k : Nat) (hk : 50 < k) (l : List Int) (h0 : 0 < l.length) (hl : l.length ≤ 4000) : ductusref01_first.f k l = some (fstOf l) := first_l0 l h0 hl 4 k 1 rfl (Nat.le_refl _) hk
theorem size_eq (c : Int) : ductusref01_Size.f c = some ((bytesC c).length : Int) := by
  unfold ductusref01_Size.f
  rw [bytes_some]
  rfl
theorem okN_len {l : List Int} {n : Nat} (h : okN l n = true) : (bytesC (valN l n)).length = n := by
  unfold okN at h
  simp only [Bool.and_eq_true, decide_eq_true_eq] at h
  exact h.1
theorem okN_pos {l : List Int} {n : Nat} (h : okN l n = true) (h1 : 1 ≤ n) : 0 ≤ valN l n := by
  have := okN_len h
  by_cases hc : valN l n < 0
  · rw [bytes_none hc] at this
    simp at this
    omega
  · omega
theorem fstF_size (l : List Int) : ∀ (d n : Nat), 1 ≤ n → 0 ≤ fstF l d n → n ≤ (bytesC (fstF l d n)).length ∧ (bytesC (fstF l d n)).length ≤ l.length
  | 0, n, h1, h => by
    simp only [fstF] at h
    omega
  | d + 1, n, h1, h => by
    by_cases hn : n ≤ l.length
    · by_cases ho : okN l n = true
      · have e : fstF l (d + 1) n = valN l n := by simp only [fstF]; rw [if_pos hn, if_pos ho]
        rw [e, okN_len ho]
        omega
      · have e : fstF l (d + 1) n = fstF l d (n + 1) := by simp only [fstF]; rw [if_pos hn, if_neg ho]
        rw [e] at h ⊢
        have := fstF_size l d (n + 1) (by omega) h
        omega
    · have e : fstF l (d + 1) n = -1 := by simp only [fstF]; rw [if_neg hn]
      rw [e] at h
      omega
theorem vf_take (l : List Int) (t : Nat) : ∀ (d i : Nat) (c : Int), i + d ≤ t → vf (l.take t) d i c = vf l d i c
  | 0, _, _, _ => rfl
  | d + 1, i, c, h => by
    have e : rd (l.take t) (i : Int) = rd l (i : Int) := by
      rw [rd_nat, rd_nat, List.getD_eq_getElem?_getD, List.getD_eq_getElem?_getD, List.getElem?_take, if_pos (by omega)]
    simp only [vf]
    rw [vf_take l t d (i + 1) _ (by omega)]
    unfold vstep
    rw [e]
theorem valN_take (l : List Int) (t n : Nat) (h1 : 1 ≤ n) (h : n ≤ t) : valN (l.take t) n = valN l n := by
  have e : rd (l.take t) 0 = rd l 0 := by
    have e0 : rd (l.take t) ((0 : Nat) : Int) = rd l ((0 : Nat) : Int) := by
      rw [rd_nat, rd_nat, List.getD_eq_getElem?_getD, List.getD_eq_getElem?_getD, List.getElem?_take, if_pos (by omega)]
    exact e0
  unfold valN
  rw [vf_take l t (n - 1) 1 _ (by omega)]
  unfold v0
  rw [e]
theorem okN_take (l : List Int) (t n : Nat) (h1 : 1 ≤ n) (h : n ≤ t) : okN (l.take t) n = okN l n := by
  unfold okN
  rw [valN_take l t n h1 h, List.take_take, Nat.min_eq_left h]
theorem fstF_take (l : List Int) (t : Nat) (ht : t ≤ l.length) : ∀ (d n : Nat), 1 ≤ n → (0 ≤ fstF l d n → (bytesC (fstF l d n)).length ≤ t → fstF (l.take t) d n = fstF l d n) ∧ (fstF l d n < 0 → fstF (l.take t) d n = fstF l d n)
  | 0, n, h1 => ⟨fun _ _ => rfl, fun _ => rfl⟩
  | d + 1, n, h1 => by
    have hlen : (l.take t).length = t := by rw [List.length_take]; omega
    have ih := fstF_take l t ht d (n + 1) (by omega)
    by_cases hn : n ≤ l.length
    · by_cases ho : okN l n = true
      · have e : fstF l (d + 1) n = valN l n := by simp only [fstF]; rw [if_pos hn, if_pos ho]
        have hp := okN_pos ho h1
        rw [e]
        refine ⟨fun _ hs => ?_, fun hneg => by omega⟩
        rw [okN_len ho] at hs
        simp only [fstF]
        rw [if_pos (by omega), okN_take l t n h1 hs, if_pos ho, valN_take l t n h1 hs]
      · have e : fstF l (d + 1) n = fstF l d (n + 1) := by simp only [fstF]; rw [if_pos hn, if_neg ho]
        rw [e]
        by_cases hnt : n ≤ t
        · have e2 : fstF (l.take t) (d + 1) n = fstF (l.take t) d (n + 1) := by simp only [fstF]; rw [if_pos (by omega), okN_take l t n h1 hnt, if_neg ho]
          rw [e2]
          exact ih
        · have e2 : fstF (l.take t) (d + 1) n = -1 := by simp only [fstF]; rw [if_neg (by omega)]
          rw [e2]
          refine ⟨fun hp hs => ?_, fun hneg => ?_⟩
          · have := fstF_size l d (n + 1) (by omega) hp
            omega
          · have e3 : ∀ d n, fstF l d n < 0 → 1 ≤ n → fstF l d n = -1 := by
              intro d
              induction d with
              | zero => intro n _ _; rfl
              | succ d ihd =>
                intro n hneg h1
                simp only [fstF] at hneg ⊢
                by_cases a : n ≤ l.length
                · rw [if_pos a] at hneg ⊢
                  by_cases b : okN l n = true
                  · rw [if_pos b] at hneg ⊢
                    have := okN_pos b h1
                    omega
                  · rw [if_neg b] at hneg ⊢
                    exact ihd (n + 1) hneg (by omega)
                · rw [if_neg a]
            exact (e3 d (n + 1) hneg (by omega)).symm
    · have e : fstF l (d + 1) n = -1 := by simp only [fstF]; rw [if_neg hn]
      have e2 : fstF (l.take t) (d + 1) n = -1 := by simp only [fstF]; rw [if_neg (by omega)]
      rw [e, e2]
      exact ⟨fun _ _ => rfl, fun _ => rfl⟩

/-! ### the whole -/
/-- How far one character goes. -/
def adv (l : List Int) : Nat := if fstOf l < 0 then 1 else (bytesC (fstOf l)).length
def chr (l : List Int) : Int := if fstOf l < 0 then 65533 else fstOf l
theorem adv_pos (l : List Int) (h : 0 < l.length) : 1 ≤ adv l ∧ adv l ≤ l.length := by
  unfold adv
  by_cases hn : fstOf l < 0
  · rw [if_pos hn]
    omega
  · rw [if_neg hn]
    have := fstF_size l 4 1 (Nat.le_refl _) (by unfold fstOf at hn; omega)
    exact this
theorem adv_take (l : List Int) (t : Nat) (ht : t ≤ l.length) (ha : adv l ≤ t) (h1 : 1 ≤ t) : adv (l.take t) = adv l ∧ chr (l.take t) = chr l := by
  have h := fstF_take l t ht 4 1 (Nat.le_refl _)
  have e : fstOf (l.take t) = fstOf l := by
    unfold fstOf
    by_cases hn : fstF l 4 1 < 0
    · exact h.2 hn
    · refine h.1 (by omega) ?_
      unfold adv fstOf at ha
      rwa [if_neg hn] at ha
  unfold adv chr
  rw [e]
  exact ⟨rfl, rfl⟩
/-- Characters, and how far each goes. -/
def decF : Nat → List Int → List (Int × Nat)
  | 0, _ => []
  | n + 1, l => if l.length = 0 then [] else (chr l, adv l) :: decF n (l.drop (adv l))
def pre (s : List (Int × Nat)) (j : Nat) : Nat := ((s.take j).map Prod.snd).sum
/-- Where each begins. -/
def startsAt (i : Nat) : List (Int × Nat) → List Int
  | [] => []
  | x :: s => (i : Int) :: startsAt (i + x.2) s
theorem pre_zero (s : List (Int × Nat)) : pre s 0 = 0 := rfl
theorem pre_succ (x : Int × Nat) (s : List (Int × Nat)) (j : Nat) : pre (x :: s) (j + 1) = x.2 + pre s j := rfl
theorem starts_len : ∀ (s : List (Int × Nat)) (i : Nat), (startsAt i s).length = s.length
  | [], _ => rfl
  | x :: s, i => by
    simp only [startsAt, List.length_cons]
    rw [starts_len s]
theorem starts_at : ∀ (s : List (Int × Nat)) (i j : Nat), j < s.length → (startsAt i s)[j]? = some ((i + pre s j : Nat) : Int)
  | [], _, _, h => by simp at h
  | x :: s, i, 0, h => by simp [startsAt, pre_zero]
  | x :: s, i, j + 1, h => by
    simp only [startsAt, List.getElem?_cons_succ]
    rw [starts_at s (i + x.2) j (by simpa using h), pre_succ, Nat.add_assoc]
theorem decF_len : ∀ (n : Nat) (l : List Int), (decF n l).length ≤ l.length
  | 0, l => by simp [decF]
  | n + 1, l => by
    by_cases h : l.length = 0
    · simp only [decF]
      rw [if_pos h]
      simp
    · simp only [decF]
      rw [if_neg h, List.length_cons]
      have h1 := decF_len n (l.drop (adv l))
      have h2 := adv_pos l (by omega)
      rw [List.length_drop] at h1
      omega
theorem decF_sum : ∀ (n : Nat) (l : List Int), l.length ≤ n → pre (decF n l) (decF n l).length = l.length
  | 0, l, h => by
    simp only [decF]
    have : l.length = 0 := by omega
    rw [this]
    rfl
  | n + 1, l, h => by
    by_cases h0 : l.length = 0
    · simp only [decF]
      rw [if_pos h0, h0]
      rfl
    · have h2 := adv_pos l (by omega)
      simp only [decF]
      rw [if_neg h0, List.length_cons, pre_succ, decF_sum n (l.drop (adv l)) (by rw [List.length_drop]; omega), List.length_drop]
      omega
theorem pre_mono (s : List (Int × Nat)) : ∀ (i j : Nat), i ≤ j → pre s i ≤ pre s j := by
  induction s with
  | nil => intro i j _; simp [pre]
  | cons x s ih =>
    intro i j h
    cases i with
    | zero => rw [pre_zero]; omega
    | succ i =>
      obtain ⟨j, rfl⟩ : ∃ m, j = m + 1 := ⟨j - 1, by omega⟩
      rw [pre_succ, pre_succ]
      have := ih i j (by omega)
      omega
theorem decF_more : ∀ (n m : Nat) (l : List Int), l.length ≤ n → l.length ≤ m → decF n l = decF m l
  | 0, 0, _, _, _ => rfl
  | 0, m + 1, l, h, _ => by
    simp only [decF]
    rw [if_pos (by omega)]
  | n + 1, 0, l, _, h => by
    simp only [decF]
    rw [if_pos (by omega)]
  | n + 1, m + 1, l, h1, h2 => by
    by_cases h0 : l.length = 0
    · simp only [decF]
      rw [if_pos h0, if_pos h0]
    · have h3 := adv_pos l (by omega)
      simp only [decF]
      rw [if_neg h0, if_neg h0, decF_more n m (l.drop (adv l)) (by rw [List.length_drop]; omega) (by rw [List.length_drop]; omega)]
theorem dec_take : ∀ (n : Nat) (l : List Int) (j : Nat), l.length ≤ n → j ≤ (decF n l).length → decF n (l.take (pre (decF n l) j)) = (decF n l).take j
  | 0, l, j, h, hj => by simp [decF]
  | n + 1, l, 0, h, hj => by
    rw [pre_zero, List.take_zero, List.take_zero]
    rfl
  | n + 1, l, j + 1, h, hj => by
    by_cases h0 : l.length = 0
    · simp only [decF] at hj
      rw [if_pos h0] at hj
      simp at hj
    · have h3 := adv_pos l (by omega)
      have e : decF (n + 1) l = (chr l, adv l) :: decF n (l.drop (adv l)) := by simp only [decF]; rw [if_neg h0]
      rw [e] at hj ⊢
      simp only [List.length_cons] at hj
      have hl2 : (l.drop (adv l)).length = l.length - adv l := List.length_drop
      have hp : pre (decF n (l.drop (adv l))) j ≤ l.length - adv l := by
        rw [← hl2, ← decF_sum n (l.drop (adv l)) (by omega)]
        exact pre_mono _ _ _ (by omega)
      rw [pre_succ, List.take_succ_cons]
      dsimp only
      obtain ⟨a1, a2⟩ := adv_take l (adv l + pre (decF n (l.drop (adv l))) j) (by omega) (by omega) (by omega)
      simp only [decF]
      rw [if_neg (by rw [List.length_take]; omega), a1, a2, List.drop_take, Nat.add_sub_cancel_left, dec_take n (l.drop (adv l)) j (by omega) (by omega)]
theorem dec_drop : ∀ (n : Nat) (l : List Int) (j : Nat), l.length ≤ n → j ≤ (decF n l).length → decF n (l.drop (pre (decF n l) j)) = (decF n l).drop j
  | 0, l, j, h, hj => by simp [decF]
  | n + 1, l, 0, h, hj => by
    rw [pre_zero, List.drop_zero, List.drop_zero]
  | n + 1, l, j + 1, h, hj => by
    by_cases h0 : l.length = 0
    · simp only [decF] at hj
      rw [if_pos h0] at hj
      simp at hj
    · have h3 := adv_pos l (by omega)
      have e : decF (n + 1) l = (chr l, adv l) :: decF n (l.drop (adv l)) := by simp only [decF]; rw [if_neg h0]
      rw [e] at hj ⊢
      simp only [List.length_cons] at hj
      have hl2 : (l.drop (adv l)).length = l.length - adv l := List.length_drop
      rw [pre_succ, List.drop_succ_cons, ← dec_drop n (l.drop (adv l)) j (by omega) (by omega), List.drop_drop]
      dsimp only
      exact decF_more (n + 1) n _ (by rw [List.length_drop]; omega) (by rw [List.length_drop]; omega)
theorem dec_part (n : Nat) (l : List Int) (i j : Nat) (hl : l.length ≤ n) (hij : i ≤ j) (hj : j ≤ (decF n l).length) : decF n ((l.take (pre (decF n l) j)).drop (pre (decF n l) i)) = ((decF n l).take j).drop i := by
  have h1 := dec_take n l j hl hj
  have h2 := dec_drop n (l.take (pre (decF n l) j)) i (by rw [List.length_take]; omega) (by rw [h1, List.length_take]; omega)
  rw [h1] at h2
  have e : pre ((decF n l).take j) i = pre (decF n l) i := by
    unfold pre
    rw [List.take_take, Nat.min_eq_left hij]
  rw [e] at h2
  exact h2
theorem decode_loop (l : List Int) (hl : l.length ≤ 4000) (d : Nat) : ∀ (k i : Nat) (cs at_ : List Int), i ≤ l.length → l.length - i ≤ d → d + 60 < k → cs.length ≤ i → at_.length ≤ i →
    ductusref01_Decode.l0 k l cs at_ (i : Int) = some (cs ++ (decF d (l.drop i)).map Prod.fst, at_ ++ startsAt i (decF d (l.drop i)) ++ [(l.length : Int)], 0) := by
  induction d with
  | zero =>
    intro k i cs at_ hi hd hk h1 h2
    obtain ⟨k, rfl⟩ : ∃ m, k = m + 1 := ⟨k - 1, by omega⟩
    simp only [ductusref01_Decode.l0]
    rw [if_neg (by omega), if_pos (by omega)]
    simp [decF, startsAt]
  | succ d ih =>
    intro k i cs at_ hi hd hk h1 h2
    obtain ⟨k, rfl⟩ : ∃ m, k = m + 1 := ⟨k - 1, by omega⟩
    simp only [ductusref01_Decode.l0]
    have hdl : (l.drop i).length = l.length - i := List.length_drop
    by_cases h : i < l.length
    · have ha := adv_pos (l.drop i) (by omega)
      have e : decF (d + 1) (l.drop i) = (chr (l.drop i), adv (l.drop i)) :: decF d (l.drop (i + adv (l.drop i))) := by
        simp only [decF]
        rw [if_neg (by omega), List.drop_drop]
      rw [if_pos (by omega), if_pos (by omega), if_pos (by omega), Int.toNat_natCast, first_eq k (by omega) (l.drop i) (by omega) (by omega), Option.bind_some, if_pos (by omega), Option.bind_some, e]
      have next := fun c => ih k (i + adv (l.drop i)) (cs ++ [c]) (at_ ++ [(i : Int)]) (by omega) (by omega) (by omega) (by simp; omega) (by simp; omega)
      by_cases hn : fstOf (l.drop i) < 0
      · have e1 : adv (l.drop i) = 1 := by unfold adv; rw [if_pos hn]
        have e2 : chr (l.drop i) = 65533 := by unfold chr; rw [if_pos hn]
        rw [if_pos hn, if_pos (by omega), e2]
        rw [e1] at next ⊢
        rw [wrap_succ i (by omega), next]
        simp [startsAt]
      · have e1 : adv (l.drop i) = (bytesC (fstOf (l.drop i))).length := by unfold adv; rw [if_neg hn]
        have e2 : chr (l.drop i) = fstOf (l.drop i) := by unfold chr; rw [if_neg hn]
        have c1 : cs.length < 17592186044416 := by omega
        have b1 : -9223372036854775808 ≤ (i : Int) + ((adv (l.drop i) : Nat) : Int) := by omega
        have b2 : (i : Int) + ((adv (l.drop i) : Nat) : Int) ≤ 9223372036854775807 := by omega
        rw [if_neg hn, if_pos c1, size_eq, Option.bind_some, ← e1, wrap_id b1 b2, ← Int.natCast_add, next, e2]
        simp [startsAt]
    · have e : decF (d + 1) (l.drop i) = [] := by
        simp only [decF]
        rw [if_pos (by omega)]
      rw [if_neg (by omega), if_pos (by omega), e]
      simp [startsAt]
def decC (l : List Int) : List Int := (decF l.length l).map Prod.fst
def decA (l : List Int) : List Int := startsAt 0 (decF l.length l) ++ [(l.length : Int)]
/-- Where the j-th begins. -/
def preC (l : List Int) (j : Nat) : Nat := pre (decF l.length l) j
theorem decode_eq (k : Nat) (l : List Int) (hk : l.length + 60 < k) (hl : l.length ≤ 4000) : ductusref01_Decode.f k l = some (decC l, decA l, 0) := by
  unfold ductusref01_Decode.f decC decA
  rw [if_neg (by omega)]
  have := decode_loop l hl l.length k 0 [] [] (by omega) (by omega) (by omega) (by simp) (by simp)
  simpa using this
theorem decC_len (l : List Int) : (decC l).length ≤ l.length := by
  unfold decC
  rw [List.length_map]
  exact decF_len _ _
theorem decA_len (l : List Int) : (decA l).length = (decC l).length + 1 := by
  unfold decA decC
  rw [List.length_append, starts_len, List.length_map]
  rfl
theorem decA_at (l : List Int) (j : Nat) (hj : j ≤ (decC l).length) : rd (decA l) (j : Int) = ((preC l j : Nat) : Int) := by
  have hlen : (decC l).length = (decF l.length l).length := by unfold decC; rw [List.length_map]
  rw [rd_nat, List.getD_eq_getElem?_getD]
  unfold decA preC
  by_cases h : j < (decF l.length l).length
  · rw [List.getElem?_append_left (by rw [starts_len]; exact h), starts_at _ 0 j h]
    simp
  · have e : j = (decF l.length l).length := by omega
    rw [List.getElem?_append_right (by rw [starts_len]; omega), starts_len, e, decF_sum l.length l (Nat.le_refl _)]
    simp
theorem decC_part (l : List Int) (i j : Nat) (hij : i ≤ j) (hj : j ≤ (decC l).length) : decC ((l.take (preC l j)).drop (preC l i)) = ((decC l).take j).drop i := by
  have hlen : (decC l).length = (decF l.length l).length := by unfold decC; rw [List.length_map]
  have hp := dec_part l.length l i j (Nat.le_refl _) hij (by omega)
  have hm := decF_more l.length ((l.take (preC l j)).drop (preC l i)).length ((l.take (preC l j)).drop (preC l i)) (by rw [List.length_drop, List.length_take]; omega) (Nat.le_refl _)
  unfold preC at hm ⊢
  unfold decC
  rw [← hm, hp, List.map_drop, List.map_take]
theorem preC_le (l : List Int) (j : Nat) (hj : j ≤ (decC l).length) : preC l j ≤ l.length := by
  have hlen : (decC l).length = (decF l.length l).length := by unfold decC; rw [List.length_map]
  have := decF_sum l.length l (Nat.le_refl _)
  have h2 := pre_mono (decF l.length l) j (decF l.length l).length (by omega)
  unfold preC
  omega
theorem preC_mono (l : List Int) (i j : Nat) (h : i ≤ j) : preC l i ≤ preC l j := pre_mono _ _ _ h
end Go.Proofs.YtgcdhjgdlnpknaaDoor.P
