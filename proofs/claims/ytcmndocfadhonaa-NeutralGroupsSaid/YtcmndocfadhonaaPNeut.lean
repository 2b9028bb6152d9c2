/- Proved: what the functions of neutral, and the document's answers for them, tell of any list and any level; conditions: enough rounds, a list's bytes below 2^47, a level of 64 bits. -/
import Derived.Test.YtcmndocfadhonaaPLib
import Derived.Test.YtcmndocfadhonaaPInts
import Derived.Test.YtcmndocfadhonaaSClone
import Derived.Test.YtcmndocfadhonaaPx2
import Derived.Test.YtcmndocfadhonaaPx3
import Derived.Test.YtcmndocfadhonaaPx4
namespace Go.Proofs.Ytcmndocfadhonaa.P
open Go.RowKit Go.Proofs.YtcmndocfadhonaaW.PrintWords Go.Proofs.YtcmndocfadhonaaW.PrintLast Go.Proofs.YtcmndocfadhonaaW.PrintMore
set_option linter.unusedVariables false
set_option linter.unusedSimpArgs false

theorem and_one (n : Int) : Go.bits .and .i64 n 1 = n % 2 := by
  have h1 : (BitVec.ofInt 64 1).toNat = 2 ^ 1 - 1 := by decide
  have key : (BitVec.ofInt 64 n &&& BitVec.ofInt 64 1).toNat = (n % ((2 ^ 64 : Nat) : Int)).toNat % 2 ^ 1 := by
    rw [BitVec.toNat_and, BitVec.toNat_ofInt, h1, Nat.and_two_pow_sub_one_eq_mod]
  show IntKind.i64.wrap ((BitVec.ofInt 64 n &&& BitVec.ofInt 64 1).toNat : Nat) = n % 2
  rw [key, IntKind.wrap_i64]
  omega
theorem tmod_two (n : Int) : Int.tmod n 2 = 0 ↔ n % 2 = 0 := by
  constructor
  · intro h
    have h2 := Int.mul_tdiv_add_tmod n 2
    omega
  · intro h
    have h2 := Int.mul_tdiv_add_tmod n 2
    have h3 := Int.tmod_lt_of_pos n (b := 2) (by omega)
    have h4 : -2 < Int.tmod n 2 := by
      rcases Int.le_total 0 n with hn | hn
      · have := Int.tmod_nonneg 2 hn
        omega
      · have h5 := Int.neg_tmod n 2
        have := Int.tmod_lt_of_pos (-n) (b := 2) (by omega)
        omega
    omega
def classes11 : List Int := [0, 1, 2, 3, 4, 5, 6, 7, 8, 9, 10, 11, 12, 13, 14, 15, 16, 17, 18, 19, 20, 21, 22]
theorem by_class11 (P : Int → Prop) (hin : ∀ k ∈ classes11, P k) (hout : ∀ k, k < 0 ∨ 22 < k → P k) (k : Int) : P k := by
  by_cases h : 0 ≤ k ∧ k ≤ 22
  · refine hin k ?_
    simp only [classes11, List.mem_cons, List.not_mem_nil, or_false]
    omega
  · exact hout k (by omega)
/-- Is a class neutral? -/
def neuK (k : Int) : Bool := decide (k ∈ [10, 11, 12, 13, 19, 20, 21, 22])
theorem neuK_out (k : Int) (h : k < 0 ∨ 22 < k) : neuK k = false := by
  unfold neuK
  rw [decide_eq_false_iff_not]
  simp only [List.mem_cons, List.not_mem_nil, or_false]
  omega
theorem neutral_eq0 (k : Int) : class_Neutral.f 10 k = some (neuK k) := by
  revert k
  refine by_class11 _ (by decide +kernel) fun k h => ?_
  obtain ⟨b, hb⟩ : ∃ b, class_set.f 10 ([10, 11, 12, 13, 19, 20, 21, 22] : List Int) = some b := Option.isSome_iff_exists.1 (by decide +kernel)
  unfold class_Neutral.f
  rw [hb, neuK_out k h]
  simp only [Option.bind_some]
  unfold class_in.f
  by_cases h1 : k ≥ 0
  · rw [if_pos h1, if_neg (by omega)]
    rfl
  · rw [if_neg h1]
    rfl
theorem neutral_eq (n : Nat) (hn : 10 ≤ n) (k : Int) : class_Neutral.f n k = some (neuK k) := more (class_Neutral.mono k) 10 n hn _ (neutral_eq0 k)
theorem rneutral_eq (k : Int) : ductusref02_Neutral.f k = some (neuK k) := by
  revert k
  refine by_class11 _ (by decide +kernel) fun k h => ?_
  rw [neuK_out k h]
  unfold ductusref02_Neutral.f ductusref02_Opens.f
  rw [if_neg (by omega), if_neg (by omega), if_neg (by omega), if_neg (by omega), if_neg (by omega), if_neg (by omega)]
  have h1 : (k == 21) = false := by rw [beq_eq_false_iff_ne]; omega
  have h2 : (k == 22) = false := by rw [beq_eq_false_iff_ne]; omega
  simp [h1, h2]

/-! ### groups -/
/-- The groups from place s on; o: where one begins that isn't closed yet. -/
def grp : Nat → Option Nat → List Int → List S38
  | s, o, [] => match o with
    | some a => [⟨(a : Int), (s : Int)⟩]
    | none => []
  | s, o, c :: l => if neuK c then grp (s + 1) (some (o.getD s)) l else match o with
    | some a => ⟨(a : Int), (s : Int)⟩ :: grp (s + 1) none l
    | none => grp (s + 1) none l
def opn (a s : Nat) : Option Nat := if a < s then some a else none
theorem grp_len : ∀ (l : List Int) (s : Nat) (o : Option Nat), (grp s o l).length ≤ l.length + 1
  | [], s, o => by
    cases o <;> simp [grp]
  | c :: l, s, o => by
    have h1 := grp_len l (s + 1) none
    have h2 := grp_len l (s + 1) (some (o.getD s))
    rw [List.length_cons]
    simp only [grp]
    by_cases hq : neuK c = true
    · rw [if_pos hq]
      omega
    · rw [if_neg hq]
      cases o with
      | none => exact Nat.le_succ_of_le h1
      | some a =>
        simp only [List.length_cons]
        omega
theorem groups_loop (l : List Int) (hn : l.length ≤ 500) (d : Nat) :
    (∀ (k s : Nat) (acc : List S38), s ≤ l.length + 1 → 2 * (l.length + 1 - s) ≤ d → d + 12 < k → acc.length ≤ s → neutral_Groups.l0 k l acc (s : Int) = some (acc ++ grp s none (l.drop s))) ∧
    (∀ (k a s : Nat) (acc : List S38), a ≤ s → s ≤ l.length → a < l.length → 2 * (l.length + 1 - s) ≤ d + 1 → d + 12 < k → acc.length ≤ a → neutral_Groups.l1 k l acc (a : Int) (s : Int) = some (acc ++ grp s (opn a s) (l.drop s))) := by
  induction d using Nat.strongRecOn with
  | _ d ih =>
  refine ⟨?_, ?_⟩
  · intro k s acc hs hd hk ha
    obtain ⟨k, rfl⟩ : ∃ m, k = m + 1 := ⟨k - 1, by omega⟩
    simp only [neutral_Groups.l0]
    by_cases h : s < l.length
    · rw [if_pos (by omega), (ih (d - 1) (by omega)).2 k s s acc (Nat.le_refl _) (by omega) h (by omega) (by omega) ha]
      simp [opn]
    · rw [if_neg (by omega), List.drop_eq_nil_of_le (by omega)]
      simp [grp]
  · intro k a s acc has hs hal hd hk ha
    obtain ⟨k, rfl⟩ : ∃ m, k = m + 1 := ⟨k - 1, by omega⟩
    have tail : (s : Int) > (a : Int) ∨ ¬ (s : Int) > (a : Int) := by omega
    have close : ∀ x : List S38, a < s → x = acc ++ [(⟨(a : Int), (s : Int)⟩ : S38)] → neutral_Groups.l0 k l x ((s + 1 : Nat) : Int) = some (acc ++ (⟨(a : Int), (s : Int)⟩ : S38) :: grp (s + 1) none (l.drop (s + 1))) := by
      intro x hlt hx
      subst hx
      rw [(ih (d - 1) (by omega)).1 k (s + 1) _ (by omega) (by omega) (by omega) (by simp; omega)]
      simp
    simp only [neutral_Groups.l1]
    by_cases h : s < l.length
    · rw [if_pos (by omega), if_pos (by omega), neutral_eq k (by omega), drop_cons l s h]
      simp only [Option.bind_some]
      by_cases hq : neuK (rd l (s : Int)) = true
      · rw [if_pos hq, wrap_succ s (by omega), (ih (d - 1) (by omega)).2 k a (s + 1) acc (by omega) (by omega) hal (by omega) (by omega) ha]
        have e : opn a (s + 1) = some ((opn a s).getD s) := by
          unfold opn
          rw [if_pos (by omega)]
          split
          · rfl
          · rw [Option.getD_none]
            congr 1
            omega
        simp only [grp, if_pos hq, e]
      · rw [if_neg hq]
        by_cases hgt : a < s
        · rw [if_pos (by omega), if_pos (by omega), wrap_succ s (by omega), close _ hgt rfl]
          simp only [grp, if_neg hq, opn, if_pos hgt]
        · obtain rfl : a = s := by omega
          rw [if_neg (by omega), wrap_succ a (by omega), (ih (d - 1) (by omega)).1 k (a + 1) acc (by omega) (by omega) (by omega) (by omega)]
          simp only [grp, if_neg hq, opn, if_neg (Nat.lt_irrefl a)]
    · obtain rfl : s = l.length := by omega
      rw [if_neg (by omega), if_pos (by omega), if_pos (by omega), wrap_succ _ (by omega), close _ hal rfl, List.drop_eq_nil_of_le (by omega), List.drop_eq_nil_of_le (by omega)]
      simp only [grp, opn, if_pos hal]
def groupsOf (l : List Int) : List S38 := grp 0 none l
theorem groups_eq (k : Nat) (l : List Int) (hn : l.length ≤ 500) (hk : 2 * l.length + 20 < k) : neutral_Groups.f k l = some (groupsOf l) := by
  unfold neutral_Groups.f groupsOf
  have := (groups_loop l hn (2 * (l.length + 1))).1 k 0 [] (by omega) (by omega) (by omega) (by simp)
  simpa using this

/-! ### sides, levels -/
def dirOf (n : Int) : Int := if n % 2 = 1 then 1 else 0
theorem dir_eq (n : Int) : seq_Dir.f n = some (dirOf n) := by
  unfold seq_Dir.f dirOf
  rw [and_one]
  split <;> rfl
def sideK (k : Int) : Int := if k = 0 then 0 else if k = 1 ∨ k = 3 ∨ k = 6 then 1 else -1
theorem bside_eq (k : Int) : brack_Side.f k = some (sideK k) := by
  unfold brack_Side.f sideK
  by_cases h0 : k = 0
  · simp [h0]
  · by_cases h1 : k = 1
    · simp [h1]
    · by_cases h3 : k = 3
      · simp [h3]
      · by_cases h6 : k = 6
        · simp [h6]
        · simp [h0, h1, h3, h6]
def endOf (e : Int) : Int := if e = 1 then 1 else 0
def sdOf (c level : Int) : Int := if sideK c ≥ 0 then sideK c else dirOf level
/-- The side at a place. -/
def sideAt (l : List Int) (i level e : Int) : Int := if i < 0 ∨ i ≥ (l.length : Int) then endOf e else sdOf (rd l i) level
theorem side_eq (k : Nat) (hk : 1 ≤ k) (l : List Int) (i level e : Int) : neutral_side.f k l i level e = some (sideAt l i level e) := by
  obtain ⟨k, rfl⟩ : ∃ m, k = m + 1 := ⟨k - 1, by omega⟩
  unfold neutral_side.f sideAt
  have he : (if e = 1 then some (1 : Int) else some 0) = some (endOf e) := by
    unfold endOf
    split <;> rfl
  by_cases h : i < 0
  · rw [if_pos h, if_pos (.inl h)]
    simp only [neutral_side.j0, if_true]
    exact he
  · rw [if_neg h]
    by_cases h2 : i ≥ (l.length : Int)
    · rw [decide_eq_true h2, if_pos (.inr h2)]
      simp only [neutral_side.j0, if_true]
      exact he
    · rw [decide_eq_false h2, if_neg (by omega)]
      simp only [neutral_side.j0]
      rw [if_neg (by decide), if_pos (by omega), if_pos (by omega), bside_eq]
      simp only [Option.bind_some, dir_eq]
      unfold sdOf
      split <;> rfl
/-- What a group becomes. -/
def toOf (l : List Int) (level sos eos : Int) (g : S38) : Int := if sideAt l (g.f0 - 1) level sos = sideAt l g.f1 level eos then sideAt l (g.f0 - 1) level sos else dirOf level
theorem dir01 (n : Int) : dirOf n = 0 ∨ dirOf n = 1 := by
  unfold dirOf
  split
  · exact .inr rfl
  · exact .inl rfl
theorem side01 (l : List Int) (i level e : Int) : sideAt l i level e = 0 ∨ sideAt l i level e = 1 := by
  unfold sideAt endOf sdOf sideK
  have := dir01 level
  repeat' split
  all_goals first | (left; rfl) | (right; rfl) | exact this | (exfalso; omega)
theorem to01 (l : List Int) (level sos eos : Int) (g : S38) : toOf l level sos eos g = 0 ∨ toOf l level sos eos g = 1 := by
  unfold toOf
  split
  · exact side01 _ _ _ _
  · exact dir01 _
def levelOf (c n : Int) : Int := if c = 0 then wrap64 (n + n % 2) else if c = 1 then wrap64 (n + 1 - n % 2) else if c = 3 ∨ c = 6 then wrap64 (n + 2 - n % 2) else n
theorem level_eq (c n : Int) (h0 : -9223372036854775808 ≤ n) (h1 : n ≤ 9223372036854775807) : neutral_Level.f c n = some (levelOf c n) := by
  unfold neutral_Level.f levelOf
  rw [and_one]
  have e1 : wrap64 (wrap64 (n + 1) - n % 2) = wrap64 (n + 1 - n % 2) := by unfold wrap64; omega
  have e2 : wrap64 (wrap64 (n + 2) - n % 2) = wrap64 (n + 2 - n % 2) := by unfold wrap64; omega
  rw [e1, e2]
  by_cases h0 : c = 0
  · simp [h0]
  · by_cases h1 : c = 1
    · simp [h1]
    · by_cases h3 : c = 3
      · simp [h3]
      · by_cases h6 : c = 6
        · simp [h6]
        · simp [h0, h1, h3, h6]
theorem levels_loop (l : List Int) (n : Int) (h0 : -9223372036854775808 ≤ n) (h1 : n ≤ 9223372036854775807) (hn : l.length ≤ 500) (d : Nat) : ∀ (k i : Nat) (acc : List Int), i ≤ l.length → l.length - i = d → d < k → acc.length = i →
    neutral_Levels.l0 k n acc l (l.length : Int) (i : Int) = some (acc ++ (l.drop i).map fun c => levelOf c n) := by
  induction d with
  | zero =>
    intro k i acc hi hd hk ha
    obtain ⟨k, rfl⟩ : ∃ m, k = m + 1 := ⟨k - 1, by omega⟩
    simp only [neutral_Levels.l0]
    rw [if_neg (by omega), List.drop_eq_nil_of_le (by omega)]
    simp
  | succ d ih =>
    intro k i acc hi hd hk ha
    obtain ⟨k, rfl⟩ : ∃ m, k = m + 1 := ⟨k - 1, by omega⟩
    simp only [neutral_Levels.l0]
    rw [if_pos (by omega), if_pos (by omega), if_pos (by omega), level_eq _ n h0 h1]
    simp only [Option.bind_some]
    rw [if_pos (by omega), wrap_succ i (by omega), ih k (i + 1) _ (by omega) (by omega) (by omega) (by simp [ha]), drop_cons l i (by omega)]
    simp
theorem levels_eq (k : Nat) (l : List Int) (n : Int) (h0 : -9223372036854775808 ≤ n) (h1 : n ≤ 9223372036854775807) (hn : l.length ≤ 500) (hk : l.length < k) : neutral_Levels.f k l n = some (l.map fun c => levelOf c n) := by
  unfold neutral_Levels.f
  have := levels_loop l n h0 h1 hn l.length k 0 [] (by omega) (by omega) hk rfl
  simpa using this

/-! ### the groups' places, and Of -/
def goodG (n : Nat) (g : S38) : Prop := 0 ≤ g.f0 ∧ g.f0 < g.f1 ∧ g.f1 ≤ (n : Int)
theorem grp_good (n : Nat) : ∀ (l : List Int) (s : Nat) (o : Option Nat), s + l.length = n → (∀ a, o = some a → a < s) → ∀ g ∈ grp s o l, goodG n g
  | [], s, o, hs, ho, g, hg => by
    cases o with
    | none => simp [grp] at hg
    | some a =>
      simp only [grp, List.mem_singleton] at hg
      subst hg
      have := ho a rfl
      simp only [List.length_nil] at hs
      exact ⟨by dsimp only; omega, by dsimp only; omega, by dsimp only; omega⟩
  | c :: l, s, o, hs, ho, g, hg => by
    simp only [List.length_cons] at hs
    by_cases hq : neuK c = true
    · simp only [grp, if_pos hq] at hg
      refine grp_good n l (s + 1) _ (by omega) (fun a ha => ?_) g hg
      cases o with
      | none => simp at ha; omega
      | some b => have := ho b rfl; simp at ha; omega
    · simp only [grp, if_neg hq] at hg
      cases o with
      | none => exact grp_good n l (s + 1) none (by omega) (fun a ha => by cases ha) g hg
      | some b =>
        have := ho b rfl
        simp only [List.mem_cons] at hg
        rcases hg with rfl | hg
        · exact ⟨by dsimp only; omega, by dsimp only; omega, by dsimp only; omega⟩
        · exact grp_good n l (s + 1) none (by omega) (fun a ha => by cases ha) g hg
theorem groups_good (l : List Int) : ∀ g ∈ groupsOf l, goodG l.length g := grp_good l.length l 0 none (by simp) (fun a h => by cases h)
/-- The places from a on, up to b, become v. -/
def fillR (out : List Int) (v : Int) (a : Nat) : Nat → List Int
  | 0 => out
  | n + 1 => fillR (out.set a v) v (a + 1) n
theorem fillR_len (v : Int) : ∀ (n a : Nat) (out : List Int), (fillR out v a n).length = out.length
  | 0, _, _ => rfl
  | n + 1, a, out => by rw [fillR, fillR_len v n (a + 1), List.length_set]
def fillG (f : S38 → Int) : List S38 → List Int → List Int
  | [], out => out
  | g :: gs, out => fillG f gs (fillR out (f g) g.f0.toNat (g.f1.toNat - g.f0.toNat))
theorem fillG_len (f : S38 → Int) : ∀ (gs : List S38) (out : List Int), (fillG f gs out).length = out.length
  | [], _ => rfl
  | g :: gs, out => by rw [fillG, fillG_len f gs, fillR_len]
theorem rdG (gs : List S38) (i : Nat) (h : i < gs.length) : rd_T38 gs (i : Int) = gs[i] := by
  unfold rd_T38
  rw [Int.toNat_natCast, List.getD_eq_getElem?_getD, List.getElem?_eq_getElem h, Option.getD_some]
theorem dropG (gs : List S38) (i : Nat) (h : i < gs.length) : gs.drop i = rd_T38 gs (i : Int) :: gs.drop (i + 1) := by
  rw [rdG gs i h]
  exact List.drop_eq_getElem_cons h
theorem fill_loop (l : List Int) (x1 x2 x3 : Int) (gs : List S38) (y : Int) (v a1 b1 : Int) (r : Option (List Int)) (hl : l.length ≤ 500) (K : Nat) (out' : List Int)
    (hr : ∀ k, K ≤ k → neutral_Of.l0 k l x1 x2 x3 out' gs (gs.length : Int) (wrap64 (y + 1)) = r) (d : Nat) : ∀ (k p : Nat) (out : List Int), out.length = l.length → ((p + d : Nat) : Int) = b1 → b1 ≤ (l.length : Int) → K + d < k → fillR out v p d = out' →
    neutral_Of.l1 k l x1 x2 x3 out v (p : Int) gs (gs.length : Int) y a1 b1 = r := by
  induction d with
  | zero =>
    intro k p out ho hp hb hk hf
    obtain ⟨k, rfl⟩ : ∃ m, k = m + 1 := ⟨k - 1, by omega⟩
    simp only [neutral_Of.l1]
    rw [if_neg (by omega)]
    simp only [fillR] at hf
    subst hf
    exact hr k (by omega)
  | succ d ih =>
    intro k p out ho hp hb hk hf
    obtain ⟨k, rfl⟩ : ∃ m, k = m + 1 := ⟨k - 1, by omega⟩
    simp only [neutral_Of.l1]
    rw [if_pos (by omega), if_pos (by omega), if_pos (by omega), wrap_succ p (by omega), Int.toNat_natCast]
    exact ih k (p + 1) _ (by rw [List.length_set]; exact ho) (by omega) hb (by omega) hf
theorem of_loop (l : List Int) (x1 x2 x3 : Int) (gs : List S38) (hl : l.length ≤ 500) (hg : ∀ g ∈ gs, goodG l.length g) (hgl : gs.length < 9223372036854775807) (d : Nat) : ∀ (k i : Nat) (out : List Int), i ≤ gs.length → gs.length - i = d → d * (l.length + 3) + 2 < k → out.length = l.length →
    neutral_Of.l0 k l x1 x2 x3 out gs (gs.length : Int) (i : Int) = some (fillG (toOf l x1 x2 x3) (gs.drop i) out) := by
  induction d with
  | zero =>
    intro k i out hi hd hk ho
    obtain ⟨k, rfl⟩ : ∃ m, k = m + 1 := ⟨k - 1, by omega⟩
    simp only [neutral_Of.l0]
    rw [if_neg (by omega), List.drop_eq_nil_of_le (by omega)]
    rfl
  | succ d ih =>
    intro k i out hi hd hk ho
    have hmul : (d + 1) * (l.length + 3) = d * (l.length + 3) + (l.length + 3) := Nat.succ_mul _ _
    obtain ⟨k, rfl⟩ : ∃ m, k = m + 2 := ⟨k - 2, by omega⟩
    have hmem : gs[i]'(by omega) ∈ gs := List.getElem_mem _
    have hgi := hg _ hmem
    rw [dropG gs i (by omega), rdG gs i (by omega)]
    obtain ⟨g, hge⟩ : ∃ g, g = gs[i]'(by omega) := ⟨_, rfl⟩
    rw [← hge] at hgi ⊢
    obtain ⟨g0, g1, g2⟩ := hgi
    simp only [neutral_Of.l0]
    rw [if_pos (by omega), if_pos (by omega), if_pos (by omega), rdG gs i (by omega), ← hge, dir_eq]
    simp only [Option.bind_some]
    rw [wrap_id (by omega) (by omega), side_eq _ (by omega), side_eq _ (by omega)]
    simp only [Option.bind_some]
    have fin : ∀ v, v = toOf l x1 x2 x3 g → neutral_Of.j1 (k + 1) l x1 x2 x3 out v gs (gs.length : Int) (i : Int) g.f0 g.f1 = some (fillG (toOf l x1 x2 x3) (g :: gs.drop (i + 1)) out) := by
      intro v hto
      simp only [neutral_Of.j1, fillG]
      have h0 : g.f0 = ((g.f0.toNat : Nat) : Int) := by omega
      conv => lhs; arg 8; rw [h0]
      refine fill_loop l x1 x2 x3 gs (i : Int) v g.f0 g.f1 _ hl (d * (l.length + 3) + 3) (fillR out v g.f0.toNat (g.f1.toNat - g.f0.toNat)) (fun k hk => ?_) (g.f1.toNat - g.f0.toNat) k g.f0.toNat out ho (by omega) g2 (by omega) rfl
      rw [wrap_succ i (by omega), ih k (i + 1) _ (by omega) (by omega) (by omega) (by rw [fillR_len]; exact ho), hto]
    by_cases h : sideAt l (g.f0 - 1) x1 x2 = sideAt l g.f1 x1 x3
    · rw [if_pos h]
      exact fin _ (by unfold toOf; rw [if_pos h])
    · rw [if_neg h]
      exact fin _ (by unfold toOf; rw [if_neg h])
def neutOf (l : List Int) (level sos eos : Int) : List Int := fillG (toOf l level sos eos) (groupsOf l) l
theorem nof_eq (k : Nat) (l : List Int) (x1 x2 x3 : Int) (hn : l.length ≤ 500) (hk : (l.length + 2) * (l.length + 3) + 30 < k) : neutral_Of.f k l x1 x2 x3 = some (neutOf l x1 x2 x3) := by
  have hmul : (l.length + 2) * (l.length + 3) = (l.length + 1) * (l.length + 3) + (l.length + 3) := Nat.succ_mul _ _
  have hmul2 : (l.length + 1) * (l.length + 3) = l.length * (l.length + 3) + (l.length + 3) := Nat.succ_mul _ _
  unfold neutral_Of.f slices_Clone_int.f
  rw [if_pos (by omega), groups_eq k l hn (by omega)]
  simp only [Option.bind_some]
  have hgl := grp_len l 0 none
  have hle : (groupsOf l).length * (l.length + 3) ≤ (l.length + 1) * (l.length + 3) := Nat.mul_le_mul_right _ hgl
  have := of_loop l x1 x2 x3 (groupsOf l) (by omega) (groups_good l) (by unfold groupsOf; omega) (groupsOf l).length k 0 l (by omega) (by omega) (by omega) rfl
  simp only [List.drop_zero] at this
  exact this
end Go.Proofs.Ytcmndocfadhonaa.P
