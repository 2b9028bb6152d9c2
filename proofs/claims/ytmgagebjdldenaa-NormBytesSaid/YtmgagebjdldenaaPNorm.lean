/- Proved: what the functions of norm, and the document's answers for them, tell of any list; conditions: enough rounds, at most 4000 numbers. -/
import Derived.Test.YtmgagebjdldenaaPClass
import Derived.Test.YtmgagebjdldenaaPInts
import Derived.Test.YtmgagebjdldenaaPPlaces
import Derived.Test.YtmgagebjdldenaaPMir
import Derived.Test.YtmgagebjdldenaaPFold
import Derived.Test.YtmgagebjdldenaaSOf
import Derived.Test.YtmgagebjdldenaaPx4
import Derived.Test.YtmgagebjdldenaaPx5
import Derived.Test.YtmgagebjdldenaaPx6
import Derived.Test.YtmgagebjdldenaaPx3
import Derived.Test.YtmgagebjdldenaaPx7
import Derived.Test.YtmgagebjdldenaaPx8
import Derived.Test.YtmgagebjdldenaaPx9
namespace Go.Proofs.Ytmgagebjdldenaa.P
open Go.RowKit Go.Proofs.YtmgagebjdldenaaW.PrintWords Go.Proofs.YtmgagebjdldenaaW.PrintLast Go.Proofs.YtmgagebjdldenaaW.PrintMore
set_option linter.unusedVariables false
set_option linter.unusedSimpArgs false

/-! ### controls -/
def opnK (k : Int) : Bool := decide (k ∈ [19, 20, 21])
theorem opens_eq0 (k : Int) : class_Opens.f 8 k = some (opnK k) := by
  revert k
  refine by_class _ (by decide +kernel) fun k h => ?_
  obtain ⟨b, hb⟩ : ∃ b, class_set.f 8 ([19, 20, 21] : List Int) = some b := Option.isSome_iff_exists.1 (by decide +kernel)
  have e : opnK k = false := by
    unfold opnK
    rw [decide_eq_false_iff_not]
    simp only [List.mem_cons, List.not_mem_nil, or_false]
    omega
  unfold class_Opens.f
  rw [hb, e]
  simp only [Option.bind_some]
  rw [in_out k b h]
  rfl
theorem opens_eq (n : Nat) (hn : 8 ≤ n) (k : Int) : class_Opens.f n k = some (opnK k) := more (class_Opens.mono k) 8 n hn _ (opens_eq0 k)
theorem ropens_eq (k : Int) : ductusref02_Opens.f k = some (opnK k) := by
  unfold ductusref02_Opens.f opnK
  repeat' split
  all_goals simp_all
  rfl
theorem rout0_eq (k : Int) : ductusref02_Out.f k = some (outK k) := by
  unfold ductusref02_Out.f outK
  repeat' split
  all_goals simp_all
  rfl
def ctlK (k : Int) : Bool := (k == 22) || opnK k || outK k
/-- Is a character a control? -/
def ctl (c : Int) : Bool := ctlK (cls c)
def nctl (c : Int) : Bool := !ctl c
theorem control_eq (k : Nat) (hk : 91 ≤ k) (c : Int) : norm_Control.f k c = some (ctl c) := by
  unfold norm_Control.f ctl ctlK
  rw [class_of_eq k hk]
  simp only [Option.bind_some]
  by_cases h : cls c = 22
  · rw [if_pos h, h]
    rfl
  · have hb : (cls c == 22) = false := by simpa using h
    rw [if_neg h, opens_eq k (by omega), hb]
    simp only [Option.bind_some, out_eq k (show 8 ≤ k by omega)]
    cases opnK (cls c) <;> simp
theorem rcls_eq (c : Int) : ductusref02_Of.f c = some (cls c) := rfl
theorem rcontrol_eq (c : Int) : ductusref23_Control.f c = some (ctl c) := by
  unfold ductusref23_Control.f ctl ctlK
  rw [rcls_eq]
  simp only [Option.bind_some, rout0_eq, ropens_eq]
  cases outK (cls c) <;> cases opnK (cls c) <;> simp

/-! ### flags -/
theorem and_one (n : Int) : Go.bits .and .i64 n 1 = 0 ∨ Go.bits .and .i64 n 1 = 1 := by
  have h1 : (BitVec.ofInt 64 1).toNat = 2 ^ 1 - 1 := by decide
  have key : (BitVec.ofInt 64 n &&& BitVec.ofInt 64 1).toNat = (n % ((2 ^ 64 : Nat) : Int)).toNat % 2 ^ 1 := by
    rw [BitVec.toNat_and, BitVec.toNat_ofInt, h1, Nat.and_two_pow_sub_one_eq_mod]
  have e : Go.bits .and .i64 n 1 = IntKind.i64.wrap ((BitVec.ofInt 64 n &&& BitVec.ofInt 64 1).toNat : Nat) := rfl
  rw [e, key, IntKind.wrap_i64]
  omega
theorem and_two (n : Int) : Go.bits .and .i64 n 2 = 0 ∨ Go.bits .and .i64 n 2 = 2 := by
  obtain ⟨r, hr⟩ : ∃ r, r = (BitVec.ofInt 64 n &&& BitVec.ofInt 64 2).toNat := ⟨_, rfl⟩
  have h1 : (BitVec.ofInt 64 2).toNat = 2 := by decide
  have e : Go.bits .and .i64 n 2 = IntKind.i64.wrap (r : Nat) := by rw [hr]; rfl
  rw [BitVec.toNat_and, h1] at hr
  have h2 : r ≤ 2 := by rw [hr]; exact Nat.and_le_right
  have h3 : r.testBit 0 = false := by rw [hr, Nat.testBit_and]; simp
  rw [Nat.testBit_zero, decide_eq_false_iff_not] at h3
  rw [e, IntKind.wrap_i64]
  omega
def trF (flags c : Int) : Int := if Go.bits .and .i64 flags 1 = 0 then c else foldc c
def trM (flags c : Int) : Int := if Go.bits .and .i64 flags 2 = 0 then c else mn c (mir c)
/-- What is searched in a character's place. -/
def tr (flags c : Int) : Int := trM flags (trF flags c)
def chrs (flags : Int) (l : List Int) : List Int := (l.filter nctl).map (tr flags)
def plcs (l : List Int) : List Int := placesOf nctl 0 l ++ [(l.length : Int)]

theorem all_loop (l : List Int) (hn : l.length ≤ 4000) (d : Nat) : ∀ (k i : Nat) (acc : List Int), i ≤ l.length → l.length - i = d → d + 12 < k → acc.length = i →
    fold_All.l0 k acc l (l.length : Int) (i : Int) = some (acc ++ (l.drop i).map foldc) := by
  induction d with
  | zero =>
    intro k i acc hi hd hk ha
    obtain ⟨k, rfl⟩ : ∃ m, k = m + 1 := ⟨k - 1, by omega⟩
    simp only [fold_All.l0]
    rw [if_neg (by omega), List.drop_eq_nil_of_le (by omega)]
    simp
  | succ d ih =>
    intro k i acc hi hd hk ha
    obtain ⟨k, rfl⟩ : ∃ m, k = m + 1 := ⟨k - 1, by omega⟩
    simp only [fold_All.l0]
    rw [if_pos (by omega), if_pos (by omega), if_pos (by omega), fold_eq k (by omega)]
    simp only [Option.bind_some]
    rw [if_pos (by omega), wrap_succ i (by omega), ih k (i + 1) _ (by omega) (by omega) (by omega) (by simp [ha]), drop_cons l i (by omega)]
    simp
theorem all_eq (k : Nat) (l : List Int) (hn : l.length ≤ 4000) (hk : l.length + 12 < k) : fold_All.f k l = some (l.map foldc) := by
  unfold fold_All.f
  have := all_loop l hn l.length k 0 [] (by omega) (by omega) hk rfl
  simpa using this
theorem filter_len (l : List Int) : (l.filter nctl).length ≤ l.length := List.length_filter_le _ _
theorem of_loop (l0 : List Int) (flags : Int) (hn : l0.length ≤ 4000) (d : Nat) : ∀ (k i : Nat) (acc at_ : List Int), i ≤ l0.length → l0.length - i = d → d + l0.length + 100 < k → acc.length ≤ i → at_.length ≤ i →
    norm_Of.l0 k l0 flags acc at_ l0 (l0.length : Int) (i : Int) = some ((acc ++ (l0.drop i).filter nctl).map (tr flags), at_ ++ placesOf nctl i (l0.drop i) ++ [(l0.length : Int)]) := by
  induction d with
  | zero =>
    intro k i acc at_ hi hd hk ha hb
    obtain ⟨k, rfl⟩ : ∃ m, k = m + 1 := ⟨k - 1, by omega⟩
    simp only [norm_Of.l0]
    rw [if_neg (by omega), List.drop_eq_nil_of_le (by omega)]
    simp only [placesOf, List.filter_nil, List.append_nil]
    by_cases h1 : Go.bits .and .i64 flags 1 = 0
    · rw [if_pos h1]
      by_cases h2 : Go.bits .and .i64 flags 2 = 0
      · rw [if_pos h2, if_pos (by omega)]
        have e : acc.map (tr flags) = acc := by
          have : ∀ c, tr flags c = c := fun c => by unfold tr trM trF; rw [if_pos h2, if_pos h1]
          rw [List.map_congr_left (fun c _ => this c), List.map_id']
        rw [e]
      · rw [if_neg h2, plain_eq k acc (by omega) (by omega)]
        simp only [Option.bind_some]
        rw [if_pos (by omega)]
        have e : acc.map (tr flags) = plainL acc := by
          unfold plainL
          exact List.map_congr_left fun c _ => by unfold tr trM trF; rw [if_neg h2, if_pos h1]
        rw [e]
    · rw [if_neg h1, all_eq k acc (by omega) (by omega)]
      simp only [Option.bind_some]
      by_cases h2 : Go.bits .and .i64 flags 2 = 0
      · rw [if_pos h2, if_pos (by omega)]
        have e : acc.map (tr flags) = acc.map foldc := List.map_congr_left fun c _ => by unfold tr trM trF; rw [if_pos h2, if_neg h1]
        rw [e]
      · rw [if_neg h2, plain_eq k (acc.map foldc) (by simp; omega) (by simp; omega)]
        simp only [Option.bind_some]
        rw [if_pos (by omega)]
        have e : acc.map (tr flags) = plainL (acc.map foldc) := by
          unfold plainL
          rw [List.map_map]
          exact List.map_congr_left fun c _ => by unfold tr trM trF; rw [if_neg h2, if_neg h1]; rfl
        rw [e]
  | succ d ih =>
    intro k i acc at_ hi hd hk ha hb
    obtain ⟨k, rfl⟩ : ∃ m, k = m + 1 := ⟨k - 1, by omega⟩
    simp only [norm_Of.l0]
    rw [if_pos (by omega), if_pos (by omega), if_pos (by omega), control_eq k (by omega)]
    simp only [Option.bind_some]
    rw [wrap_succ i (by omega), drop_cons l0 i (by omega)]
    by_cases h : ctl (rd l0 (i : Int)) = true
    · have h2 : nctl (rd l0 (i : Int)) = false := by unfold nctl; rw [h]; rfl
      rw [if_pos h, ih k (i + 1) acc at_ (by omega) (by omega) (by omega) (by omega) (by omega)]
      simp [placesOf, h2]
    · have h2 : nctl (rd l0 (i : Int)) = true := by unfold nctl; simpa using h
      rw [if_neg h, if_pos (by omega), if_pos (by omega), ih k (i + 1) _ _ (by omega) (by omega) (by omega) (by simp; omega) (by simp; omega)]
      simp [placesOf, h2]
theorem norm_of_eq (k : Nat) (l : List Int) (flags : Int) (hn : l.length ≤ 4000) (hk : 2 * l.length + 100 < k) : norm_Of.f k l flags = some (chrs flags l, plcs l) := by
  unfold norm_Of.f chrs plcs
  have := of_loop l flags hn l.length k 0 [] [] (by omega) (by omega) (by omega) (by simp) (by simp)
  simpa using this
theorem rnorm_loop (l0 : List Int) (flags : Int) (hn : l0.length ≤ 4000) (d : Nat) : ∀ (k i : Nat) (acc at_ : List Int), i ≤ l0.length → l0.length - i = d → d + 100 < k → acc.length ≤ i → at_.length ≤ i →
    ductusref23_Of.l0 k l0 flags acc at_ (i : Int) = some (acc ++ ((l0.drop i).filter nctl).map (tr flags), at_ ++ placesOf nctl i (l0.drop i) ++ [(l0.length : Int)]) := by
  induction d with
  | zero =>
    intro k i acc at_ hi hd hk ha hb
    obtain ⟨k, rfl⟩ : ∃ m, k = m + 1 := ⟨k - 1, by omega⟩
    simp only [ductusref23_Of.l0]
    rw [if_neg (by omega), if_pos (by omega), List.drop_eq_nil_of_le (by omega)]
    simp [placesOf]
  | succ d ih =>
    intro k i acc at_ hi hd hk ha hb
    obtain ⟨k, rfl⟩ : ∃ m, k = m + 1 := ⟨k - 1, by omega⟩
    simp only [ductusref23_Of.l0]
    rw [if_pos (by omega), if_pos (by omega), rcontrol_eq]
    simp only [Option.bind_some]
    rw [wrap_succ i (by omega), drop_cons l0 i (by omega)]
    by_cases h : ctl (rd l0 (i : Int)) = true
    · have h2 : nctl (rd l0 (i : Int)) = false := by unfold nctl; rw [h]; rfl
      rw [if_pos h, ih k (i + 1) acc at_ (by omega) (by omega) (by omega) (by omega) (by omega)]
      simp [placesOf, h2]
    · have h2 : nctl (rd l0 (i : Int)) = true := by unfold nctl; simpa using h
      have next : ∀ c, c = tr flags (rd l0 (i : Int)) → (if acc.length < 17592186044416 then (if at_.length < 17592186044416 then (ductusref23_Of.l0 k l0 flags (acc ++ [c]) (at_ ++ [(i : Int)]) ((i + 1 : Nat) : Int)) else none) else none) = some (acc ++ ((rd l0 (i : Int) :: l0.drop (i + 1)).filter nctl).map (tr flags), at_ ++ placesOf nctl i (rd l0 (i : Int) :: l0.drop (i + 1)) ++ [(l0.length : Int)]) := by
        intro c hc
        rw [if_pos (by omega), if_pos (by omega), ih k (i + 1) _ _ (by omega) (by omega) (by omega) (by simp; omega) (by simp; omega)]
        simp [placesOf, h2, hc]
      rw [if_neg h, rfold_eq k (by omega)]
      simp only [Option.bind_some, rmirror_eq k (show 14 ≤ k by omega)]
      rcases and_one flags with a1 | a1 <;> rcases and_two flags with a2 | a2
      · rw [a1, a2, if_neg (by decide), if_neg (by decide)]
        exact next _ (by unfold tr trM trF; rw [if_pos a2, if_pos a1])
      · rw [a1, a2, if_neg (by decide), if_pos rfl]
        exact next _ (by unfold tr trM trF; rw [if_neg (by rw [a2]; decide), if_pos a1])
      · rw [a1, a2, if_pos rfl, if_neg (by decide)]
        exact next _ (by unfold tr trM trF; rw [if_pos a2, if_neg (by rw [a1]; decide)])
      · rw [a1, a2, if_pos rfl, if_pos rfl]
        exact next _ (by unfold tr trM trF; rw [if_neg (by rw [a2]; decide), if_neg (by rw [a1]; decide)])
theorem rnorm_of_eq (k : Nat) (l : List Int) (flags : Int) (hn : l.length ≤ 4000) (hk : l.length + 100 < k) : ductusref23_Of.f k l flags = some (chrs flags l, plcs l) := by
  unfold ductusref23_Of.f chrs plcs
  have := rnorm_loop l flags hn l.length k 0 [] [] (by omega) (by omega) (by omega) (by simp) (by simp)
  simpa using this

/-! ### spans -/
def backOf (l : List Int) (a b : Int) : Int × Int × Bool := if 0 ≤ a ∧ a ≤ b ∧ b < (l.length : Int) then (if b > a then (rd l a, wrap64 (rd l (b - 1) + 1), true) else (rd l a, rd l a, true)) else (0, 0, false)
theorem lies_eq (a b n : Int) : norm_lies.f a b n = some (decide (0 ≤ a ∧ a ≤ b ∧ b < n)) := by
  unfold norm_lies.f
  by_cases h : a ≥ 0
  · by_cases h2 : a ≤ b
    · rw [if_pos h, if_pos h2]
      simp [show 0 ≤ a from h, h2]
    · rw [if_pos h, if_neg h2]
      simp [h2]
  · rw [if_neg h]
    have : ¬ 0 ≤ a := h
    simp [this]
theorem back_eq (l : List Int) (hn : l.length ≤ 4001) (a b : Int) : norm_Back.f l a b = some (backOf l a b) := by
  unfold norm_Back.f backOf
  rw [lies_eq]
  simp only [Option.bind_some, decide_eq_true_eq]
  by_cases h : 0 ≤ a ∧ a ≤ b ∧ b < (l.length : Int)
  · rw [if_pos h, if_pos h, if_pos h.1, if_pos (by omega)]
    by_cases h2 : b > a
    · rw [if_pos h2, if_pos h2, wrap_id (x := b - 1) (by omega) (by omega), if_pos (by omega), if_pos (by omega)]
    · rw [if_neg h2, if_neg h2]
  · rw [if_neg h, if_neg h]
theorem rback_eq (k : Nat) (hk : 1 ≤ k) (l : List Int) (hn : l.length ≤ 4001) (a b : Int) : ductusref23_Back.f k l a b = some (backOf l a b) := by
  obtain ⟨k, rfl⟩ : ∃ m, k = m + 1 := ⟨k - 1, by omega⟩
  unfold ductusref23_Back.f backOf
  simp only [ductusref23_Back.j0, if_true]
  by_cases h1 : a < 0
  · rw [if_pos h1, if_neg (by omega)]
  · rw [if_neg h1]
    by_cases h2 : a > b
    · rw [if_pos h2, if_neg (by omega)]
    · rw [if_neg h2]
      by_cases h3 : b ≥ (l.length : Int)
      · rw [decide_eq_true h3, if_pos rfl, if_neg (by omega)]
      · rw [decide_eq_false h3, if_neg (by decide), if_pos (show 0 ≤ a ∧ a ≤ b ∧ b < (l.length : Int) by omega)]
        by_cases h4 : a = b
        · rw [if_pos h4, if_neg (show ¬ b > a by omega), if_pos (by omega), if_pos (by omega)]
        · rw [if_neg h4, if_pos (show b > a by omega), if_pos (by omega), if_pos (by omega), wrap_id (x := b - 1) (by omega) (by omega), if_pos (by omega), if_pos (by omega)]
def bytesOf (l : List Int) (a b : Int) : Int × Int × Bool := if 0 ≤ a ∧ a ≤ b ∧ b < (l.length : Int) then (rd l a, rd l b, true) else (0, 0, false)
theorem bytes_eq (l : List Int) (a b : Int) : norm_Bytes.f l a b = some (bytesOf l a b) := by
  unfold norm_Bytes.f bytesOf
  rw [lies_eq]
  simp only [Option.bind_some, decide_eq_true_eq]
  by_cases h : 0 ≤ a ∧ a ≤ b ∧ b < (l.length : Int)
  · rw [if_pos h, if_pos h, if_pos h.1, if_pos (by omega), if_pos (by omega), if_pos (by omega)]
  · rw [if_neg h, if_neg h]
theorem rbytes_eq (l : List Int) (a b : Int) : ductusref23_Bytes.f l a b = some (bytesOf l a b) := by
  unfold ductusref23_Bytes.f bytesOf
  by_cases h1 : a < 0
  · rw [if_pos h1, if_neg (by omega)]
  · rw [if_neg h1]
    by_cases h2 : a > b
    · rw [if_pos h2, if_neg (by omega)]
    · rw [if_neg h2]
      by_cases h3 : b ≥ (l.length : Int)
      · rw [if_pos h3, if_neg (by omega)]
      · rw [if_neg h3, if_pos (show 0 ≤ a ∧ a ≤ b ∧ b < (l.length : Int) by omega), if_pos (by omega), if_pos (by omega), if_pos (by omega), if_pos (by omega)]
/-- How many are ahead of a place. -/
def aheadN (l : List Int) (p : Int) : Nat := (l.take (l.length - 1)).countP fun x => decide (x < p)
theorem cnt_cons (x : Int) (l : List Int) (p : Int) : (x :: l).countP (fun x => decide (x < p)) = (if x < p then 1 else 0) + l.countP fun x => decide (x < p) := by
  rw [List.countP_cons]
  split <;> simp_all <;> omega
theorem ahead_loop (l : List Int) (p : Int) (hn : l.length ≤ 4001) (d : Nat) : ∀ (k i n : Nat), i ≤ l.length → l.length - i = d → d < k → n ≤ i →
    norm_Ahead.l0 k l p (n : Int) l (l.length : Int) (i : Int) = some (((n + ((l.drop i).take (l.length - 1 - i)).countP fun x => decide (x < p) : Nat)) : Int) := by
  induction d with
  | zero =>
    intro k i n hi hd hk hb
    obtain ⟨k, rfl⟩ : ∃ m, k = m + 1 := ⟨k - 1, by omega⟩
    simp only [norm_Ahead.l0]
    rw [if_neg (by omega), List.drop_eq_nil_of_le (by omega)]
    simp
  | succ d ih =>
    intro k i n hi hd hk hb
    obtain ⟨k, rfl⟩ : ∃ m, k = m + 1 := ⟨k - 1, by omega⟩
    simp only [norm_Ahead.l0]
    rw [if_pos (by omega), if_pos (by omega), if_pos (by omega), wrap_id (x := (l.length : Int) - 1) (by omega) (by omega), wrap_succ i (by omega), wrap_succ n (by omega)]
    by_cases hl : i < l.length - 1
    · rw [if_pos (by omega), drop_cons l i (by omega)]
      have e : l.length - 1 - i = (l.length - 1 - (i + 1)) + 1 := by omega
      rw [e, List.take_succ_cons, cnt_cons]
      by_cases hp : rd l (i : Int) < p
      · rw [if_pos hp, if_pos hp, ih k (i + 1) (n + 1) (by omega) (by omega) (by omega) (by omega)]
        congr 2
        omega
      · rw [if_neg hp, if_neg hp, ih k (i + 1) n (by omega) (by omega) (by omega) (by omega)]
        congr 2
        omega
    · rw [if_neg (by omega), ih k (i + 1) n (by omega) (by omega) (by omega) (by omega)]
      have e : l.length - 1 - i = 0 := by omega
      have e2 : l.length - 1 - (i + 1) = 0 := by omega
      rw [e, e2]
      simp
theorem ahead_eq (k : Nat) (l : List Int) (p : Int) (hn : l.length ≤ 4001) (hk : l.length < k) : norm_Ahead.f k l p = some ((aheadN l p : Nat) : Int) := by
  unfold norm_Ahead.f aheadN
  have := ahead_loop l p hn l.length k 0 0 (by omega) (by omega) hk (by omega)
  simpa using this
theorem rahead_loop (l : List Int) (p : Int) (hn : l.length ≤ 4001) (d : Nat) : ∀ (k i n : Nat), i ≤ l.length - 1 → l.length - 1 - i = d → d < k → n ≤ i →
    ductusref23_Ahead.l0 k l p (n : Int) (i : Int) = some (((n + ((l.drop i).take (l.length - 1 - i)).countP fun x => decide (x < p) : Nat)) : Int) := by
  induction d with
  | zero =>
    intro k i n hi hd hk hb
    obtain ⟨k, rfl⟩ : ∃ m, k = m + 1 := ⟨k - 1, by omega⟩
    simp only [ductusref23_Ahead.l0]
    rw [wrap_id (x := (l.length : Int) - 1) (by omega) (by omega), if_neg (by omega), hd]
    simp
  | succ d ih =>
    intro k i n hi hd hk hb
    obtain ⟨k, rfl⟩ : ∃ m, k = m + 1 := ⟨k - 1, by omega⟩
    simp only [ductusref23_Ahead.l0]
    rw [wrap_id (x := (l.length : Int) - 1) (by omega) (by omega), if_pos (by omega), if_pos (by omega), if_pos (by omega), wrap_succ i (by omega), wrap_succ n (by omega), drop_cons l i (by omega)]
    have e : l.length - 1 - i = (l.length - 1 - (i + 1)) + 1 := by omega
    rw [e, List.take_succ_cons, cnt_cons]
    by_cases hp : rd l (i : Int) < p
    · rw [if_pos hp, if_pos hp, ih k (i + 1) (n + 1) (by omega) (by omega) (by omega) (by omega)]
      congr 2
      omega
    · rw [if_neg hp, if_neg hp, ih k (i + 1) n (by omega) (by omega) (by omega) (by omega)]
      congr 2
      omega
theorem rahead_eq (k : Nat) (l : List Int) (p : Int) (hn : l.length ≤ 4001) (hk : l.length < k) : ductusref23_Ahead.f k l p = some ((aheadN l p : Nat) : Int) := by
  unfold ductusref23_Ahead.f aheadN
  have := rahead_loop l p hn (l.length - 1) k 0 0 (by omega) (by omega) (by omega) (by omega)
  simpa using this

/-! ### places -/
theorem plcs_len (l : List Int) : (plcs l).length = (l.filter nctl).length + 1 := by
  unfold plcs
  rw [List.length_append, places_len]
  rfl
theorem chrs_len (flags : Int) (l : List Int) : (chrs flags l).length = (l.filter nctl).length := by
  unfold chrs
  rw [List.length_map]
theorem plcs_up (l : List Int) : List.Pairwise (· < ·) (plcs l) := by
  unfold plcs
  refine List.pairwise_append.2 ⟨places_up nctl 0 l, List.pairwise_singleton _ _, fun x hx y hy => ?_⟩
  have := places_mem nctl 0 l x hx
  simp only [List.mem_singleton] at hy
  omega
theorem plcs_in (l : List Int) : ∀ x ∈ plcs l, 0 ≤ x ∧ x ≤ (l.length : Int) := by
  intro x hx
  unfold plcs at hx
  rcases List.mem_append.1 hx with h | h
  · have := places_mem nctl 0 l x h
    omega
  · simp only [List.mem_singleton] at h
    omega
/-- The place of the i-th that is searched. -/
theorem plcs_at (l : List Int) (i : Nat) (h : i < (l.filter nctl).length) : rd (plcs l) (i : Int) = (placesOf nctl 0 l)[i]'(by rw [places_len]; exact h) := by
  rw [rd_get _ i (by rw [plcs_len]; omega)]
  unfold plcs
  rw [List.getElem_append_left]
theorem plcs_end (l : List Int) : rd (plcs l) ((l.filter nctl).length : Int) = (l.length : Int) := by
  rw [rd_get _ _ (by rw [plcs_len]; omega)]
  unfold plcs
  rw [List.getElem_append_right (by rw [places_len]; omega)]
  simp
theorem plcs_lt (l : List Int) (i : Nat) (h : i < (l.filter nctl).length) : 0 ≤ rd (plcs l) (i : Int) ∧ rd (plcs l) (i : Int) < (l.length : Int) := by
  rw [plcs_at l i h]
  have := places_mem nctl 0 l _ (List.getElem_mem (show i < (placesOf nctl 0 l).length by rw [places_len]; exact h))
  omega
theorem plcs_mono (l : List Int) (i j : Nat) (h : i < j) (hj : j ≤ (l.filter nctl).length) : rd (plcs l) (i : Int) < rd (plcs l) (j : Int) := by
  rw [rd_get _ i (by rw [plcs_len]; omega), rd_get _ j (by rw [plcs_len]; omega)]
  exact List.pairwise_iff_getElem.1 (plcs_up l) i j _ _ h
theorem plcs_chr (l : List Int) (i : Nat) (h : i < (l.filter nctl).length) : rd l (rd (plcs l) (i : Int)) = (l.filter nctl)[i] := by
  rw [plcs_at l i h]
  have e := places_rd nctl l 0 l rfl
  have e2 := congrArg (fun z => z[i]?) e
  simp only [List.getElem?_map, List.getElem?_eq_getElem h, List.getElem?_eq_getElem (show i < (placesOf nctl 0 l).length by rw [places_len]; exact h), Option.map_some, Option.some.injEq] at e2
  exact e2
theorem chrs_at (flags : Int) (l : List Int) (i : Nat) (h : i < (l.filter nctl).length) : rd (chrs flags l) (i : Int) = tr flags (rd l (rd (plcs l) (i : Int))) := by
  rw [plcs_chr l i h, rd_get _ i (by rw [chrs_len]; exact h)]
  unfold chrs
  rw [List.getElem_map]
theorem plcs_nctl (l : List Int) (i : Nat) (h : i < (l.filter nctl).length) : ctl (rd l (rd (plcs l) (i : Int))) = false := by
  rw [plcs_chr l i h]
  have e : nctl ((l.filter nctl)[i]) = true := (List.mem_filter.1 (List.getElem_mem h)).2
  obtain ⟨c, hc⟩ : ∃ c, c = (l.filter nctl)[i] := ⟨_, rfl⟩
  rw [← hc] at e ⊢
  unfold nctl at e
  simpa using e
theorem cnt_split {p : Int → Bool} : ∀ (a b : List Int), (∀ x ∈ a, p x = true) → (∀ x ∈ b, p x = false) → (a ++ b).countP p = a.length := by
  intro a b ha hb
  rw [List.countP_append, List.countP_eq_length.2 ha, List.countP_eq_zero.2 (fun x hx => by rw [hb x hx]; decide)]
  omega
theorem ahead_place (l : List Int) (i : Nat) (h : i ≤ (l.filter nctl).length) : aheadN (plcs l) (rd (plcs l) (i : Int)) = i := by
  unfold aheadN
  have e : (plcs l).take ((plcs l).length - 1) = placesOf nctl 0 l := by
    rw [plcs_len, Nat.add_sub_cancel, ← places_len nctl 0 l]
    unfold plcs
    rw [List.take_left']
    rfl
  have hlen := places_len nctl 0 l
  have sp : placesOf nctl 0 l = (placesOf nctl 0 l).take i ++ (placesOf nctl 0 l).drop i := (List.take_append_drop i _).symm
  have atj : ∀ j : Nat, ∀ hj : j < (placesOf nctl 0 l).length, (placesOf nctl 0 l)[j] = rd (plcs l) (j : Int) := fun j hj => (plcs_at l j (by omega)).symm
  rw [e, sp, cnt_split]
  · rw [List.length_take]
    omega
  · intro x hx
    obtain ⟨j, hj, rfl⟩ := List.getElem_of_mem hx
    rw [List.length_take] at hj
    rw [List.getElem_take, atj j (by omega)]
    exact decide_eq_true (plcs_mono l j i (by omega) h)
  · intro x hx
    obtain ⟨j, hj, rfl⟩ := List.getElem_of_mem hx
    rw [List.length_drop] at hj
    rw [List.getElem_drop, atj (i + j) (by omega)]
    refine decide_eq_false (fun hlt => ?_)
    by_cases h0 : j = 0
    · subst h0
      simp at hlt
    · have := plcs_mono l i (i + j) (by omega) (by omega)
      omega
theorem take_place (p : Int → Bool) : ∀ (l : List Int) (s i : Nat) (x : Int), (placesOf p s l)[i]? = some x →
    (l.take (x.toNat - s)).filter p = (l.filter p).take i ∧ (l.take (x.toNat - s + 1)).filter p = (l.filter p).take (i + 1) ∧ s ≤ x.toNat
  | [], s, i, x, h => by simp [placesOf] at h
  | c :: l, s, i, x, h => by
    by_cases hc : p c = true
    · simp only [placesOf, if_pos hc] at h
      cases i with
      | zero =>
        simp only [List.getElem?_cons_zero, Option.some.injEq] at h
        subst h
        simp [hc]
      | succ i =>
        rw [List.getElem?_cons_succ] at h
        obtain ⟨h1, h2, h3⟩ := take_place p l (s + 1) i x h
        have e : x.toNat - s = (x.toNat - (s + 1)) + 1 := by omega
        rw [e]
        simp only [List.take_succ_cons, List.filter_cons, if_pos hc, h1]
        refine ⟨trivial, ?_, by omega⟩
        rw [h2]
    · simp only [placesOf, if_neg hc] at h
      obtain ⟨h1, h2, h3⟩ := take_place p l (s + 1) i x h
      have e : x.toNat - s = (x.toNat - (s + 1)) + 1 := by omega
      rw [e]
      simp only [List.take_succ_cons, List.filter_cons, if_neg hc, h1]
      exact ⟨trivial, h2, by omega⟩
theorem mid_filter (p : Int → Bool) (l : List Int) (a b m n : Nat) (hab : a ≤ b) (hmn : m ≤ n) (hn : n ≤ (l.filter p).length) (ha : (l.take a).filter p = (l.filter p).take m) (hb : (l.take b).filter p = (l.filter p).take n) :
    ((l.take b).drop a).filter p = ((l.filter p).take n).drop m := by
  have e : l.take b = l.take a ++ (l.take b).drop a := by
    have := (List.take_append_drop a (l.take b)).symm
    rwa [List.take_take, Nat.min_eq_left hab] at this
  have e2 : (l.filter p).take n = (l.filter p).take m ++ ((l.take b).drop a).filter p := by
    rw [← hb, ← ha, ← List.filter_append, ← e]
  rw [e2, List.drop_left' (by rw [List.length_take]; omega)]
theorem tr_tr (flags c : Int) : tr flags (tr flags c) = tr flags c := by
  have h1 : ∀ c, foldc (foldc c) = foldc c := fold_fold
  have h2 : ∀ c, mn (mn c (mir c)) (mir (mn c (mir c))) = mn c (mir c) := by
    refine by_keys _ (by decide +kernel) fun c h => ?_
    rw [mir_out h]
    have : mn c c = c := by unfold mn; split <;> rfl
    rw [this, mir_out h, this]
  have h3 : ∀ c, foldc (mn (foldc c) (mir (foldc c))) = mn (foldc c) (mir (foldc c)) := by
    refine by_fkeys _ (by decide +kernel) fun c h => ?_
    rw [fold_out h]
    revert c
    refine by_keys _ (by decide +kernel) fun c h hf => ?_
    rw [mir_out h]
    have : mn c c = c := by unfold mn; split <;> rfl
    rw [this, fold_out hf]
  unfold tr trM trF
  by_cases a : Go.bits .and .i64 flags 1 = 0 <;> by_cases b : Go.bits .and .i64 flags 2 = 0
  · simp only [if_pos a, if_pos b]
  · simp only [if_pos a, if_neg b, h2]
  · simp only [if_neg a, if_pos b, h1]
  · simp only [if_neg a, if_neg b, h3, h2]
theorem ctl_tr (flags c : Int) (h : ctl c = false) : ctl (tr flags c) = false := by
  have h1 : ∀ c, ctl c = false → ctl (foldc c) = false := by
    refine by_fkeys _ (by decide +kernel) fun c h hc => ?_
    rw [fold_out h]
    exact hc
  have h2 : ∀ c, ctl c = false → ctl (mn c (mir c)) = false := by
    refine by_keys _ (by decide +kernel) fun c h hc => ?_
    rw [mir_out h]
    have : mn c c = c := by unfold mn; split <;> rfl
    rw [this]
    exact hc
  unfold tr trM trF
  split <;> split
  · exact h
  · exact h1 c h
  · exact h2 c h
  · exact h2 _ (h1 c h)
theorem chrs_twice (flags : Int) (l : List Int) : chrs flags (chrs flags l) = chrs flags l := by
  have e : (chrs flags l).filter nctl = chrs flags l := by
    rw [List.filter_eq_self]
    intro x hx
    unfold chrs at hx
    obtain ⟨c, hc, rfl⟩ := List.mem_map.1 hx
    have := (List.mem_filter.1 hc).2
    unfold nctl at this ⊢
    rw [ctl_tr flags c (by simpa using this)]
    rfl
  show (List.filter nctl (chrs flags l)).map (tr flags) = _
  rw [e]
  unfold chrs
  rw [List.map_map]
  exact List.map_congr_left fun c _ => tr_tr flags c
theorem chrs_app (flags : Int) (a b : List Int) : chrs flags (a ++ b) = chrs flags a ++ chrs flags b := by
  unfold chrs
  rw [List.filter_append, List.map_append]
theorem plcs_app (a b : List Int) : plcs (a ++ b) = placesOf nctl 0 a ++ (plcs b).map fun x => (a.length : Int) + x := by
  unfold plcs
  rw [places_app, List.map_append, List.append_assoc]
  have := places_shift nctl a.length 0 b
  simp only [Nat.add_zero] at this
  simp only [Nat.zero_add, this]
  simp
theorem cnt_ctl : ∀ l : List Int, l.countP ctl + (l.filter nctl).length = l.length
  | [] => rfl
  | c :: l => by
    have := cnt_ctl l
    by_cases h : ctl c = true
    · have h2 : nctl c = false := by unfold nctl; rw [h]; rfl
      simp [h, h2]
      omega
    · have h2 : nctl c = true := by unfold nctl; simpa using h
      simp [h, h2]
      omega
end Go.Proofs.Ytmgagebjdldenaa.P
