/- Texts of this claim put together by a program of its own, what no law of the claim uses left out: each part's statements bear their own conditions. -/
import Derived.Test.YthgmkbghdobmlaaN0
import Derived.Test.YthgmkbghdobmlaaN1
import Derived.Test.YthgmkbghdobmlaaN7
import Derived.Test.YthgmkbghdobmlaaN11
import Derived.Test.YthgmkbghdobmlaaN6
import Derived.Test.YthgmkbghdobmlaaN3
import Derived.Test.YthgmkbghdobmlaaN2
import Derived.Test.YthgmkbghdobmlaaN8
namespace Go.Proofs.Ythgmkbghdobmlaa.P
open Go.RowKit Go.Proofs.YthgmkbghdobmlaaW.PrintWords Go.Proofs.YthgmkbghdobmlaaW.PrintLast Go.Proofs.YthgmkbghdobmlaaW.PrintMore
set_option linter.unusedVariables false
set_option linter.unusedSimpArgs false

def fspans : List (Int × Nat × Int) := [(65, 26, 32), (181, 1, 775), (192, 23, 32), (216, 7, 32), (913, 17, 32), (931, 7, 32), (962, 1, 1), (1024, 16, 80), (1040, 32, 32), (7838, 1, -7615)]
def fkeys : List Int := fspans.flatMap fun s => (List.range s.2.1).map fun (i : Nat) => s.1 + (i : Int)
def foldFrom (c : Int) : List (Int × Nat × Int) → Int
  | [] => c
  | s :: t => if s.1 ≤ c ∧ c < s.1 + (s.2.1 : Int) then c + s.2.2 else foldFrom c t
/-- What a character is folded into. -/
def foldc (c : Int) : Int := foldFrom c fspans
theorem fkeys_no {c : Int} (h : c ∉ fkeys) : ∀ s ∈ fspans, ¬ (s.1 ≤ c ∧ c < s.1 + (s.2.1 : Int)) := by
  intro s hs hc
  refine h ?_
  unfold fkeys
  rw [List.mem_flatMap]
  refine ⟨s, hs, ?_⟩
  rw [List.mem_map]
  refine ⟨(c - s.1).toNat, ?_, ?_⟩
  · rw [List.mem_range]
    omega
  · omega
theorem foldFrom_out (c : Int) : ∀ l : List (Int × Nat × Int), (∀ s ∈ l, ¬ (s.1 ≤ c ∧ c < s.1 + (s.2.1 : Int))) → foldFrom c l = c
  | [], _ => rfl
  | s :: t, h => by
    simp only [foldFrom]
    rw [if_neg (h s List.mem_cons_self)]
    exact foldFrom_out c t fun x hx => h x (List.mem_cons_of_mem _ hx)
theorem fold_out {c : Int} (h : c ∉ fkeys) : foldc c = c := foldFrom_out c fspans (fkeys_no h)
theorem by_fkeys (P : Int → Prop) (hin : ∀ c ∈ fkeys, P c) (hout : ∀ c, c ∉ fkeys → P c) (c : Int) : P c := by
  by_cases h : c ∈ fkeys
  · exact hin c h
  · exact hout c h
theorem fold_eq0 (c : Int) : fold_Of.f 12 c = some (foldc c) := by
  revert c
  refine by_fkeys _ (by decide +kernel) fun c h => ?_
  rw [fold_out h]
  have hn := fkeys_no h
  simp only [fspans, List.mem_cons, List.not_mem_nil, or_false, forall_eq_or_imp, forall_eq] at hn
  obtain ⟨h0, h1, h2, h3, h4, h5, h6, h7, h8, h9⟩ := hn
  have q0 : ¬ (c ≥ 65 ∧ c ≤ 90) := by omega
  have q1 : ¬ (c ≥ 181 ∧ c ≤ 181) := by omega
  have q2 : ¬ (c ≥ 192 ∧ c ≤ 214) := by omega
  have q3 : ¬ (c ≥ 216 ∧ c ≤ 222) := by omega
  have q4 : ¬ (c ≥ 913 ∧ c ≤ 929) := by omega
  have q5 : ¬ (c ≥ 931 ∧ c ≤ 937) := by omega
  have q6 : ¬ (c ≥ 962 ∧ c ≤ 962) := by omega
  have q7 : ¬ (c ≥ 1024 ∧ c ≤ 1039) := by omega
  have q8 : ¬ (c ≥ 1040 ∧ c ≤ 1071) := by omega
  have q9 : ¬ (c ≥ 7838 ∧ c ≤ 7838) := by omega
  have two : ∀ (a b : Int) (x y : Option Int), ¬ (c ≥ a ∧ c ≤ b) → (if c ≥ a then (if c ≤ b then x else y) else y) = y := by
    intro a b x y hq
    by_cases e1 : c ≥ a
    · rw [if_pos e1, if_neg (fun e2 => hq ⟨e1, e2⟩)]
    · rw [if_neg e1]
  have s0 : wrap64 (0 + 1) = 1 := by decide +kernel
  have s1 : wrap64 (1 + 1) = 2 := by decide +kernel
  have s2 : wrap64 (2 + 1) = 3 := by decide +kernel
  have s3 : wrap64 (3 + 1) = 4 := by decide +kernel
  have s4 : wrap64 (4 + 1) = 5 := by decide +kernel
  have s5 : wrap64 (5 + 1) = 6 := by decide +kernel
  have s6 : wrap64 (6 + 1) = 7 := by decide +kernel
  have s7 : wrap64 (7 + 1) = 8 := by decide +kernel
  have s8 : wrap64 (8 + 1) = 9 := by decide +kernel
  have s9 : wrap64 (9 + 1) = 10 := by decide +kernel
  unfold fold_Of.f fold_stretches.f
  simp only [Option.bind_some, List.length_cons, List.length_nil]
  simp only [fold_Of.l0, rd_T87, two _ _ _ _ q0, two _ _ _ _ q1, two _ _ _ _ q2, two _ _ _ _ q3, two _ _ _ _ q4, two _ _ _ _ q5, two _ _ _ _ q6, two _ _ _ _ q7, two _ _ _ _ q8, two _ _ _ _ q9, s0, s1, s2, s3, s4, s5, s6, s7, s8, s9,
    List.length_cons, List.length_nil, List.getD_cons_zero, List.getD_cons_succ, Int.toNat_natCast, Int.toNat_zero, Int.toNat_one, Int.reduceToNat, if_true, if_false, Int.reduceLT, Int.reduceLE]
  simp
theorem fold_eq (k : Nat) (hk : 12 ≤ k) (c : Int) : fold_Of.f k c = some (foldc c) := more (fold_Of.mono c) 12 k hk _ (fold_eq0 c)
theorem rfold_eq0 (c : Int) : ductusref04_Of.f 8 c = some (foldc c) := by
  revert c
  refine by_fkeys _ (by decide +kernel) fun c h => ?_
  rw [fold_out h]
  have hn := fkeys_no h
  simp only [fspans, List.mem_cons, List.not_mem_nil, or_false, forall_eq_or_imp, forall_eq] at hn
  obtain ⟨h0, h1, h2, h3, h4, h5, h6, h7, h8, h9⟩ := hn
  have two : ∀ (a b : Int) (x : Bool → Option Int) (y : Option Int), ¬ (c ≥ a ∧ c ≤ b) → x false = y → (if c ≥ a then x (decide (c ≤ b)) else y) = y := by
    intro a b x y hq hx
    by_cases e1 : c ≥ a
    · rw [if_pos e1, decide_eq_false (fun e2 => hq ⟨e1, e2⟩), hx]
    · rw [if_neg e1]
  have j5 : ∀ k, ductusref04_Of.j5 (k + 1) c false = some c := by
    intro k
    simp only [ductusref04_Of.j5]
    rw [if_neg (by decide), if_neg (by omega), if_neg (by omega), if_neg (by omega)]
  have j4 : ∀ k, ductusref04_Of.j4 (k + 2) c false = some c := by
    intro k
    simp only [ductusref04_Of.j4]
    rw [if_neg (by decide), two 1024 1039 (fun b => ductusref04_Of.j5 (k + 1) c b) _ (by omega) rfl]
    exact j5 k
  have j3 : ∀ k, ductusref04_Of.j3 (k + 3) c false = some c := by
    intro k
    have e2 : (if c ≥ 1040 then ductusref04_Of.j4 (k + 2) c (decide (c ≤ 1071)) else ductusref04_Of.j4 (k + 2) c false) = some c := by
      rw [two 1040 1071 (fun b => ductusref04_Of.j4 (k + 2) c b) _ (by omega) rfl]
      exact j4 k
    simp only [ductusref04_Of.j3]
    rw [if_neg (by decide), e2]
    by_cases e1 : c ≥ 931
    · rw [if_pos e1, if_neg (by omega)]
    · rw [if_neg e1]
  have j2 : ∀ k, ductusref04_Of.j2 (k + 4) c false = some c := by
    intro k
    simp only [ductusref04_Of.j2]
    rw [if_neg (by decide), two 913 929 (fun b => ductusref04_Of.j3 (k + 3) c b) _ (by omega) rfl]
    exact j3 k
  have j1 : ∀ k, ductusref04_Of.j1 (k + 5) c false = some c := by
    intro k
    simp only [ductusref04_Of.j1]
    rw [if_neg (by decide), two 216 222 (fun b => ductusref04_Of.j2 (k + 4) c b) _ (by omega) rfl]
    exact j2 k
  have j0 : ∀ k, ductusref04_Of.j0 (k + 6) c false = some c := by
    intro k
    simp only [ductusref04_Of.j0]
    rw [if_neg (by decide), two 192 214 (fun b => ductusref04_Of.j1 (k + 5) c b) _ (by omega) rfl]
    exact j1 k
  unfold ductusref04_Of.f
  rw [two 65 90 (fun b => ductusref04_Of.j0 8 c b) _ (by omega) rfl]
  exact j0 2
theorem rfold_eq (k : Nat) (hk : 8 ≤ k) (c : Int) : ductusref04_Of.f k c = some (foldc c) := more (ductusref04_Of.mono c) 8 k hk _ (rfold_eq0 c)
end Go.Proofs.Ythgmkbghdobmlaa.P
namespace Go.Proofs.Ythgmkbghdobmlaa.P
open Go.RowKit Go.Proofs.YthgmkbghdobmlaaW.PrintWords Go.Proofs.YthgmkbghdobmlaaW.PrintLast Go.Proofs.YthgmkbghdobmlaaW.PrintMore
attribute [local go_sem] max2_int min2_int max_two min_two max_three min_three max_four min_four   -- for this text's walks alone
set_option linter.unusedVariables false
set_option linter.unusedSimpArgs false

end Go.Proofs.Ythgmkbghdobmlaa.P
namespace Go.Proofs.Ythgmkbghdobmlaa.P
open Go.RowKit Go.Proofs.YthgmkbghdobmlaaW.PrintWords Go.Proofs.YthgmkbghdobmlaaW.PrintLast Go.Proofs.YthgmkbghdobmlaaW.PrintMore
set_option linter.unusedVariables false
set_option linter.unusedSimpArgs false

theorem ropens_eq (k : Int) : ductusref02_Opens.f k = some (opnK k) := by
  unfold ductusref02_Opens.f opnK
  repeat' split
  all_goals simp_all
  rfl
theorem rout0_eq (k : Int) : ductusref02_Out.f k = some (outK k) := by
  unfold ductusref02_Out.f outK
  repeat' split
  all_goals simp_all
  rfl
theorem rcls_eq (c : Int) : ductusref02_Of.f c = some (cls c) := rfl
theorem rcontrol_eq (c : Int) : ductusref23_Control.f c = some (ctl c) := by
  unfold ductusref23_Control.f ctl ctlK
  rw [rcls_eq]
  simp only [Option.bind_some, rout0_eq, ropens_eq]
  cases outK (cls c) <;> cases opnK (cls c) <;> simp

theorem and_one (n : Int) : Go.bits .and .i64 n 1 = 0 ∨ Go.bits .and .i64 n 1 = 1 := by
  have h1 : (BitVec.ofInt 64 1).toNat = 2 ^ 1 - 1 := by decide
  have key : (BitVec.ofInt 64 n &&& BitVec.ofInt 64 1).toNat = (n % ((2 ^ 64 : Nat) : Int)).toNat % 2 ^ 1 := by
    rw [BitVec.toNat_and, BitVec.toNat_ofInt, h1, Nat.and_two_pow_sub_one_eq_mod]
  have e : Go.bits .and .i64 n 1 = IntKind.i64.wrap ((BitVec.ofInt 64 n &&& BitVec.ofInt 64 1).toNat : Nat) := rfl
  rw [e, key, IntKind.wrap_i64]
  omega
theorem and_two (n : Int) : Go.bits .and .i64 n 2 = 0 ∨ Go.bits .and .i64 n 2 = 2 := by
  obtain ⟨r, hr⟩ : ∃ r, r = (BitVec.ofInt 64 n &&& BitVec.ofInt 64 2).toNat := ⟨_, rfl⟩
  have h1 : (BitVec.ofInt 64 2).toNat = 2 := by decide
  have e : Go.bits .and .i64 n 2 = IntKind.i64.wrap (r : Nat) := by rw [hr]; rfl
  rw [BitVec.toNat_and, h1] at hr
  have h2 : r ≤ 2 := by rw [hr]; exact Nat.and_le_right
  have h3 : r.testBit 0 = false := by rw [hr, Nat.testBit_and]; simp
  rw [Nat.testBit_zero, decide_eq_false_iff_not] at h3
  rw [e, IntKind.wrap_i64]
  omega
def trF (flags c : Int) : Int := if Go.bits .and .i64 flags 1 = 0 then c else foldc c
def trM (flags c : Int) : Int := if Go.bits .and .i64 flags 2 = 0 then c else mn c (mir c)
/-- What is searched in a character's place. -/
def tr (flags c : Int) : Int := trM flags (trF flags c)
def chrs (flags : Int) (l : List Int) : List Int := (l.filter nctl).map (tr flags)
def plcs (l : List Int) : List Int := placesOf nctl 0 l ++ [(l.length : Int)]

theorem all_loop (l : List Int) (hn : l.length ≤ 9000) (d : Nat) : ∀ (k i : Nat) (acc : List Int), i ≤ l.length → l.length - i = d → d + 12 < k → acc.length = i →
    fold_All.l0 k acc l (l.length : Int) (i : Int) = some (acc ++ (l.drop i).map foldc) := by
  induction d with
  | zero =>
    intro k i acc hi hd hk ha
    obtain ⟨k, rfl⟩ : ∃ m, k = m + 1 := ⟨k - 1, by omega⟩
    simp only [fold_All.l0]
    rw [if_neg (by omega), List.drop_eq_nil_of_le (by omega)]
    simp
  | succ d ih =>
    intro k i acc hi hd hk ha
    obtain ⟨k, rfl⟩ : ∃ m, k = m + 1 := ⟨k - 1, by omega⟩
    simp only [fold_All.l0]
    rw [if_pos (by omega), if_pos (by omega), if_pos (by omega), fold_eq k (by omega)]
    simp only [Option.bind_some]
    rw [if_pos (by omega), wrap_succ i (by omega), ih k (i + 1) _ (by omega) (by omega) (by omega) (by simp [ha]), drop_cons l i (by omega)]
    simp
theorem all_eq (k : Nat) (l : List Int) (hn : l.length ≤ 9000) (hk : l.length + 12 < k) : fold_All.f k l = some (l.map foldc) := by
  unfold fold_All.f
  have := all_loop l hn l.length k 0 [] (by omega) (by omega) hk rfl
  simpa using this
theorem of_loop (l0 : List Int) (flags : Int) (hn : l0.length ≤ 9000) (d : Nat) : ∀ (k i : Nat) (acc at_ : List Int), i ≤ l0.length → l0.length - i = d → d + l0.length + 100 < k → acc.length ≤ i → at_.length ≤ i →
    norm_Of.l0 k l0 flags acc at_ l0 (l0.length : Int) (i : Int) = some ((acc ++ (l0.drop i).filter nctl).map (tr flags), at_ ++ placesOf nctl i (l0.drop i) ++ [(l0.length : Int)]) := by
  induction d with
  | zero =>
    intro k i acc at_ hi hd hk ha hb
    obtain ⟨k, rfl⟩ : ∃ m, k = m + 1 := ⟨k - 1, by omega⟩
    simp only [norm_Of.l0]
    rw [if_neg (by omega), List.drop_eq_nil_of_le (by omega)]
    simp only [placesOf, List.filter_nil, List.append_nil]
    by_cases h1 : Go.bits .and .i64 flags 1 = 0
    · rw [if_pos h1]
      by_cases h2 : Go.bits .and .i64 flags 2 = 0
      · rw [if_pos h2, if_pos (by omega)]
        have e : acc.map (tr flags) = acc := by
          have : ∀ c, tr flags c = c := fun c => by unfold tr trM trF; rw [if_pos h2, if_pos h1]
          rw [List.map_congr_left (fun c _ => this c), List.map_id']
        rw [e]
      · rw [if_neg h2, plain_eq k acc (by omega) (by omega)]
        simp only [Option.bind_some]
        rw [if_pos (by omega)]
        have e : acc.map (tr flags) = plainL acc := by
          unfold plainL
          exact List.map_congr_left fun c _ => by unfold tr trM trF; rw [if_neg h2, if_pos h1]
        rw [e]
    · rw [if_neg h1, all_eq k acc (by omega) (by omega)]
      simp only [Option.bind_some]
      by_cases h2 : Go.bits .and .i64 flags 2 = 0
      · rw [if_pos h2, if_pos (by omega)]
        have e : acc.map (tr flags) = acc.map foldc := List.map_congr_left fun c _ => by unfold tr trM trF; rw [if_pos h2, if_neg h1]
        rw [e]
      · rw [if_neg h2, plain_eq k (acc.map foldc) (by simp; omega) (by simp; omega)]
        simp only [Option.bind_some]
        rw [if_pos (by omega)]
        have e : acc.map (tr flags) = plainL (acc.map foldc) := by
          unfold plainL
          rw [List.map_map]
          exact List.map_congr_left fun c _ => by unfold tr trM trF; rw [if_neg h2, if_neg h1]; rfl
        rw [e]
  | succ d ih =>
    intro k i acc at_ hi hd hk ha hb
    obtain ⟨k, rfl⟩ : ∃ m, k = m + 1 := ⟨k - 1, by omega⟩
    simp only [norm_Of.l0]
    rw [if_pos (by omega), if_pos (by omega), if_pos (by omega), control_eq k (by omega)]
    simp only [Option.bind_some]
    rw [wrap_succ i (by omega), drop_cons l0 i (by omega)]
    by_cases h : ctl (rd l0 (i : Int)) = true
    · have h2 : nctl (rd l0 (i : Int)) = false := by unfold nctl; rw [h]; rfl
      rw [if_pos h, ih k (i + 1) acc at_ (by omega) (by omega) (by omega) (by omega) (by omega)]
      simp [placesOf, h2]
    · have h2 : nctl (rd l0 (i : Int)) = true := by unfold nctl; simpa using h
      rw [if_neg h, if_pos (by omega), if_pos (by omega), ih k (i + 1) _ _ (by omega) (by omega) (by omega) (by simp; omega) (by simp; omega)]
      simp [placesOf, h2]
theorem norm_of_eq (k : Nat) (l : List Int) (flags : Int) (hn : l.length ≤ 9000) (hk : 2 * l.length + 100 < k) : norm_Of.f k l flags = some (chrs flags l, plcs l) := by
  unfold norm_Of.f chrs plcs
  have := of_loop l flags hn l.length k 0 [] [] (by omega) (by omega) (by omega) (by simp) (by simp)
  simpa using this
theorem rnorm_loop (l0 : List Int) (flags : Int) (hn : l0.length ≤ 9000) (d : Nat) : ∀ (k i : Nat) (acc at_ : List Int), i ≤ l0.length → l0.length - i = d → d + 100 < k → acc.length ≤ i → at_.length ≤ i →
    ductusref23_Of.l0 k l0 flags acc at_ (i : Int) = some (acc ++ ((l0.drop i).filter nctl).map (tr flags), at_ ++ placesOf nctl i (l0.drop i) ++ [(l0.length : Int)]) := by
  induction d with
  | zero =>
    intro k i acc at_ hi hd hk ha hb
    obtain ⟨k, rfl⟩ : ∃ m, k = m + 1 := ⟨k - 1, by omega⟩
    simp only [ductusref23_Of.l0]
    rw [if_neg (by omega), if_pos (by omega), List.drop_eq_nil_of_le (by omega)]
    simp [placesOf]
  | succ d ih =>
    intro k i acc at_ hi hd hk ha hb
    obtain ⟨k, rfl⟩ : ∃ m, k = m + 1 := ⟨k - 1, by omega⟩
    simp only [ductusref23_Of.l0]
    rw [if_pos (by omega), if_pos (by omega), rcontrol_eq]
    simp only [Option.bind_some]
    rw [wrap_succ i (by omega), drop_cons l0 i (by omega)]
    by_cases h : ctl (rd l0 (i : Int)) = true
    · have h2 : nctl (rd l0 (i : Int)) = false := by unfold nctl; rw [h]; rfl
      rw [if_pos h, ih k (i + 1) acc at_ (by omega) (by omega) (by omega) (by omega) (by omega)]
      simp [placesOf, h2]
    · have h2 : nctl (rd l0 (i : Int)) = true := by unfold nctl; simpa using h
      have next : ∀ c, c = tr flags (rd l0 (i : Int)) → (if acc.length < 17592186044416 then (if at_.length < 17592186044416 then (ductusref23_Of.l0 k l0 flags (acc ++ [c]) (at_ ++ [(i : Int)]) ((i + 1 : Nat) : Int)) else none) else none) = some (acc ++ ((rd l0 (i : Int) :: l0.drop (i + 1)).filter nctl).map (tr flags), at_ ++ placesOf nctl i (rd l0 (i : Int) :: l0.drop (i + 1)) ++ [(l0.length : Int)]) := by
        intro c hc
        rw [if_pos (by omega), if_pos (by omega), ih k (i + 1) _ _ (by omega) (by omega) (by omega) (by simp; omega) (by simp; omega)]
        simp [placesOf, h2, hc]
      rw [if_neg h, rfold_eq k (by omega)]
      simp only [Option.bind_some, rmirror_eq k (show 14 ≤ k by omega)]
      rcases and_one flags with a1 | a1 <;> rcases and_two flags with a2 | a2
      · rw [a1, a2, if_neg (by decide), if_neg (by decide)]
        exact next _ (by unfold tr trM trF; rw [if_pos a2, if_pos a1])
      · rw [a1, a2, if_neg (by decide), if_pos rfl]
        exact next _ (by unfold tr trM trF; rw [if_neg (by rw [a2]; decide), if_pos a1])
      · rw [a1, a2, if_pos rfl, if_neg (by decide)]
        exact next _ (by unfold tr trM trF; rw [if_pos a2, if_neg (by rw [a1]; decide)])
      · rw [a1, a2, if_pos rfl, if_pos rfl]
        exact next _ (by unfold tr trM trF; rw [if_neg (by rw [a2]; decide), if_neg (by rw [a1]; decide)])
theorem rnorm_of_eq (k : Nat) (l : List Int) (flags : Int) (hn : l.length ≤ 9000) (hk : l.length + 100 < k) : ductusref23_Of.f k l flags = some (chrs flags l, plcs l) := by
  unfold ductusref23_Of.f chrs plcs
  have := rnorm_loop l flags hn l.length k 0 [] [] (by omega) (by omega) (by omega) (by simp) (by simp)
  simpa using this

def backOf (l : List Int) (a b : Int) : Int × Int × Bool := if 0 ≤ a ∧ a ≤ b ∧ b < (l.length : Int) then (if b > a then (rd l a, wrap64 (rd l (b - 1) + 1), true) else (rd l a, rd l a, true)) else (0, 0, false)
theorem lies_eq (a b n : Int) : norm_lies.f a b n = some (decide (0 ≤ a ∧ a ≤ b ∧ b < n)) := by
  unfold norm_lies.f
  by_cases h : a ≥ 0
  · by_cases h2 : a ≤ b
    · rw [if_pos h, if_pos h2]
      simp [show 0 ≤ a from h, h2]
    · rw [if_pos h, if_neg h2]
      simp [h2]
  · rw [if_neg h]
    have : ¬ 0 ≤ a := h
    simp [this]
theorem back_eq (l : List Int) (hn : l.length ≤ 9001) (a b : Int) : norm_Back.f l a b = some (backOf l a b) := by
  unfold norm_Back.f backOf
  rw [lies_eq]
  simp only [Option.bind_some, decide_eq_true_eq]
  by_cases h : 0 ≤ a ∧ a ≤ b ∧ b < (l.length : Int)
  · rw [if_pos h, if_pos h, if_pos h.1, if_pos (by omega)]
    by_cases h2 : b > a
    · rw [if_pos h2, if_pos h2, wrap_id (x := b - 1) (by omega) (by omega), if_pos (by omega), if_pos (by omega)]
    · rw [if_neg h2, if_neg h2]
  · rw [if_neg h, if_neg h]
theorem plcs_len (l : List Int) : (plcs l).length = (l.filter nctl).length + 1 := by
  unfold plcs
  rw [List.length_append, places_len]
  rfl
theorem plcs_up (l : List Int) : List.Pairwise (· < ·) (plcs l) := by
  unfold plcs
  refine List.pairwise_append.2 ⟨places_up nctl 0 l, List.pairwise_singleton _ _, fun x hx y hy => ?_⟩
  have := places_mem nctl 0 l x hx
  simp only [List.mem_singleton] at hy
  omega
theorem plcs_in (l : List Int) : ∀ x ∈ plcs l, 0 ≤ x ∧ x ≤ (l.length : Int) := by
  intro x hx
  unfold plcs at hx
  rcases List.mem_append.1 hx with h | h
  · have := places_mem nctl 0 l x h
    omega
  · simp only [List.mem_singleton] at h
    omega
/-- The place of the i-th that is searched. -/
theorem plcs_at (l : List Int) (i : Nat) (h : i < (l.filter nctl).length) : rd (plcs l) (i : Int) = (placesOf nctl 0 l)[i]'(by rw [places_len]; exact h) := by
  rw [rd_get _ i (by rw [plcs_len]; omega)]
  unfold plcs
  rw [List.getElem_append_left]
theorem plcs_end (l : List Int) : rd (plcs l) ((l.filter nctl).length : Int) = (l.length : Int) := by
  rw [rd_get _ _ (by rw [plcs_len]; omega)]
  unfold plcs
  rw [List.getElem_append_right (by rw [places_len]; omega)]
  simp
theorem plcs_lt (l : List Int) (i : Nat) (h : i < (l.filter nctl).length) : 0 ≤ rd (plcs l) (i : Int) ∧ rd (plcs l) (i : Int) < (l.length : Int) := by
  rw [plcs_at l i h]
  have := places_mem nctl 0 l _ (List.getElem_mem (show i < (placesOf nctl 0 l).length by rw [places_len]; exact h))
  omega
theorem plcs_mono (l : List Int) (i j : Nat) (h : i < j) (hj : j ≤ (l.filter nctl).length) : rd (plcs l) (i : Int) < rd (plcs l) (j : Int) := by
  rw [rd_get _ i (by rw [plcs_len]; omega), rd_get _ j (by rw [plcs_len]; omega)]
  exact List.pairwise_iff_getElem.1 (plcs_up l) i j _ _ h
theorem take_place (p : Int → Bool) : ∀ (l : List Int) (s i : Nat) (x : Int), (placesOf p s l)[i]? = some x →
    (l.take (x.toNat - s)).filter p = (l.filter p).take i ∧ (l.take (x.toNat - s + 1)).filter p = (l.filter p).take (i + 1) ∧ s ≤ x.toNat
  | [], s, i, x, h => by simp [placesOf] at h
  | c :: l, s, i, x, h => by
    by_cases hc : p c = true
    · simp only [placesOf, if_pos hc] at h
      cases i with
      | zero =>
        simp only [List.getElem?_cons_zero, Option.some.injEq] at h
        subst h
        simp [hc]
      | succ i =>
        rw [List.getElem?_cons_succ] at h
        obtain ⟨h1, h2, h3⟩ := take_place p l (s + 1) i x h
        have e : x.toNat - s = (x.toNat - (s + 1)) + 1 := by omega
        rw [e]
        simp only [List.take_succ_cons, List.filter_cons, if_pos hc, h1]
        refine ⟨trivial, ?_, by omega⟩
        rw [h2]
    · simp only [placesOf, if_neg hc] at h
      obtain ⟨h1, h2, h3⟩ := take_place p l (s + 1) i x h
      have e : x.toNat - s = (x.toNat - (s + 1)) + 1 := by omega
      rw [e]
      simp only [List.take_succ_cons, List.filter_cons, if_neg hc, h1]
      exact ⟨trivial, h2, by omega⟩
theorem mid_filter (p : Int → Bool) (l : List Int) (a b m n : Nat) (hab : a ≤ b) (hmn : m ≤ n) (hn : n ≤ (l.filter p).length) (ha : (l.take a).filter p = (l.filter p).take m) (hb : (l.take b).filter p = (l.filter p).take n) :
    ((l.take b).drop a).filter p = ((l.filter p).take n).drop m := by
  have e : l.take b = l.take a ++ (l.take b).drop a := by
    have := (List.take_append_drop a (l.take b)).symm
    rwa [List.take_take, Nat.min_eq_left hab] at this
  have e2 : (l.filter p).take n = (l.filter p).take m ++ ((l.take b).drop a).filter p := by
    rw [← hb, ← ha, ← List.filter_append, ← e]
  rw [e2, List.drop_left' (by rw [List.length_take]; omega)]
end Go.Proofs.Ythgmkbghdobmlaa.P
namespace Go.Proofs.Ythgmkbghdobmlaa.P
open Go.RowKit Go.Proofs.YthgmkbghdobmlaaW.PrintWords Go.Proofs.YthgmkbghdobmlaaW.PrintLast
set_option linter.unusedVariables false

theorem ev_step {α β : Type} {f : Nat → Option α} {g : Nat → Option β} {a : α} {r : β} (H : Ev f a) (h : ∀ k, f k = some a → g (k + 1) = some r) : Ev g r := by
  obtain ⟨K, H⟩ := H
  refine ⟨K + 1, fun k hk => ?_⟩
  obtain ⟨k, rfl⟩ : ∃ m, k = m + 1 := ⟨k - 1, by omega⟩
  exact h k (H k (by omega))
theorem ev_step2 {α β γ : Type} {f : Nat → Option α} {f2 : Nat → Option γ} {g : Nat → Option β} {a : α} {b : γ} {r : β} (H : Ev f a) (H2 : Ev f2 b) (h : ∀ k, f k = some a → f2 k = some b → g (k + 1) = some r) : Ev g r := by
  obtain ⟨K, H⟩ := H
  obtain ⟨K2, H2⟩ := H2
  refine ⟨K + K2 + 1, fun k hk => ?_⟩
  obtain ⟨k, rfl⟩ : ∃ m, k = m + 1 := ⟨k - 1, by omega⟩
  exact h k (H k (by omega)) (H2 k (by omega))
theorem ev_one {β : Type} {g : Nat → Option β} {r : β} (h : ∀ k, g (k + 1) = some r) : Ev g r := ⟨1, fun k hk => by
  obtain ⟨k, rfl⟩ : ∃ m, k = m + 1 := ⟨k - 1, by omega⟩
  exact h k⟩
theorem ev_now {β : Type} {g : Nat → Option β} {r : β} (h : ∀ k, g k = some r) : Ev g r := ⟨0, fun k _ => h k⟩
theorem ev_same {α β : Type} {f : Nat → Option α} {g : Nat → Option β} {a : α} {r : β} (H : Ev f a) (h : ∀ k, f k = some a → g k = some r) : Ev g r := by
  obtain ⟨K, H⟩ := H
  exact ⟨K, fun k hk => h k (H k hk)⟩
theorem ev_same2 {α β γ : Type} {f : Nat → Option α} {f2 : Nat → Option γ} {g : Nat → Option β} {a : α} {b : γ} {r : β} (H : Ev f a) (H2 : Ev f2 b) (h : ∀ k, f k = some a → f2 k = some b → g k = some r) : Ev g r := by
  obtain ⟨K, H⟩ := H
  obtain ⟨K2, H2⟩ := H2
  exact ⟨K + K2, fun k hk => h k (H k (by omega)) (H2 k (by omega))⟩
/-- Two answers at once. -/
theorem ev_and {α γ : Type} {f : Nat → Option α} {f2 : Nat → Option γ} {a : α} {b : γ} (H : Ev f a) (H2 : Ev f2 b) : Ev (fun k => (f k).bind fun x => (f2 k).map fun y => (x, y)) (a, b) :=
  ev_same2 H H2 fun k h h2 => by rw [h, h2]; rfl
theorem ev_fst {α γ : Type} {o : Option α} {o2 : Option γ} {a : α} {b : γ} (h : (o.bind fun x => o2.map fun y => (x, y)) = some (a, b)) : o = some a ∧ o2 = some b := by
  cases o with
  | none => cases h
  | some x =>
    cases o2 with
    | none => cases h
    | some y =>
      simp only [Option.bind_some, Option.map_some, Option.some.injEq, Prod.mk.injEq] at h
      rw [h.1, h.2]
      exact ⟨rfl, rfl⟩
end Go.Proofs.Ythgmkbghdobmlaa.P

