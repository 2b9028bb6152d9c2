/- Texts of this claim put together by a program of its own (PInts, PPlaces, PMirC, PMir, PFold, PNormB, PEv, PUtfE, PSwap, PSwapQ, POpen, PCase, PureSwapJust), what the law does not use left out: each part's statements bear their own conditions. -/
import Derived.Test.YthgmkbghdobmlaaC11
import Derived.Test.YthgmkbghdobmlaaC16
import Derived.Test.YthgmkbghdobmlaaC13
import Derived.Test.YthgmkbghdobmlaaC14
import Derived.Test.YthgmkbghdobmlaaC19
import Derived.Test.YthgmkbghdobmlaaC12
import Derived.Test.YthgmkbghdobmlaaC18
import Derived.Test.YthgmkbghdobmlaaC15
import Derived.Test.YthgmkbghdobmlaaC17
import Derived.OpenShut
import Derived.Lib.SmallJoins
import Derived.Deep.Fields
import Derived.Deep.Grids
import Derived.SizedLaws
import Derived.Deep.SlicePairs
import Derived.ChangeSlices
import Derived.Test.YthgmkbghdobmlaaC20
namespace Go.Proofs.Ythgmkbghdobmlaa.P
open Go.RowKit Go.Proofs.YthgmkbghdobmlaaW.PrintWords Go.Proofs.YthgmkbghdobmlaaW.PrintLast
set_option linter.unusedVariables false

theorem ints_loop (a b : List Int) (hl : a.length = b.length) (hn : a.length < 9223372036854775807) (d : Nat) : ∀ (k i : Nat), i ≤ a.length → a.length - i = d → d < k →
    ductusref01_Ints.l0 k a b (i : Int) = some (decide (a.drop i = b.drop i)) := by
  induction d with
  | zero =>
    intro k i hi hd hk
    obtain ⟨k, rfl⟩ : ∃ m, k = m + 1 := ⟨k - 1, by omega⟩
    simp only [ductusref01_Ints.l0]
    rw [if_neg (by omega), List.drop_eq_nil_of_le (by omega), List.drop_eq_nil_of_le (by omega)]
    simp
  | succ d ih =>
    intro k i hi hd hk
    obtain ⟨k, rfl⟩ : ∃ m, k = m + 1 := ⟨k - 1, by omega⟩
    simp only [ductusref01_Ints.l0]
    rw [if_pos (by omega), if_pos (by omega), if_pos (by omega), wrap_succ i (by omega), drop_cons a i (by omega), drop_cons b i (by omega)]
    by_cases h : rd a i = rd b i
    · rw [if_pos h, ih k (i + 1) (by omega) (by omega) (by omega), h]
      simp
    · rw [if_neg h]
      simp [h]
theorem ints_eq (k : Nat) (a b : List Int) (hn : a.length < 9223372036854775807) (hk : a.length < k) : ductusref01_Ints.f k a b = some (decide (a = b)) := by
  unfold ductusref01_Ints.f
  by_cases h : a.length = b.length
  · rw [if_pos (by omega)]
    have := ints_loop a b h hn a.length k 0 (by omega) (by omega) hk
    simpa using this
  · rw [if_neg (by omega)]
    have : ¬ a = b := fun e => h (by rw [e])
    simp [this]
theorem ints_same (k : Nat) (a : List Int) (hn : a.length < 9223372036854775807) (hk : a.length < k) : ductusref01_Ints.f k a a = some true := by
  rw [ints_eq k a a hn hk]
  simp

end Go.Proofs.Ythgmkbghdobmlaa.P
namespace Go.Proofs.Ythgmkbghdobmlaa.P
open Go.RowKit Go.Proofs.YthgmkbghdobmlaaW.PrintWords Go.Proofs.YthgmkbghdobmlaaW.PrintLast
set_option linter.unusedVariables false

/-- The places of those that a test lets. -/
def placesOf (p : Int → Bool) : Nat → List Int → List Int
  | _, [] => []
  | i, c :: l => if p c then (i : Int) :: placesOf p (i + 1) l else placesOf p (i + 1) l
theorem places_len (p : Int → Bool) : ∀ (i : Nat) (l : List Int), (placesOf p i l).length = (l.filter p).length
  | _, [] => rfl
  | i, c :: l => by
    simp only [placesOf, List.filter_cons]
    split <;> simp [places_len p (i + 1) l]
theorem places_mem (p : Int → Bool) : ∀ (i : Nat) (l : List Int) (x : Int), x ∈ placesOf p i l → (i : Int) ≤ x ∧ x < ((i + l.length : Nat) : Int)
  | _, [], _, h => by simp [placesOf] at h
  | i, c :: l, x, h => by
    simp only [placesOf] at h
    have h2 : ∀ x ∈ placesOf p (i + 1) l, (i : Int) ≤ x ∧ x < ((i + (l.length + 1) : Nat) : Int) := fun x hx => by
      have := places_mem p (i + 1) l x hx
      omega
    simp only [List.length_cons]
    split at h
    · rcases List.mem_cons.1 h with rfl | h
      · omega
      · exact h2 x h
    · exact h2 x h
theorem places_up (p : Int → Bool) : ∀ (i : Nat) (l : List Int), List.Pairwise (· < ·) (placesOf p i l)
  | _, [] => List.Pairwise.nil
  | i, c :: l => by
    simp only [placesOf]
    split
    · refine List.pairwise_cons.2 ⟨fun x hx => ?_, places_up p (i + 1) l⟩
      have := places_mem p (i + 1) l x hx
      omega
    · exact places_up p (i + 1) l
end Go.Proofs.Ythgmkbghdobmlaa.P
namespace Go.Proofs.Ythgmkbghdobmlaa.P
open Go.RowKit Go.Proofs.YthgmkbghdobmlaaW.PrintWords Go.Proofs.YthgmkbghdobmlaaW.PrintLast Go.Proofs.YthgmkbghdobmlaaW.PrintMore
set_option linter.unusedVariables false
set_option linter.unusedSimpArgs false

def mkeys : List Int := [40, 41, 91, 93, 123, 125, 9001, 9002, 12296, 12297, 12298, 12299, 12300, 12301, 12302, 12303, 12304, 12305, 60, 62, 171, 187, 8804, 8805, 8810, 8811]
def mtbl : List (Int × Int) := [(40, 41), (41, 40), (91, 93), (93, 91), (123, 125), (125, 123), (9001, 9002), (9002, 9001), (12296, 12297), (12297, 12296), (12298, 12299), (12299, 12298), (12300, 12301), (12301, 12300), (12302, 12303), (12303, 12302), (12304, 12305), (12305, 12304), (60, 62), (62, 60), (171, 187), (187, 171), (8804, 8805), (8805, 8804), (8810, 8811), (8811, 8810)]
/-- What a character is mirrored into. -/
def mir (c : Int) : Int := match mtbl.find? (fun p => p.1 == c) with
  | some p => p.2
  | none => c
theorem mir_out {c : Int} (h : c ∉ mkeys) : mir c = c := by
  have hn : mtbl.find? (fun p => p.1 == c) = none := by
    rw [List.find?_eq_none]
    intro p hp he
    simp only [beq_iff_eq] at he
    have hk : ∀ p ∈ mtbl, p.1 ∈ mkeys := by decide
    exact h (he ▸ hk p hp)
  unfold mir
  rw [hn]
theorem ans_out {c : Int} (h : c ∉ mkeys) : pair_Other.ans c = (0, false, false) := by
  have h1 : pair_Other.up c = none := by
    unfold pair_Other.up
    rw [List.find?_eq_none]
    intro p hp he
    simp only [beq_iff_eq] at he
    have hk : ∀ p ∈ pair_Other.tbl, p.1 ∈ mkeys := by decide
    exact h (he ▸ hk p hp)
  have h2 : pair_Other.down c = none := by
    unfold pair_Other.down
    rw [List.find?_eq_none]
    intro p hp he
    simp only [beq_iff_eq] at he
    have hk : ∀ p ∈ pair_Other.tbl, p.2 ∈ mkeys := by decide
    exact h (he ▸ hk p hp)
  unfold pair_Other.ans
  rw [h1, h2]
/-- What holds of every one in the table, and of all that are none, holds. -/
theorem by_keys (P : Int → Prop) (hin : ∀ c ∈ mkeys, P c) (hout : ∀ c, c ∉ mkeys → P c) (c : Int) : P c := by
  by_cases h : c ∈ mkeys
  · exact hin c h
  · exact hout c h
theorem mirror_eq0 (c : Int) : pair_Mirror.f 4 c = some (mir c) := by
  revert c
  refine by_keys _ (by decide +kernel) fun c h => ?_
  have ho := ans_out h
  rw [mir_out h]
  simp only [mkeys, List.mem_cons, List.not_mem_nil, or_false, not_or] at h
  simp [pair_Mirror.f, pair_Mirror.j0, pair_Mirror.j1, pair_Mirror.j2, pair_Other.f, ho, h]
theorem mirror_eq (k : Nat) (hk : 4 ≤ k) (c : Int) : pair_Mirror.f k c = some (mir c) := more (pair_Mirror.mono c) 4 k hk _ (mirror_eq0 c)
set_option maxRecDepth 10000 in
theorem rmirror_eq0 (c : Int) : ductusref03_Mirror.f 14 c = some (mir c) := by
  revert c
  refine by_keys _ (by decide +kernel) fun c h => ?_
  rw [mir_out h]
  simp only [mkeys, List.mem_cons, List.not_mem_nil, or_false, not_or] at h
  simp [ductusref03_Mirror.f, ductusref03_Mirror.l0, ductusref03_brackets.f, rd, wrap64, eq_comm (b := c), h]
theorem rmirror_eq (k : Nat) (hk : 14 ≤ k) (c : Int) : ductusref03_Mirror.f k c = some (mir c) := more (ductusref03_Mirror.mono c) 14 k hk _ (rmirror_eq0 c)
end Go.Proofs.Ythgmkbghdobmlaa.P
namespace Go.Proofs.Ythgmkbghdobmlaa.P
open Go.RowKit Go.Proofs.YthgmkbghdobmlaaW.PrintWords Go.Proofs.YthgmkbghdobmlaaW.PrintLast Go.Proofs.YthgmkbghdobmlaaW.PrintMore
set_option linter.unusedVariables false
set_option linter.unusedSimpArgs false

theorem plain_loop (l : List Int) (hn : l.length * 8 ≤ 140737488351232) (d : Nat) : ∀ (k i : Nat) (acc : List Int), i ≤ l.length → l.length - i = d → d + 4 < k → acc.length = i →
    pair_Plain.l0 k acc l (l.length : Int) (i : Int) = some (acc ++ (l.drop i).map fun c => mn c (mir c)) := by
  induction d with
  | zero =>
    intro k i acc hi hd hk ha
    obtain ⟨k, rfl⟩ : ∃ m, k = m + 1 := ⟨k - 1, by omega⟩
    simp only [pair_Plain.l0]
    rw [if_neg (by omega), List.drop_eq_nil_of_le (by omega)]
    simp
  | succ d ih =>
    intro k i acc hi hd hk ha
    obtain ⟨k, rfl⟩ : ∃ m, k = m + 1 := ⟨k - 1, by omega⟩
    simp only [pair_Plain.l0]
    rw [if_pos (by omega), if_pos (by omega), if_pos (by omega), mirror_eq k (by omega)]
    simp only [Option.bind_some]
    rw [if_pos (by omega), wrap_succ i (by omega), ih k (i + 1) _ (by omega) (by omega) (by omega) (by simp [ha]), drop_cons l i (by omega)]
    simp
/-- The lesser one of two that are mirrored, of each. -/
def plainL (l : List Int) : List Int := l.map fun c => mn c (mir c)
theorem plain_eq (k : Nat) (l : List Int) (hn : l.length * 8 ≤ 140737488351232) (hk : l.length + 4 < k) : pair_Plain.f k l = some (plainL l) := by
  unfold pair_Plain.f
  have := plain_loop l hn l.length k 0 [] (by omega) (by omega) hk rfl
  unfold plainL
  simpa using this

end Go.Proofs.Ythgmkbghdobmlaa.P
namespace Go.Proofs.Ythgmkbghdobmlaa.P
open Go.RowKit Go.Proofs.YthgmkbghdobmlaaW.PrintWords Go.Proofs.YthgmkbghdobmlaaW.PrintLast Go.Proofs.YthgmkbghdobmlaaW.PrintMore
set_option linter.unusedVariables false
set_option linter.unusedSimpArgs false

def fspans : List (Int × Nat × Int) := [(65, 26, 32), (181, 1, 775), (192, 23, 32), (216, 7, 32), (913, 17, 32), (931, 7, 32), (962, 1, 1), (1024, 16, 80), (1040, 32, 32), (7838, 1, -7615)]
def fkeys : List Int := fspans.flatMap fun s => (List.range s.2.1).map fun (i : Nat) => s.1 + (i : Int)
def foldFrom (c : Int) : List (Int × Nat × Int) → Int
  | [] => c
  | s :: t => if s.1 ≤ c ∧ c < s.1 + (s.2.1 : Int) then c + s.2.2 else foldFrom c t
/-- What a character is folded into. -/
def foldc (c : Int) : Int := foldFrom c fspans
theorem fkeys_no {c : Int} (h : c ∉ fkeys) : ∀ s ∈ fspans, ¬ (s.1 ≤ c ∧ c < s.1 + (s.2.1 : Int)) := by
  intro s hs hc
  refine h ?_
  unfold fkeys
  rw [List.mem_flatMap]
  refine ⟨s, hs, ?_⟩
  rw [List.mem_map]
  refine ⟨(c - s.1).toNat, ?_, ?_⟩
  · rw [List.mem_range]
    omega
  · omega
theorem foldFrom_out (c : Int) : ∀ l : List (Int × Nat × Int), (∀ s ∈ l, ¬ (s.1 ≤ c ∧ c < s.1 + (s.2.1 : Int))) → foldFrom c l = c
  | [], _ => rfl
  | s :: t, h => by
    simp only [foldFrom]
    rw [if_neg (h s List.mem_cons_self)]
    exact foldFrom_out c t fun x hx => h x (List.mem_cons_of_mem _ hx)
theorem fold_out {c : Int} (h : c ∉ fkeys) : foldc c = c := foldFrom_out c fspans (fkeys_no h)
theorem by_fkeys (P : Int → Prop) (hin : ∀ c ∈ fkeys, P c) (hout : ∀ c, c ∉ fkeys → P c) (c : Int) : P c := by
  by_cases h : c ∈ fkeys
  · exact hin c h
  · exact hout c h
theorem fold_eq0 (c : Int) : fold_Of.f 12 c = some (foldc c) := by
  revert c
  refine by_fkeys _ (by decide +kernel) fun c h => ?_
  rw [fold_out h]
  have hn := fkeys_no h
  simp only [fspans, List.mem_cons, List.not_mem_nil, or_false, forall_eq_or_imp, forall_eq] at hn
  obtain ⟨h0, h1, h2, h3, h4, h5, h6, h7, h8, h9⟩ := hn
  have q0 : ¬ (c ≥ 65 ∧ c ≤ 90) := by omega
  have q1 : ¬ (c ≥ 181 ∧ c ≤ 181) := by omega
  have q2 : ¬ (c ≥ 192 ∧ c ≤ 214) := by omega
  have q3 : ¬ (c ≥ 216 ∧ c ≤ 222) := by omega
  have q4 : ¬ (c ≥ 913 ∧ c ≤ 929) := by omega
  have q5 : ¬ (c ≥ 931 ∧ c ≤ 937) := by omega
  have q6 : ¬ (c ≥ 962 ∧ c ≤ 962) := by omega
  have q7 : ¬ (c ≥ 1024 ∧ c ≤ 1039) := by omega
  have q8 : ¬ (c ≥ 1040 ∧ c ≤ 1071) := by omega
  have q9 : ¬ (c ≥ 7838 ∧ c ≤ 7838) := by omega
  have two : ∀ (a b : Int) (x y : Option Int), ¬ (c ≥ a ∧ c ≤ b) → (if c ≥ a then (if c ≤ b then x else y) else y) = y := by
    intro a b x y hq
    by_cases e1 : c ≥ a
    · rw [if_pos e1, if_neg (fun e2 => hq ⟨e1, e2⟩)]
    · rw [if_neg e1]
  have s0 : wrap64 (0 + 1) = 1 := by decide +kernel
  have s1 : wrap64 (1 + 1) = 2 := by decide +kernel
  have s2 : wrap64 (2 + 1) = 3 := by decide +kernel
  have s3 : wrap64 (3 + 1) = 4 := by decide +kernel
  have s4 : wrap64 (4 + 1) = 5 := by decide +kernel
  have s5 : wrap64 (5 + 1) = 6 := by decide +kernel
  have s6 : wrap64 (6 + 1) = 7 := by decide +kernel
  have s7 : wrap64 (7 + 1) = 8 := by decide +kernel
  have s8 : wrap64 (8 + 1) = 9 := by decide +kernel
  have s9 : wrap64 (9 + 1) = 10 := by decide +kernel
  unfold fold_Of.f fold_stretches.f
  simp only [Option.bind_some, List.length_cons, List.length_nil]
  simp only [fold_Of.l0, rd_T87, two _ _ _ _ q0, two _ _ _ _ q1, two _ _ _ _ q2, two _ _ _ _ q3, two _ _ _ _ q4, two _ _ _ _ q5, two _ _ _ _ q6, two _ _ _ _ q7, two _ _ _ _ q8, two _ _ _ _ q9, s0, s1, s2, s3, s4, s5, s6, s7, s8, s9,
    List.length_cons, List.length_nil, List.getD_cons_zero, List.getD_cons_succ, Int.toNat_natCast, Int.toNat_zero, Int.toNat_one, Int.reduceToNat, if_true, if_false, Int.reduceLT, Int.reduceLE]
  simp
theorem fold_eq (k : Nat) (hk : 12 ≤ k) (c : Int) : fold_Of.f k c = some (foldc c) := more (fold_Of.mono c) 12 k hk _ (fold_eq0 c)
theorem rfold_eq0 (c : Int) : ductusref04_Of.f 8 c = some (foldc c) := by
  revert c
  refine by_fkeys _ (by decide +kernel) fun c h => ?_
  rw [fold_out h]
  have hn := fkeys_no h
  simp only [fspans, List.mem_cons, List.not_mem_nil, or_false, forall_eq_or_imp, forall_eq] at hn
  obtain ⟨h0, h1, h2, h3, h4, h5, h6, h7, h8, h9⟩ := hn
  have two : ∀ (a b : Int) (x : Bool → Option Int) (y : Option Int), ¬ (c ≥ a ∧ c ≤ b) → x false = y → (if c ≥ a then x (decide (c ≤ b)) else y) = y := by
    intro a b x y hq hx
    by_cases e1 : c ≥ a
    · rw [if_pos e1, decide_eq_false (fun e2 => hq ⟨e1, e2⟩), hx]
    · rw [if_neg e1]
  have j5 : ∀ k, ductusref04_Of.j5 (k + 1) c false = some c := by
    intro k
    simp only [ductusref04_Of.j5]
    rw [if_neg (by decide), if_neg (by omega), if_neg (by omega), if_neg (by omega)]
  have j4 : ∀ k, ductusref04_Of.j4 (k + 2) c false = some c := by
    intro k
    simp only [ductusref04_Of.j4]
    rw [if_neg (by decide), two 1024 1039 (fun b => ductusref04_Of.j5 (k + 1) c b) _ (by omega) rfl]
    exact j5 k
  have j3 : ∀ k, ductusref04_Of.j3 (k + 3) c false = some c := by
    intro k
    have e2 : (if c ≥ 1040 then ductusref04_Of.j4 (k + 2) c (decide (c ≤ 1071)) else ductusref04_Of.j4 (k + 2) c false) = some c := by
      rw [two 1040 1071 (fun b => ductusref04_Of.j4 (k + 2) c b) _ (by omega) rfl]
      exact j4 k
    simp only [ductusref04_Of.j3]
    rw [if_neg (by decide), e2]
    by_cases e1 : c ≥ 931
    · rw [if_pos e1, if_neg (by omega)]
    · rw [if_neg e1]
  have j2 : ∀ k, ductusref04_Of.j2 (k + 4) c false = some c := by
    intro k
    simp only [ductusref04_Of.j2]
    rw [if_neg (by decide), two 913 929 (fun b => ductusref04_Of.j3 (k + 3) c b) _ (by omega) rfl]
    exact j3 k
  have j1 : ∀ k, ductusref04_Of.j1 (k + 5) c false = some c := by
    intro k
    simp only [ductusref04_Of.j1]
    rw [if_neg (by decide), two 216 222 (fun b => ductusref04_Of.j2 (k + 4) c b) _ (by omega) rfl]
    exact j2 k
  have j0 : ∀ k, ductusref04_Of.j0 (k + 6) c false = some c := by
    intro k
    simp only [ductusref04_Of.j0]
    rw [if_neg (by decide), two 192 214 (fun b => ductusref04_Of.j1 (k + 5) c b) _ (by omega) rfl]
    exact j1 k
  unfold ductusref04_Of.f
  rw [two 65 90 (fun b => ductusref04_Of.j0 8 c b) _ (by omega) rfl]
  exact j0 2
theorem rfold_eq (k : Nat) (hk : 8 ≤ k) (c : Int) : ductusref04_Of.f k c = some (foldc c) := more (ductusref04_Of.mono c) 8 k hk _ (rfold_eq0 c)
end Go.Proofs.Ythgmkbghdobmlaa.P
namespace Go.Proofs.Ythgmkbghdobmlaa.P
open Go.RowKit Go.Proofs.YthgmkbghdobmlaaW.PrintWords Go.Proofs.YthgmkbghdobmlaaW.PrintLast Go.Proofs.YthgmkbghdobmlaaW.PrintMore
set_option linter.unusedVariables false
set_option linter.unusedSimpArgs false

theorem ropens_eq (k : Int) : ductusref02_Opens.f k = some (opnK k) := by
  unfold ductusref02_Opens.f opnK
  repeat' split
  all_goals simp_all
  rfl
theorem rout0_eq (k : Int) : ductusref02_Out.f k = some (outK k) := by
  unfold ductusref02_Out.f outK
  repeat' split
  all_goals simp_all
  rfl
theorem rcls_eq (c : Int) : ductusref02_Of.f c = some (cls c) := rfl
theorem rcontrol_eq (c : Int) : ductusref23_Control.f c = some (ctl c) := by
  unfold ductusref23_Control.f ctl ctlK
  rw [rcls_eq]
  simp only [Option.bind_some, rout0_eq, ropens_eq]
  cases outK (cls c) <;> cases opnK (cls c) <;> simp

theorem and_one (n : Int) : Go.bits .and .i64 n 1 = 0 ∨ Go.bits .and .i64 n 1 = 1 := by
  have h1 : (BitVec.ofInt 64 1).toNat = 2 ^ 1 - 1 := by decide
  have key : (BitVec.ofInt 64 n &&& BitVec.ofInt 64 1).toNat = (n % ((2 ^ 64 : Nat) : Int)).toNat % 2 ^ 1 := by
    rw [BitVec.toNat_and, BitVec.toNat_ofInt, h1, Nat.and_two_pow_sub_one_eq_mod]
  have e : Go.bits .and .i64 n 1 = IntKind.i64.wrap ((BitVec.ofInt 64 n &&& BitVec.ofInt 64 1).toNat : Nat) := rfl
  rw [e, key, IntKind.wrap_i64]
  omega
theorem and_two (n : Int) : Go.bits .and .i64 n 2 = 0 ∨ Go.bits .and .i64 n 2 = 2 := by
  obtain ⟨r, hr⟩ : ∃ r, r = (BitVec.ofInt 64 n &&& BitVec.ofInt 64 2).toNat := ⟨_, rfl⟩
  have h1 : (BitVec.ofInt 64 2).toNat = 2 := by decide
  have e : Go.bits .and .i64 n 2 = IntKind.i64.wrap (r : Nat) := by rw [hr]; rfl
  rw [BitVec.toNat_and, h1] at hr
  have h2 : r ≤ 2 := by rw [hr]; exact Nat.and_le_right
  have h3 : r.testBit 0 = false := by rw [hr, Nat.testBit_and]; simp
  rw [Nat.testBit_zero, decide_eq_false_iff_not] at h3
  rw [e, IntKind.wrap_i64]
  omega
def trF (flags c : Int) : Int := if Go.bits .and .i64 flags 1 = 0 then c else foldc c
def trM (flags c : Int) : Int := if Go.bits .and .i64 flags 2 = 0 then c else mn c (mir c)
/-- What is searched in a character's place. -/
def tr (flags c : Int) : Int := trM flags (trF flags c)
def chrs (flags : Int) (l : List Int) : List Int := (l.filter nctl).map (tr flags)
def plcs (l : List Int) : List Int := placesOf nctl 0 l ++ [(l.length : Int)]

theorem all_loop (l : List Int) (hn : l.length ≤ 9000) (d : Nat) : ∀ (k i : Nat) (acc : List Int), i ≤ l.length → l.length - i = d → d + 12 < k → acc.length = i →
    fold_All.l0 k acc l (l.length : Int) (i : Int) = some (acc ++ (l.drop i).map foldc) := by
  induction d with
  | zero =>
    intro k i acc hi hd hk ha
    obtain ⟨k, rfl⟩ : ∃ m, k = m + 1 := ⟨k - 1, by omega⟩
    simp only [fold_All.l0]
    rw [if_neg (by omega), List.drop_eq_nil_of_le (by omega)]
    simp
  | succ d ih =>
    intro k i acc hi hd hk ha
    obtain ⟨k, rfl⟩ : ∃ m, k = m + 1 := ⟨k - 1, by omega⟩
    simp only [fold_All.l0]
    rw [if_pos (by omega), if_pos (by omega), if_pos (by omega), fold_eq k (by omega)]
    simp only [Option.bind_some]
    rw [if_pos (by omega), wrap_succ i (by omega), ih k (i + 1) _ (by omega) (by omega) (by omega) (by simp [ha]), drop_cons l i (by omega)]
    simp
theorem all_eq (k : Nat) (l : List Int) (hn : l.length ≤ 9000) (hk : l.length + 12 < k) : fold_All.f k l = some (l.map foldc) := by
  unfold fold_All.f
  have := all_loop l hn l.length k 0 [] (by omega) (by omega) hk rfl
  simpa using this
theorem of_loop (l0 : List Int) (flags : Int) (hn : l0.length ≤ 9000) (d : Nat) : ∀ (k i : Nat) (acc at_ : List Int), i ≤ l0.length → l0.length - i = d → d + l0.length + 100 < k → acc.length ≤ i → at_.length ≤ i →
    norm_Of.l0 k l0 flags acc at_ l0 (l0.length : Int) (i : Int) = some ((acc ++ (l0.drop i).filter nctl).map (tr flags), at_ ++ placesOf nctl i (l0.drop i) ++ [(l0.length : Int)]) := by
  induction d with
  | zero =>
    intro k i acc at_ hi hd hk ha hb
    obtain ⟨k, rfl⟩ : ∃ m, k = m + 1 := ⟨k - 1, by omega⟩
    simp only [norm_Of.l0]
    rw [if_neg (by omega), List.drop_eq_nil_of_le (by omega)]
    simp only [placesOf, List.filter_nil, List.append_nil]
    by_cases h1 : Go.bits .and .i64 flags 1 = 0
    · rw [if_pos h1]
      by_cases h2 : Go.bits .and .i64 flags 2 = 0
      · rw [if_pos h2, if_pos (by omega)]
        have e : acc.map (tr flags) = acc := by
          have : ∀ c, tr flags c = c := fun c => by unfold tr trM trF; rw [if_pos h2, if_pos h1]
          rw [List.map_congr_left (fun c _ => this c), List.map_id']
        rw [e]
      · rw [if_neg h2, plain_eq k acc (by omega) (by omega)]
        simp only [Option.bind_some]
        rw [if_pos (by omega)]
        have e : acc.map (tr flags) = plainL acc := by
          unfold plainL
          exact List.map_congr_left fun c _ => by unfold tr trM trF; rw [if_neg h2, if_pos h1]
        rw [e]
    · rw [if_neg h1, all_eq k acc (by omega) (by omega)]
      simp only [Option.bind_some]
      by_cases h2 : Go.bits .and .i64 flags 2 = 0
      · rw [if_pos h2, if_pos (by omega)]
        have e : acc.map (tr flags) = acc.map foldc := List.map_congr_left fun c _ => by unfold tr trM trF; rw [if_pos h2, if_neg h1]
        rw [e]
      · rw [if_neg h2, plain_eq k (acc.map foldc) (by simp; omega) (by simp; omega)]
        simp only [Option.bind_some]
        rw [if_pos (by omega)]
        have e : acc.map (tr flags) = plainL (acc.map foldc) := by
          unfold plainL
          rw [List.map_map]
          exact List.map_congr_left fun c _ => by unfold tr trM trF; rw [if_neg h2, if_neg h1]; rfl
        rw [e]
  | succ d ih =>
    intro k i acc at_ hi hd hk ha hb
    obtain ⟨k, rfl⟩ : ∃ m, k = m + 1 := ⟨k - 1, by omega⟩
    simp only [norm_Of.l0]
    rw [if_pos (by omega), if_pos (by omega), if_pos (by omega), control_eq k (by omega)]
    simp only [Option.bind_some]
    rw [wrap_succ i (by omega), drop_cons l0 i (by omega)]
    by_cases h : ctl (rd l0 (i : Int)) = true
    · have h2 : nctl (rd l0 (i : Int)) = false := by unfold nctl; rw [h]; rfl
      rw [if_pos h, ih k (i + 1) acc at_ (by omega) (by omega) (by omega) (by omega) (by omega)]
      simp [placesOf, h2]
    · have h2 : nctl (rd l0 (i : Int)) = true := by unfold nctl; simpa using h
      rw [if_neg h, if_pos (by omega), if_pos (by omega), ih k (i + 1) _ _ (by omega) (by omega) (by omega) (by simp; omega) (by simp; omega)]
      simp [placesOf, h2]
theorem norm_of_eq (k : Nat) (l : List Int) (flags : Int) (hn : l.length ≤ 9000) (hk : 2 * l.length + 100 < k) : norm_Of.f k l flags = some (chrs flags l, plcs l) := by
  unfold norm_Of.f chrs plcs
  have := of_loop l flags hn l.length k 0 [] [] (by omega) (by omega) (by omega) (by simp) (by simp)
  simpa using this
theorem rnorm_loop (l0 : List Int) (flags : Int) (hn : l0.length ≤ 9000) (d : Nat) : ∀ (k i : Nat) (acc at_ : List Int), i ≤ l0.length → l0.length - i = d → d + 100 < k → acc.length ≤ i → at_.length ≤ i →
    ductusref23_Of.l0 k l0 flags acc at_ (i : Int) = some (acc ++ ((l0.drop i).filter nctl).map (tr flags), at_ ++ placesOf nctl i (l0.drop i) ++ [(l0.length : Int)]) := by
  induction d with
  | zero =>
    intro k i acc at_ hi hd hk ha hb
    obtain ⟨k, rfl⟩ : ∃ m, k = m + 1 := ⟨k - 1, by omega⟩
    simp only [ductusref23_Of.l0]
    rw [if_neg (by omega), if_pos (by omega), List.drop_eq_nil_of_le (by omega)]
    simp [placesOf]
  | succ d ih =>
    intro k i acc at_ hi hd hk ha hb
    obtain ⟨k, rfl⟩ : ∃ m, k = m + 1 := ⟨k - 1, by omega⟩
    simp only [ductusref23_Of.l0]
    rw [if_pos (by omega), if_pos (by omega), rcontrol_eq]
    simp only [Option.bind_some]
    rw [wrap_succ i (by omega), drop_cons l0 i (by omega)]
    by_cases h : ctl (rd l0 (i : Int)) = true
    · have h2 : nctl (rd l0 (i : Int)) = false := by unfold nctl; rw [h]; rfl
      rw [if_pos h, ih k (i + 1) acc at_ (by omega) (by omega) (by omega) (by omega) (by omega)]
      simp [placesOf, h2]
    · have h2 : nctl (rd l0 (i : Int)) = true := by unfold nctl; simpa using h
      have next : ∀ c, c = tr flags (rd l0 (i : Int)) → (if acc.length < 17592186044416 then (if at_.length < 17592186044416 then (ductusref23_Of.l0 k l0 flags (acc ++ [c]) (at_ ++ [(i : Int)]) ((i + 1 : Nat) : Int)) else none) else none) = some (acc ++ ((rd l0 (i : Int) :: l0.drop (i + 1)).filter nctl).map (tr flags), at_ ++ placesOf nctl i (rd l0 (i : Int) :: l0.drop (i + 1)) ++ [(l0.length : Int)]) := by
        intro c hc
        rw [if_pos (by omega), if_pos (by omega), ih k (i + 1) _ _ (by omega) (by omega) (by omega) (by simp; omega) (by simp; omega)]
        simp [placesOf, h2, hc]
      rw [if_neg h, rfold_eq k (by omega)]
      simp only [Option.bind_some, rmirror_eq k (show 14 ≤ k by omega)]
      rcases and_one flags with a1 | a1 <;> rcases and_two flags with a2 | a2
      · rw [a1, a2, if_neg (by decide), if_neg (by decide)]
        exact next _ (by unfold tr trM trF; rw [if_pos a2, if_pos a1])
      · rw [a1, a2, if_neg (by decide), if_pos rfl]
        exact next _ (by unfold tr trM trF; rw [if_neg (by rw [a2]; decide), if_pos a1])
      · rw [a1, a2, if_pos rfl, if_neg (by decide)]
        exact next _ (by unfold tr trM trF; rw [if_pos a2, if_neg (by rw [a1]; decide)])
      · rw [a1, a2, if_pos rfl, if_pos rfl]
        exact next _ (by unfold tr trM trF; rw [if_neg (by rw [a2]; decide), if_neg (by rw [a1]; decide)])
theorem rnorm_of_eq (k : Nat) (l : List Int) (flags : Int) (hn : l.length ≤ 9000) (hk : l.length + 100 < k) : ductusref23_Of.f k l flags = some (chrs flags l, plcs l) := by
  unfold ductusref23_Of.f chrs plcs
  have := rnorm_loop l flags hn l.length k 0 [] [] (by omega) (by omega) (by omega) (by simp) (by simp)
  simpa using this

def backOf (l : List Int) (a b : Int) : Int × Int × Bool := if 0 ≤ a ∧ a ≤ b ∧ b < (l.length : Int) then (if b > a then (rd l a, wrap64 (rd l (b - 1) + 1), true) else (rd l a, rd l a, true)) else (0, 0, false)
theorem lies_eq (a b n : Int) : norm_lies.f a b n = some (decide (0 ≤ a ∧ a ≤ b ∧ b < n)) := by
  unfold norm_lies.f
  by_cases h : a ≥ 0
  · by_cases h2 : a ≤ b
    · rw [if_pos h, if_pos h2]
      simp [show 0 ≤ a from h, h2]
    · rw [if_pos h, if_neg h2]
      simp [h2]
  · rw [if_neg h]
    have : ¬ 0 ≤ a := h
    simp [this]
theorem back_eq (l : List Int) (hn : l.length ≤ 9001) (a b : Int) : norm_Back.f l a b = some (backOf l a b) := by
  unfold norm_Back.f backOf
  rw [lies_eq]
  simp only [Option.bind_some, decide_eq_true_eq]
  by_cases h : 0 ≤ a ∧ a ≤ b ∧ b < (l.length : Int)
  · rw [if_pos h, if_pos h, if_pos h.1, if_pos (by omega)]
    by_cases h2 : b > a
    · rw [if_pos h2, if_pos h2, wrap_id (x := b - 1) (by omega) (by omega), if_pos (by omega), if_pos (by omega)]
    · rw [if_neg h2, if_neg h2]
  · rw [if_neg h, if_neg h]
theorem plcs_len (l : List Int) : (plcs l).length = (l.filter nctl).length + 1 := by
  unfold plcs
  rw [List.length_append, places_len]
  rfl
theorem plcs_up (l : List Int) : List.Pairwise (· < ·) (plcs l) := by
  unfold plcs
  refine List.pairwise_append.2 ⟨places_up nctl 0 l, List.pairwise_singleton _ _, fun x hx y hy => ?_⟩
  have := places_mem nctl 0 l x hx
  simp only [List.mem_singleton] at hy
  omega
theorem plcs_in (l : List Int) : ∀ x ∈ plcs l, 0 ≤ x ∧ x ≤ (l.length : Int) := by
  intro x hx
  unfold plcs at hx
  rcases List.mem_append.1 hx with h | h
  · have := places_mem nctl 0 l x h
    omega
  · simp only [List.mem_singleton] at h
    omega
/-- The place of the i-th that is searched. -/
theorem plcs_at (l : List Int) (i : Nat) (h : i < (l.filter nctl).length) : rd (plcs l) (i : Int) = (placesOf nctl 0 l)[i]'(by rw [places_len]; exact h) := by
  rw [rd_get _ i (by rw [plcs_len]; omega)]
  unfold plcs
  rw [List.getElem_append_left]
theorem plcs_end (l : List Int) : rd (plcs l) ((l.filter nctl).length : Int) = (l.length : Int) := by
  rw [rd_get _ _ (by rw [plcs_len]; omega)]
  unfold plcs
  rw [List.getElem_append_right (by rw [places_len]; omega)]
  simp
theorem plcs_lt (l : List Int) (i : Nat) (h : i < (l.filter nctl).length) : 0 ≤ rd (plcs l) (i : Int) ∧ rd (plcs l) (i : Int) < (l.length : Int) := by
  rw [plcs_at l i h]
  have := places_mem nctl 0 l _ (List.getElem_mem (show i < (placesOf nctl 0 l).length by rw [places_len]; exact h))
  omega
theorem plcs_mono (l : List Int) (i j : Nat) (h : i < j) (hj : j ≤ (l.filter nctl).length) : rd (plcs l) (i : Int) < rd (plcs l) (j : Int) := by
  rw [rd_get _ i (by rw [plcs_len]; omega), rd_get _ j (by rw [plcs_len]; omega)]
  exact List.pairwise_iff_getElem.1 (plcs_up l) i j _ _ h
theorem take_place (p : Int → Bool) : ∀ (l : List Int) (s i : Nat) (x : Int), (placesOf p s l)[i]? = some x →
    (l.take (x.toNat - s)).filter p = (l.filter p).take i ∧ (l.take (x.toNat - s + 1)).filter p = (l.filter p).take (i + 1) ∧ s ≤ x.toNat
  | [], s, i, x, h => by simp [placesOf] at h
  | c :: l, s, i, x, h => by
    by_cases hc : p c = true
    · simp only [placesOf, if_pos hc] at h
      cases i with
      | zero =>
        simp only [List.getElem?_cons_zero, Option.some.injEq] at h
        subst h
        simp [hc]
      | succ i =>
        rw [List.getElem?_cons_succ] at h
        obtain ⟨h1, h2, h3⟩ := take_place p l (s + 1) i x h
        have e : x.toNat - s = (x.toNat - (s + 1)) + 1 := by omega
        rw [e]
        simp only [List.take_succ_cons, List.filter_cons, if_pos hc, h1]
        refine ⟨trivial, ?_, by omega⟩
        rw [h2]
    · simp only [placesOf, if_neg hc] at h
      obtain ⟨h1, h2, h3⟩ := take_place p l (s + 1) i x h
      have e : x.toNat - s = (x.toNat - (s + 1)) + 1 := by omega
      rw [e]
      simp only [List.take_succ_cons, List.filter_cons, if_neg hc, h1]
      exact ⟨trivial, h2, by omega⟩
theorem mid_filter (p : Int → Bool) (l : List Int) (a b m n : Nat) (hab : a ≤ b) (hmn : m ≤ n) (hn : n ≤ (l.filter p).length) (ha : (l.take a).filter p = (l.filter p).take m) (hb : (l.take b).filter p = (l.filter p).take n) :
    ((l.take b).drop a).filter p = ((l.filter p).take n).drop m := by
  have e : l.take b = l.take a ++ (l.take b).drop a := by
    have := (List.take_append_drop a (l.take b)).symm
    rwa [List.take_take, Nat.min_eq_left hab] at this
  have e2 : (l.filter p).take n = (l.filter p).take m ++ ((l.take b).drop a).filter p := by
    rw [← hb, ← ha, ← List.filter_append, ← e]
  rw [e2, List.drop_left' (by rw [List.length_take]; omega)]
end Go.Proofs.Ythgmkbghdobmlaa.P
namespace Go.Proofs.Ythgmkbghdobmlaa.P
open Go.RowKit Go.Proofs.YthgmkbghdobmlaaW.PrintWords Go.Proofs.YthgmkbghdobmlaaW.PrintLast
set_option linter.unusedVariables false

theorem ev_step {α β : Type} {f : Nat → Option α} {g : Nat → Option β} {a : α} {r : β} (H : Ev f a) (h : ∀ k, f k = some a → g (k + 1) = some r) : Ev g r := by
  obtain ⟨K, H⟩ := H
  refine ⟨K + 1, fun k hk => ?_⟩
  obtain ⟨k, rfl⟩ : ∃ m, k = m + 1 := ⟨k - 1, by omega⟩
  exact h k (H k (by omega))
theorem ev_step2 {α β γ : Type} {f : Nat → Option α} {f2 : Nat → Option γ} {g : Nat → Option β} {a : α} {b : γ} {r : β} (H : Ev f a) (H2 : Ev f2 b) (h : ∀ k, f k = some a → f2 k = some b → g (k + 1) = some r) : Ev g r := by
  obtain ⟨K, H⟩ := H
  obtain ⟨K2, H2⟩ := H2
  refine ⟨K + K2 + 1, fun k hk => ?_⟩
  obtain ⟨k, rfl⟩ : ∃ m, k = m + 1 := ⟨k - 1, by omega⟩
  exact h k (H k (by omega)) (H2 k (by omega))
theorem ev_one {β : Type} {g : Nat → Option β} {r : β} (h : ∀ k, g (k + 1) = some r) : Ev g r := ⟨1, fun k hk => by
  obtain ⟨k, rfl⟩ : ∃ m, k = m + 1 := ⟨k - 1, by omega⟩
  exact h k⟩
theorem ev_now {β : Type} {g : Nat → Option β} {r : β} (h : ∀ k, g k = some r) : Ev g r := ⟨0, fun k _ => h k⟩
theorem ev_same {α β : Type} {f : Nat → Option α} {g : Nat → Option β} {a : α} {r : β} (H : Ev f a) (h : ∀ k, f k = some a → g k = some r) : Ev g r := by
  obtain ⟨K, H⟩ := H
  exact ⟨K, fun k hk => h k (H k hk)⟩
theorem ev_same2 {α β γ : Type} {f : Nat → Option α} {f2 : Nat → Option γ} {g : Nat → Option β} {a : α} {b : γ} {r : β} (H : Ev f a) (H2 : Ev f2 b) (h : ∀ k, f k = some a → f2 k = some b → g k = some r) : Ev g r := by
  obtain ⟨K, H⟩ := H
  obtain ⟨K2, H2⟩ := H2
  exact ⟨K + K2, fun k hk => h k (H k (by omega)) (H2 k (by omega))⟩
/-- Two answers at once. -/
theorem ev_and {α γ : Type} {f : Nat → Option α} {f2 : Nat → Option γ} {a : α} {b : γ} (H : Ev f a) (H2 : Ev f2 b) : Ev (fun k => (f k).bind fun x => (f2 k).map fun y => (x, y)) (a, b) :=
  ev_same2 H H2 fun k h h2 => by rw [h, h2]; rfl
theorem ev_fst {α γ : Type} {o : Option α} {o2 : Option γ} {a : α} {b : γ} (h : (o.bind fun x => o2.map fun y => (x, y)) = some (a, b)) : o = some a ∧ o2 = some b := by
  cases o with
  | none => cases h
  | some x =>
    cases o2 with
    | none => cases h
    | some y =>
      simp only [Option.bind_some, Option.map_some, Option.some.injEq, Prod.mk.injEq] at h
      rw [h.1, h.2]
      exact ⟨rfl, rfl⟩
end Go.Proofs.Ythgmkbghdobmlaa.P
namespace Go.Proofs.Ythgmkbghdobmlaa.P
open Go.RowKit Go.Proofs.YthgmkbghdobmlaaW.PrintWords Go.Proofs.YthgmkbghdobmlaaW.PrintLast
set_option linter.unusedVariables false
set_option linter.unusedSimpArgs false

/-- Is it a character? -/
def RightC (c : Int) : Prop := 0 ≤ c ∧ c ≤ 1114111 ∧ (c < 55296 ∨ c > 57343)
instance (c : Int) : Decidable (RightC c) := inferInstanceAs (Decidable (0 ≤ c ∧ c ≤ 1114111 ∧ (c < 55296 ∨ c > 57343)))
theorem vrune_ev (c : Int) : Ev (fun k => utf8_ValidRune.f k c) (decide (RightC c)) := by
  have hj : ∀ b, (b = true → 0 ≤ c ∧ c < 55296) → (b = false → ¬ (0 ≤ c ∧ c < 55296)) → Ev (fun k => utf8_ValidRune.j0 k c b) (decide (RightC c)) := by
    intro b h1 h2
    refine ev_one fun k => ?_
    simp only [utf8_ValidRune.j0]
    cases b with
    | true =>
      have := h1 rfl
      rw [if_pos rfl, decide_eq_true (show RightC c from ⟨by omega, by omega, .inl (by omega)⟩)]
    | false =>
      have := h2 rfl
      rw [if_neg (by simp)]
      by_cases q1 : 57343 < c
      · rw [if_pos q1]
        by_cases q2 : c ≤ 1114111
        · rw [if_pos q2, decide_eq_true (show RightC c from ⟨by omega, q2, .inr q1⟩)]
        · rw [if_neg q2, decide_eq_false (show ¬ RightC c from fun h => q2 h.2.1)]
      · rw [if_neg q1, decide_eq_false (show ¬ RightC c from fun h => by have := h.1; have := h.2.2; omega)]
  by_cases h0 : 0 ≤ c
  · by_cases h1 : c < 55296
    · refine ev_same (hj true (fun _ => ⟨h0, h1⟩) (fun h => by cases h)) fun k hk => ?_
      unfold utf8_ValidRune.f
      rw [if_pos h0, decide_eq_true h1]
      exact hk
    · refine ev_same (hj false (fun h => by cases h) (fun _ h => h1 h.2)) fun k hk => ?_
      unfold utf8_ValidRune.f
      rw [if_pos h0, decide_eq_false h1]
      exact hk
  · refine ev_same (hj false (fun h => by cases h) (fun _ h => h0 h.1)) fun k hk => ?_
    unfold utf8_ValidRune.f
    rw [if_neg h0]
    exact hk
theorem wrap32_id {x : Int} (h0 : -2147483648 ≤ x) (h1 : x ≤ 2147483647) : wrap32 x = x := by
  unfold wrap32
  omega
theorem rightU_ev (c : Int) : Ev (fun k => utf_Right.f k c) (decide (RightC c)) := by
  by_cases h0 : c ≥ 0
  · by_cases h1 : c ≤ 1114111
    · have hw : wrap32 c = c := wrap32_id (by omega) (by omega)
      refine ev_same (vrune_ev c) fun k hk => ?_
      unfold utf_Right.f
      rw [if_pos h0, if_pos h1, hw, hk, Option.bind_some]
    · refine ev_now fun k => ?_
      unfold utf_Right.f
      rw [if_pos h0, if_neg h1, decide_eq_false (show ¬ RightC c from fun h => h1 h.2.1)]
  · refine ev_now fun k => ?_
    unfold utf_Right.f
    rw [if_neg h0, decide_eq_false (show ¬ RightC c from fun h => h0 h.1)]
def allR (l : List Int) : Prop := ∀ c ∈ l, RightC c
instance (l : List Int) : Decidable (allR l) := inferInstanceAs (Decidable (∀ c ∈ l, RightC c))
theorem sidx_loop (l : List Int) (hl : l.length < 9223372036854775807) (d : Nat) : ∀ i : Nat, i + d = l.length → ∃ r, Ev (fun k => slices_IndexFunc_int_swap_looked_1.l0 k l (l.length : Int) (i : Int)) r ∧ (r ≥ 0 ↔ ¬ allR (l.drop i)) := by
  induction d with
  | zero =>
    intro i hi
    refine ⟨-1, ev_one fun k => ?_, ?_⟩
    · simp only [slices_IndexFunc_int_swap_looked_1.l0]
      rw [if_neg (by omega)]
    · rw [List.drop_eq_nil_of_le (by omega)]
      simp [allR]
  | succ d ih =>
    intro i hi
    have hw : wrap64 ((i : Int) + 1) = ((i + 1 : Nat) : Int) := wrap_succ i (by omega)
    have he : Ev (fun k => swap_looked_1.f k (rd l (i : Int))) (!decide (RightC (rd l (i : Int)))) := ev_same (rightU_ev _) fun k hk => by
      unfold swap_looked_1.f
      rw [hk]
      rfl
    by_cases h : RightC (rd l (i : Int))
    · obtain ⟨r, hr, hi2⟩ := ih (i + 1) (by omega)
      refine ⟨r, ev_step2 he hr fun k hk hk2 => ?_, ?_⟩
      · simp only [slices_IndexFunc_int_swap_looked_1.l0]
        rw [if_pos (by omega), if_pos (by omega), if_pos (by omega), hk, decide_eq_true h, Option.bind_some, if_neg (by simp), hw]
        exact hk2
      · rw [hi2, drop_cons l i (by omega)]
        simp [allR, h]
    · refine ⟨(i : Int), ev_step he fun k hk => ?_, ?_⟩
      · simp only [slices_IndexFunc_int_swap_looked_1.l0]
        rw [if_pos (by omega), if_pos (by omega), if_pos (by omega), hk, decide_eq_false h, Option.bind_some, if_pos (by rfl)]
      · rw [drop_cons l i (by omega)]
        simp [allR, h]
theorem scontains_ev (l : List Int) (hl : l.length < 9223372036854775807) : Ev (fun k => slices_ContainsFunc_int_swap_looked_1.f k l) (!decide (allR l)) := by
  obtain ⟨r, hr, hi⟩ := sidx_loop l hl l.length 0 (by omega)
  rw [List.drop_zero] at hi
  refine ev_same hr fun k hk => ?_
  unfold slices_ContainsFunc_int_swap_looked_1.f slices_IndexFunc_int_swap_looked_1.f
  have hk : slices_IndexFunc_int_swap_looked_1.l0 k l (l.length : Int) 0 = some r := hk
  rw [hk, Option.bind_some]
  by_cases h : allR l
  · rw [decide_eq_true h, decide_eq_false (show ¬ r ≥ 0 from fun x => hi.1 x h)]
    rfl
  · rw [decide_eq_false h, decide_eq_true (show r ≥ 0 from hi.2 h)]
    rfl
end Go.Proofs.Ythgmkbghdobmlaa.P
namespace Go.Proofs.Ythgmkbghdobmlaa.P
open Go.RowKit Go.Proofs.YthgmkbghdobmlaaW.PrintWords Go.Proofs.YthgmkbghdobmlaaW.PrintLast Go.Proofs.YthgmkbghdobmlaaW.PrintMore
set_option linter.unusedVariables false
set_option linter.unusedSimpArgs false

theorem tr0 (c : Int) : tr 0 c = c := by
  unfold tr trM trF
  rw [if_pos (by decide), if_pos (by decide)]
theorem chrs0 (l : List Int) : chrs 0 l = l.filter nctl := by
  unfold chrs
  rw [show tr 0 = id from funext tr0, List.map_id]
theorem normOf_ev (l : List Int) (hl : l.length ≤ 9000) : Ev (fun k => norm_Of.f k l 0) (l.filter nctl, plcs l) := ⟨2 * l.length + 101, fun k hk => by
  have := norm_of_eq k l 0 hl (by omega)
  rw [chrs0] at this
  exact this⟩
theorem rnormOf_ev (l : List Int) (hl : l.length ≤ 9000) : Ev (fun k => ductusref23_Of.f k l 0) (l.filter nctl, plcs l) := ⟨l.length + 101, fun k hk => by
  have := rnorm_of_eq k l 0 hl (by omega)
  rw [chrs0] at this
  exact this⟩
theorem rplain_ev (l : List Int) (hl : l.length ≤ 9000) : Ev (fun k => ductusref27_Plain.f k l) (l.filter nctl) := ev_same (rnormOf_ev l hl) fun k hk => by
  unfold ductusref27_Plain.f
  rw [hk, Option.bind_some]
theorem splain_eq (l : List Int) (hl : l.length ≤ 9000) : swap_Plain.f l = some (l.filter nctl) := by
  unfold swap_Plain.f
  rw [if_pos (by omega)]
theorem ctl_eqB (l : List Int) (hl : l.length ≤ 9000) : balance_Controls.f l = some (l.filter opc) := by
  unfold balance_Controls.f
  rw [if_pos (by omega)]

abbrev F0 (sp : List S39) (i : Nat) : Int := (rd_T39 sp (i : Int)).f0
abbrev F1 (sp : List S39) (i : Nat) : Int := (rd_T39 sp (i : Int)).f1
theorem dropS (sp : List S39) (i : Nat) (h : i < sp.length) : sp.drop i = rd_T39 sp (i : Int) :: sp.drop (i + 1) := by
  rw [List.drop_eq_getElem_cons h]
  unfold rd_T39
  rw [Int.toNat_natCast, List.getD_eq_getElem?_getD, List.getElem?_eq_getElem h]
  rfl
theorem getS (sp : List S39) (i : Nat) (h : i < sp.length) : rd_T39 sp (i : Int) = sp[i] := by
  unfold rd_T39
  rw [Int.toNat_natCast, List.getD_eq_getElem?_getD, List.getElem?_eq_getElem h]
  rfl
def badS (sp : List S39) (m : Int) (i : Nat) : Prop := F0 sp i < 0 ∨ F1 sp i < F0 sp i ∨ F1 sp i > m
def badP (sp : List S39) (i : Nat) : Prop := 0 < i ∧ (F0 sp i < F1 sp (i - 1) ∨ F0 sp i = F0 sp (i - 1))
instance (sp : List S39) (m : Int) (i : Nat) : Decidable (badS sp m i) := inferInstanceAs (Decidable (_ ∨ _))
instance (sp : List S39) (i : Nat) : Decidable (badP sp i) := inferInstanceAs (Decidable (_ ∧ _))
def rightL (sp : List S39) (m : Int) : Nat → Nat → Bool
  | 0, _ => true
  | d + 1, i => if badS sp m i then false else if badP sp i then false else rightL sp m d (i + 1)
theorem scan_loop (sp : List S39) (m : Int) (hn : sp.length ≤ 500) (d : Nat) : ∀ i : Nat, i + d = sp.length → Ev (fun k => scan_Right.l0 k sp m sp (sp.length : Int) (i : Int)) (rightL sp m d i) := by
  induction d with
  | zero =>
    intro i hi
    refine ev_one fun k => ?_
    simp only [scan_Right.l0]
    rw [if_neg (by omega)]
    rfl
  | succ d ih =>
    intro i hi
    have hw : wrap64 ((i : Int) + 1) = ((i + 1 : Nat) : Int) := wrap_succ i (by omega)
    have hjT : Ev (fun k => scan_Right.j1 k sp m (i : Int) sp (sp.length : Int) (i : Int) true (F0 sp i) (F1 sp i)) false := ev_one fun k => by
      simp only [scan_Right.j1, if_true]
    have hjF : Ev (fun k => scan_Right.j1 k sp m (i : Int) sp (sp.length : Int) (i : Int) false (F0 sp i) (F1 sp i)) (if badP sp i then false else rightL sp m d (i + 1)) := by
        by_cases h0 : 0 < i
        · have hw1 : wrap64 ((i : Int) - 1) = ((i - 1 : Nat) : Int) := by
            rw [wrap_id (by omega) (by omega)]
            omega
          by_cases h1 : F0 sp i < F1 sp (i - 1)
          · refine ev_one fun k => ?_
            simp only [scan_Right.j1, Bool.false_eq_true, if_false]
            rw [if_pos (by omega), hw1, if_pos (by omega), if_pos (by omega), if_pos h1, if_pos ⟨h0, .inl h1⟩]
          · by_cases h2 : F0 sp i = F0 sp (i - 1)
            · refine ev_one fun k => ?_
              simp only [scan_Right.j1, Bool.false_eq_true, if_false]
              rw [if_pos (by omega), hw1, if_pos (by omega), if_pos (by omega), if_neg h1, if_pos h2, if_pos ⟨h0, .inr h2⟩]
            · refine ev_step (ih (i + 1) (by omega)) fun k hk => ?_
              simp only [scan_Right.j1, Bool.false_eq_true, if_false]
              rw [if_pos (by omega), hw1, if_pos (by omega), if_pos (by omega), if_neg h1, if_neg h2, hw, hk, if_neg (show ¬ badP sp i from fun h => h.2.elim h1 h2)]
        · refine ev_step (ih (i + 1) (by omega)) fun k hk => ?_
          simp only [scan_Right.j1, Bool.false_eq_true, if_false]
          rw [if_neg (by omega), hw, hk, if_neg (show ¬ badP sp i from fun h => h0 h.1)]
    by_cases h1 : F0 sp i < 0
    · refine ev_step hjT fun k hk => ?_
      simp only [scan_Right.l0]
      rw [if_pos (by omega), if_pos (by omega), if_pos (by omega), if_pos h1, hk]
      simp only [rightL]
      rw [if_pos (.inl h1)]
    · by_cases h2 : F1 sp i < F0 sp i
      · refine ev_step hjT fun k hk => ?_
        simp only [scan_Right.l0]
        rw [if_pos (by omega), if_pos (by omega), if_pos (by omega), if_neg h1, if_pos h2, hk]
        simp only [rightL]
        rw [if_pos (.inr (.inl h2))]
      · by_cases h3 : F1 sp i > m
        · refine ev_step hjT fun k hk => ?_
          simp only [scan_Right.l0]
          rw [if_pos (by omega), if_pos (by omega), if_pos (by omega), if_neg h1, if_neg h2, decide_eq_true h3, hk]
          simp only [rightL]
          rw [if_pos (.inr (.inr h3))]
        · refine ev_step hjF fun k hk => ?_
          simp only [scan_Right.l0]
          rw [if_pos (by omega), if_pos (by omega), if_pos (by omega), if_neg h1, if_neg h2, decide_eq_false h3, hk]
          simp only [rightL]
          rw [if_neg (show ¬ badS sp m i from fun h => h.elim h1 fun h => h.elim h2 h3)]
theorem rscan_loop (sp : List S39) (m : Int) (hn : sp.length ≤ 500) (d : Nat) : ∀ i : Nat, i + d = sp.length → Ev (fun k => ductusref22_Right.l0 k sp m (i : Int)) (rightL sp m d i) := by
  induction d with
  | zero =>
    intro i hi
    refine ev_one fun k => ?_
    simp only [ductusref22_Right.l0]
    rw [if_neg (by omega)]
    rfl
  | succ d ih =>
    intro i hi
    have hw : wrap64 ((i : Int) + 1) = ((i + 1 : Nat) : Int) := wrap_succ i (by omega)
    have hjT : Ev (fun k => ductusref22_Right.j1 k sp m (i : Int) true (F0 sp i) (F1 sp i)) false := ev_one fun k => by
      simp only [ductusref22_Right.j1, if_true]
    have hjF : Ev (fun k => ductusref22_Right.j1 k sp m (i : Int) false (F0 sp i) (F1 sp i)) (if badP sp i then false else rightL sp m d (i + 1)) := by
        by_cases h0 : 0 < i
        · have hw1 : wrap64 ((i : Int) - 1) = ((i - 1 : Nat) : Int) := by
            rw [wrap_id (by omega) (by omega)]
            omega
          by_cases h1 : F0 sp i < F1 sp (i - 1)
          · refine ev_one fun k => ?_
            simp only [ductusref22_Right.j1, Bool.false_eq_true, if_false]
            rw [if_pos (by omega), hw1, if_pos (by omega), if_pos (by omega), if_pos h1, if_pos ⟨h0, .inl h1⟩]
          · by_cases h2 : F0 sp i = F0 sp (i - 1)
            · refine ev_one fun k => ?_
              simp only [ductusref22_Right.j1, Bool.false_eq_true, if_false]
              rw [if_pos (by omega), hw1, if_pos (by omega), if_pos (by omega), if_neg h1, if_pos h2, if_pos ⟨h0, .inr h2⟩]
            · refine ev_step (ih (i + 1) (by omega)) fun k hk => ?_
              simp only [ductusref22_Right.j1, Bool.false_eq_true, if_false]
              rw [if_pos (by omega), hw1, if_pos (by omega), if_pos (by omega), if_neg h1, if_neg h2, hw, hk, if_neg (show ¬ badP sp i from fun h => h.2.elim h1 h2)]
        · refine ev_step (ih (i + 1) (by omega)) fun k hk => ?_
          simp only [ductusref22_Right.j1, Bool.false_eq_true, if_false]
          rw [if_neg (by omega), hw, hk, if_neg (show ¬ badP sp i from fun h => h0 h.1)]
    by_cases h1 : F0 sp i < 0
    · refine ev_step hjT fun k hk => ?_
      simp only [ductusref22_Right.l0]
      rw [if_pos (by omega), if_pos (by omega), if_pos h1, hk]
      simp only [rightL]
      rw [if_pos (.inl h1)]
    · by_cases h2 : F1 sp i < F0 sp i
      · refine ev_step hjT fun k hk => ?_
        simp only [ductusref22_Right.l0]
        rw [if_pos (by omega), if_pos (by omega), if_neg h1, if_pos h2, hk]
        simp only [rightL]
        rw [if_pos (.inr (.inl h2))]
      · by_cases h3 : F1 sp i > m
        · refine ev_step hjT fun k hk => ?_
          simp only [ductusref22_Right.l0]
          rw [if_pos (by omega), if_pos (by omega), if_neg h1, if_neg h2, decide_eq_true h3, hk]
          simp only [rightL]
          rw [if_pos (.inr (.inr h3))]
        · refine ev_step hjF fun k hk => ?_
          simp only [ductusref22_Right.l0]
          rw [if_pos (by omega), if_pos (by omega), if_neg h1, if_neg h2, decide_eq_false h3, hk]
          simp only [rightL]
          rw [if_neg (show ¬ badS sp m i from fun h => h.elim h1 fun h => h.elim h2 h3)]
def rightM (sp : List S39) (m : Int) : Bool := rightL sp m sp.length 0
theorem scan_ev (sp : List S39) (m : Int) (hn : sp.length ≤ 500) : Ev (fun k => scan_Right.f k sp m) (rightM sp m) := scan_loop sp m hn sp.length 0 (by omega)
theorem rscan_ev (sp : List S39) (m : Int) (hn : sp.length ≤ 500) : Ev (fun k => ductusref22_Right.f k sp m) (rightM sp m) := rscan_loop sp m hn sp.length 0 (by omega)
theorem right_at (sp : List S39) (m : Int) : ∀ (d i : Nat), i + d = sp.length → rightL sp m d i = true → ∀ j, i ≤ j → j < sp.length → ¬ badS sp m j ∧ ¬ badP sp j
  | 0, i, hi, _, j, h1, h2 => by omega
  | d + 1, i, hi, h, j, h1, h2 => by
    simp only [rightL] at h
    by_cases c1 : badS sp m i
    · rw [if_pos c1] at h
      cases h
    rw [if_neg c1] at h
    by_cases c2 : badP sp i
    · rw [if_pos c2] at h
      cases h
    rw [if_neg c2] at h
    by_cases e : j = i
    · subst e
      exact ⟨c1, c2⟩
    · exact right_at sp m d (i + 1) (by omega) h j (by omega) h2
theorem right_in {sp : List S39} {m : Int} (h : rightM sp m = true) (j : Nat) (hj : j < sp.length) : 0 ≤ F0 sp j ∧ F0 sp j ≤ F1 sp j ∧ F1 sp j ≤ m := by
  have := (right_at sp m sp.length 0 (by omega) h j (by omega) hj).1
  unfold badS at this
  omega
theorem right_up {sp : List S39} {m : Int} (h : rightM sp m = true) (i : Nat) : ∀ j : Nat, i < j → j < sp.length → F1 sp i ≤ F0 sp j := by
  intro j hij hj
  induction j with
  | zero => omega
  | succ j ih =>
    have h2 := (right_at sp m sp.length 0 (by omega) h (j + 1) (by omega) hj).2
    have h3 := right_in h j (by omega)
    have e : j + 1 - 1 = j := by omega
    unfold badP at h2
    rw [e] at h2
    by_cases e2 : i = j
    · subst e2
      omega
    · have := ih (by omega) (by omega)
      omega
/-- Spans in order, each within n. -/
def Good (n : Int) (sp : List S39) : Prop := (∀ s ∈ sp, 0 ≤ s.f0 ∧ s.f0 ≤ s.f1 ∧ s.f1 ≤ n) ∧ sp.Pairwise (fun a b => a.f1 ≤ b.f0)
def exM (l at_ pl : List Int) : List S39 → List Int → Int → List Int × Int
  | [], out, last => if (((out ++ l.drop last.toNat).length : Nat) : Int) > 8000 then ([], 2) else (out ++ l.drop last.toNat, 0)
  | s :: sp, out, last => if (((out ++ (l.take (backOf at_ s.f0 s.f1).1.toNat).drop last.toNat ++ pl ++ ((l.take (backOf at_ s.f0 s.f1).2.1.toNat).drop (backOf at_ s.f0 s.f1).1.toNat).filter opc).length : Nat) : Int) > 8000 then ([], 2) else exM l at_ pl sp (out ++ (l.take (backOf at_ s.f0 s.f1).1.toNat).drop last.toNat ++ pl ++ ((l.take (backOf at_ s.f0 s.f1).2.1.toNat).drop (backOf at_ s.f0 s.f1).1.toNat).filter opc) (backOf at_ s.f0 s.f1).2.1
def Fits (l at_ : List Int) : List S39 → Int → Prop
  | [], last => 0 ≤ last ∧ last ≤ (l.length : Int)
  | s :: sp, last => (0 ≤ last ∧ last ≤ (backOf at_ s.f0 s.f1).1 ∧ (backOf at_ s.f0 s.f1).1 ≤ (backOf at_ s.f0 s.f1).2.1 ∧ (backOf at_ s.f0 s.f1).2.1 ≤ (l.length : Int)) ∧ Fits l at_ sp (backOf at_ s.f0 s.f1).2.1
theorem mid_len (l : List Int) (a b : Nat) : ((l.take b).drop a).length ≤ l.length := by
  rw [List.length_drop, List.length_take]
  omega
theorem ex_loop (l at_ pl : List Int) (sp : List S39) (hl : l.length ≤ 500) (ha : at_.length ≤ 501) (hp : pl.length ≤ 500) (hs : sp.length ≤ 500) (d : Nat) : ∀ (i : Nat) (out : List Int) (last : Int), i + d = sp.length → out.length ≤ 8000 → Fits l at_ (sp.drop i) last →
    Ev (fun k => swap_exchange.l0 k l at_ sp pl out last (i : Int)) (exM l at_ pl (sp.drop i) out last) := by
  induction d with
  | zero =>
    intro i out last hi ho hf
    rw [List.drop_eq_nil_of_le (by omega)] at hf ⊢
    refine ev_one fun k => ?_
    simp only [swap_exchange.l0]
    have hd : (l.drop last.toNat).length ≤ l.length := by rw [List.length_drop]; omega
    rw [if_neg (by omega), if_pos (show 0 ≤ last ∧ last ≤ (l.length : Int) from hf), if_pos (by omega)]
    simp only [exM]
    split <;> rfl
  | succ d ih =>
    intro i out last hi ho hf
    rw [dropS sp i (by omega)] at hf ⊢
    have hw : wrap64 ((i : Int) + 1) = ((i + 1 : Nat) : Int) := wrap_succ i (by omega)
    obtain ⟨hf1, hf2⟩ := hf
    simp only [exM]
    obtain ⟨B, hB⟩ : ∃ B, backOf at_ (rd_T39 sp (i : Int)).f0 (rd_T39 sp (i : Int)).f1 = B := ⟨_, rfl⟩
    rw [hB] at hf1 hf2 ⊢
    have hbk : norm_Back.f at_ (rd_T39 sp (i : Int)).f0 (rd_T39 sp (i : Int)).f1 = some B := by rw [back_eq at_ (by omega), hB]
    have m1 := mid_len l last.toNat B.1.toNat
    have m2 := mid_len l B.1.toNat B.2.1.toNat
    have m3 := List.length_filter_le opc ((l.take B.2.1.toNat).drop B.1.toNat)
    have hct : balance_Controls.f ((l.take B.2.1.toNat).drop B.1.toNat) = some (((l.take B.2.1.toNat).drop B.1.toNat).filter opc) := ctl_eqB _ (by omega)
    obtain ⟨o, ho2⟩ : ∃ o, out ++ (l.take B.1.toNat).drop last.toNat ++ pl ++ ((l.take B.2.1.toNat).drop B.1.toNat).filter opc = o := ⟨_, rfl⟩
    have hfl : ([out, (l.take B.1.toNat).drop last.toNat, pl, ((l.take B.2.1.toNat).drop B.1.toNat).filter opc] : List (List Int)).flatten = o := by rw [← ho2]; simp
    have hol : o.length ≤ 10000 := by
      rw [← ho2]
      simp only [List.length_append]
      omega
    rw [ho2]
    by_cases c : ((o.length : Nat) : Int) > 8000
    · refine ev_one fun k => ?_
      simp only [swap_exchange.l0]
      rw [if_pos (by omega), if_pos (by omega), hbk, Option.bind_some, if_pos hf1, hct, Option.bind_some, hfl, if_pos (by omega), if_pos c, if_pos c]
    · refine ev_step (ih (i + 1) o B.2.1 (by omega) (by omega) hf2) fun k hk => ?_
      simp only [swap_exchange.l0]
      rw [if_pos (by omega), if_pos (by omega), hbk, Option.bind_some, if_pos hf1, hct, Option.bind_some, hfl, if_pos (by omega), if_neg c, if_neg c, hw]
      exact hk
def cntM (l : List Int) : Int := ((l.filter nctl).length : Int)
theorem plcs_le (l : List Int) (i j : Int) (h0 : 0 ≤ i) (h : i ≤ j) (hj : j ≤ cntM l) : rd (plcs l) i ≤ rd (plcs l) j := by
  unfold cntM at hj
  obtain ⟨a, rfl⟩ := Int.eq_ofNat_of_zero_le h0
  obtain ⟨b, rfl⟩ := Int.eq_ofNat_of_zero_le (Int.le_trans h0 h)
  by_cases e : a = b
  · subst e
    exact Int.le_refl _
  · exact Int.le_of_lt (plcs_mono l a b (by omega) (by omega))
theorem plcs_rng (l : List Int) (i : Int) (h0 : 0 ≤ i) (hj : i ≤ cntM l) : 0 ≤ rd (plcs l) i ∧ rd (plcs l) i ≤ (l.length : Int) := by
  unfold cntM at hj
  obtain ⟨a, rfl⟩ := Int.eq_ofNat_of_zero_le h0
  have hlt : a < (plcs l).length := by rw [plcs_len]; omega
  have := plcs_in l _ (List.getElem_mem hlt)
  rw [rd_get (plcs l) a hlt]
  exact this
/-- What a span's place is. -/
theorem back_at (l : List Int) (hl : l.length ≤ 9000) (a b : Int) (h0 : 0 ≤ a) (h1 : a ≤ b) (h2 : b ≤ cntM l) :
    backOf (plcs l) a b = (rd (plcs l) a, (if b > a then rd (plcs l) (b - 1) + 1 else rd (plcs l) a), true) := by
  unfold backOf
  have hp : b < ((plcs l).length : Int) := by
    rw [plcs_len]
    unfold cntM at h2
    omega
  rw [if_pos ⟨h0, h1, hp⟩]
  by_cases h : b > a
  · rw [if_pos h, if_pos h]
    have := plcs_rng l (b - 1) (by omega) (by omega)
    rw [wrap_id (by omega) (by omega)]
  · rw [if_neg h, if_neg h]
theorem back_fit (l : List Int) (hl : l.length ≤ 9000) (a b : Int) (h0 : 0 ≤ a) (h1 : a ≤ b) (h2 : b ≤ cntM l) :
    0 ≤ (backOf (plcs l) a b).1 ∧ (backOf (plcs l) a b).1 ≤ (backOf (plcs l) a b).2.1 ∧ (backOf (plcs l) a b).2.1 ≤ (l.length : Int) ∧ ∀ c : Int, b ≤ c → c ≤ cntM l → (backOf (plcs l) a b).2.1 ≤ rd (plcs l) c := by
  rw [back_at l hl a b h0 h1 h2]
  have r1 := plcs_rng l a h0 (by omega)
  by_cases h : b > a
  · simp only [if_pos h]
    have e := plcs_le l a (b - 1) h0 (by omega) (by omega)
    obtain ⟨x, hx⟩ := Int.eq_ofNat_of_zero_le (show 0 ≤ b - 1 by omega)
    have e2 := plcs_lt l x (by unfold cntM at h2; omega)
    rw [← hx] at e2
    refine ⟨r1.1, by omega, by omega, fun c hc hc2 => ?_⟩
    obtain ⟨y, hy⟩ := Int.eq_ofNat_of_zero_le (show 0 ≤ c by omega)
    have e3 := plcs_mono l x y (by omega) (by unfold cntM at hc2; omega)
    rw [← hx, ← hy] at e3
    omega
  · simp only [if_neg h]
    exact ⟨r1.1, Int.le_refl _, r1.2, fun c hc hc2 => plcs_le l a c h0 (by omega) hc2⟩
theorem fits_of (l : List Int) (hl : l.length ≤ 9000) : ∀ (sp : List S39) (last : Int), Good (cntM l) sp → 0 ≤ last → last ≤ (l.length : Int) → (∀ s ∈ sp, last ≤ rd (plcs l) s.f0) → Fits l (plcs l) sp last
  | [], last, hg, h0, h1, _ => ⟨h0, h1⟩
  | s :: sp, last, hg, h0, h1, h2 => by
    obtain ⟨b0, b1, b2⟩ := hg.1 s (by simp)
    obtain ⟨f0, f1, f2, f3⟩ := back_fit l hl s.f0 s.f1 b0 b1 b2
    have hh := h2 s (by simp)
    have hb : (backOf (plcs l) s.f0 s.f1).1 = rd (plcs l) s.f0 := by rw [back_at l hl _ _ b0 b1 b2]
    refine ⟨⟨h0, by omega, f1, f2⟩, fits_of l hl sp _ ⟨fun t ht => hg.1 t (by simp [ht]), (List.pairwise_cons.1 hg.2).2⟩ (by omega) f2 fun t ht => ?_⟩
    have e := (List.pairwise_cons.1 hg.2).1 t ht
    obtain ⟨c0, c1, c2⟩ := hg.1 t (by simp [ht])
    exact f3 t.f0 e (by omega)
theorem fits0 (l : List Int) (hl : l.length ≤ 9000) (sp : List S39) (hg : Good (cntM l) sp) : Fits l (plcs l) sp 0 :=
  fits_of l hl sp 0 hg (by omega) (by omega) fun s hs => (plcs_rng l s.f0 (hg.1 s hs).1 (by have := hg.1 s hs; omega)).1

def okM (l w : List Int) (sp : List S39) : Bool := decide (allR l) && (decide (allR w) && rightM sp (cntM l))
theorem okM_right {l w : List Int} {sp : List S39} (h : okM l w sp = true) : rightM sp (cntM l) = true := by
  unfold okM at h
  simp only [Bool.and_eq_true] at h
  exact h.2.2
theorem plcs_cnt (l : List Int) (hl : l.length ≤ 9000) : wrap64 (((plcs l).length : Int) - 1) = cntM l := by
  have h1 := plcs_len l
  have h2 := List.length_filter_le nctl l
  unfold cntM
  rw [wrap_id (by omega) (by omega)]
  omega
theorem looked_ev (l w : List Int) (sp : List S39) (hl : l.length ≤ 500) (hs : sp.length ≤ 500) (hw : w.length ≤ 500) : Ev (fun k => swap_looked.f k l sp w) (plcs l, okM l w sp) := by
  have hm := plcs_cnt l (by omega)
  refine ev_same2 (ev_and (normOf_ev l (by omega)) (scontains_ev l (by omega))) (ev_and (scontains_ev w (by omega)) (scan_ev sp (cntM l) hs)) fun k hk hk2 => ?_
  obtain ⟨e1, e2⟩ := ev_fst hk
  obtain ⟨e3, e4⟩ := ev_fst hk2
  unfold swap_looked.f okM
  rw [e1, Option.bind_some, e2, Option.bind_some]
  by_cases h1 : allR l
  · rw [decide_eq_true h1, if_neg (by simp), e3, Option.bind_some]
    by_cases h2 : allR w
    · rw [decide_eq_true h2, if_neg (by simp), hm, e4, Option.bind_some]
      rfl
    · rw [decide_eq_false h2, if_pos (by simp)]
      rfl
  · rw [decide_eq_false h1, if_pos (by simp)]
    rfl
theorem plcs_short (l : List Int) (hl : l.length ≤ 500) : (plcs l).length ≤ 501 := by
  have h1 := plcs_len l
  have h2 := List.length_filter_le nctl l
  omega
theorem exch_ev (l w : List Int) (sp : List S39) (hl : l.length ≤ 500) (hs : sp.length ≤ 500) (hw : w.length ≤ 500) (hg : Good (cntM l) sp) : Ev (fun k => swap_exchange.f k l (plcs l) sp w) (exM l (plcs l) (w.filter nctl) sp [] 0) := by
  have h2 := List.length_filter_le nctl w
  refine ev_same (ex_loop l (plcs l) (w.filter nctl) sp hl (plcs_short l hl) (by omega) hs sp.length 0 [] 0 (by omega) (by simp) (fits0 l (by omega) sp hg)) fun k hk => ?_
  unfold swap_exchange.f
  rw [splain_eq w (by omega), Option.bind_some]
  exact hk
/-- Those that are told, if they rise. -/
def chM (sp : List S39) (wh : List Int) : Nat → Nat → Int → List S39 → Option (List S39)
  | 0, _, _, kept => some kept
  | d + 1, i, last, kept => if rd wh (i : Int) ≤ last ∨ (sp.length : Int) ≤ rd wh (i : Int) then none else chM sp wh d (i + 1) (rd wh (i : Int)) (kept ++ [rd_T39 sp (rd wh (i : Int))])
def chE (l w : List Int) (o : Option (List S39)) : List Int × Int := match o with
  | none => ([], 12)
  | some kept => exM l (plcs l) (w.filter nctl) kept [] 0
def someM (l : List Int) (sp : List S39) (wh w : List Int) : List Int × Int := if okM l w sp = true then chE l w (chM sp wh wh.length 0 (-1) []) else ([], 1)
def Inv (sp : List S39) (n : Int) (last : Int) (kept : List S39) : Prop := Good n kept ∧ ∀ s ∈ kept, ∀ j : Nat, last < (j : Int) → j < sp.length → s.f1 ≤ F0 sp j
theorem inv_step {sp : List S39} {n : Int} (hr : rightM sp n = true) {last : Int} {kept : List S39} (h : Inv sp n last kept) (z : Int) (h0 : 0 ≤ z) (h1 : last < z) (h2 : z < (sp.length : Int)) : Inv sp n z (kept ++ [rd_T39 sp z]) := by
  obtain ⟨j, rfl⟩ := Int.eq_ofNat_of_zero_le h0
  have hj : j < sp.length := by omega
  have hb := right_in hr j hj
  refine ⟨⟨?_, ?_⟩, ?_⟩
  · intro s hs
    rcases List.mem_append.1 hs with hs | hs
    · exact h.1.1 s hs
    · obtain rfl := List.mem_singleton.1 hs
      exact hb
  · refine List.pairwise_append.2 ⟨h.1.2, List.pairwise_singleton _ _, fun a ha b hb2 => ?_⟩
    obtain rfl := List.mem_singleton.1 hb2
    exact h.2 a ha j h1 hj
  · intro s hs k hk hk2
    rcases List.mem_append.1 hs with hs | hs
    · exact h.2 s hs k (by omega) hk2
    · obtain rfl := List.mem_singleton.1 hs
      exact right_up hr j k (by omega) hk2
theorem inv_nil (sp : List S39) (n last : Int) : Inv sp n last [] := ⟨⟨by simp, List.Pairwise.nil⟩, by simp⟩
theorem some_loop (l w : List Int) (sp : List S39) (wh : List Int) (hl : l.length ≤ 500) (hs : sp.length ≤ 500) (hw : w.length ≤ 500) (hwh : wh.length ≤ 500) (hr : rightM sp (cntM l) = true) (d : Nat) :
    ∀ (i : Nat) (last : Int) (kept : List S39), i + d = wh.length → -1 ≤ last → kept.length ≤ i → Inv sp (cntM l) last kept → Ev (fun k => swap_Some.l0 k l (plcs l) sp wh w kept last (i : Int)) (chE l w (chM sp wh d i last kept)) := by
  induction d with
  | zero =>
    intro i last kept hi hla hk hv
    refine ev_step (exch_ev l w kept hl (by omega) hw hv.1) fun k hk => ?_
    simp only [swap_Some.l0]
    rw [if_neg (by omega)]
    exact hk
  | succ d ih =>
    intro i last kept hi hla hk hv
    have hw1 : wrap64 ((i : Int) + 1) = ((i + 1 : Nat) : Int) := wrap_succ i (by omega)
    simp only [chM]
    by_cases c1 : rd wh (i : Int) ≤ last
    · rw [if_pos (.inl c1)]
      refine ev_one fun k => ?_
      simp only [swap_Some.l0]
      rw [if_pos (by omega), if_pos (by omega), if_pos c1]
      rfl
    · by_cases c2 : (sp.length : Int) ≤ rd wh (i : Int)
      · rw [if_pos (.inr c2)]
        refine ev_one fun k => ?_
        simp only [swap_Some.l0]
        rw [if_pos (by omega), if_pos (by omega), if_neg c1, if_pos c2]
        rfl
      · rw [if_neg (fun h => h.elim c1 c2)]
        refine ev_step (ih (i + 1) (rd wh (i : Int)) (kept ++ [rd_T39 sp (rd wh (i : Int))]) (by omega) (by omega) (by rw [List.length_append]; simp; omega) (inv_step hr hv _ (by omega) (by omega) (by omega))) fun k hk2 => ?_
        simp only [swap_Some.l0]
        rw [if_pos (by omega), if_pos (by omega), if_neg c1, if_neg c2, if_pos (by omega), if_pos (by omega), hw1]
        exact hk2
theorem some_ev (l w : List Int) (sp : List S39) (wh : List Int) (hl : l.length ≤ 500) (hs : sp.length ≤ 500) (hw : w.length ≤ 500) (hwh : wh.length ≤ 500) : Ev (fun k => swap_Some.f k l sp wh w) (someM l sp wh w) := by
  by_cases h : okM l w sp = true
  · refine ev_same2 (looked_ev l w sp hl hs hw) (some_loop l w sp wh hl hs hw hwh (okM_right h) wh.length 0 (-1) [] (by omega) (by omega) (by simp) (inv_nil _ _ _)) fun k h1 h2 => ?_
    unfold swap_Some.f someM
    rw [h1, Option.bind_some, if_pos h, if_pos h]
    exact h2
  · refine ev_same (looked_ev l w sp hl hs hw) fun k h1 => ?_
    unfold swap_Some.f someM
    rw [h1, Option.bind_some, if_neg h, if_neg h]
end Go.Proofs.Ythgmkbghdobmlaa.P
namespace Go.Proofs.Ythgmkbghdobmlaa.P
open Go.RowKit Go.Proofs.YthgmkbghdobmlaaW.PrintWords Go.Proofs.YthgmkbghdobmlaaW.PrintLast Go.Proofs.YthgmkbghdobmlaaW.PrintMore
set_option linter.unusedVariables false
set_option linter.unusedSimpArgs false

theorem alive27 : Ev (fun k => ductuslaw27_alive.f k) true := Ev.of ductuslaw27_alive.mono (k := 300) (by decide +kernel)
theorem ints_ev (a : List Int) (h : a.length < 9223372036854775807) : Ev (fun k => ductusref01_Ints.f k a a) true := ⟨a.length + 1, fun k hk => ints_same k a h (by omega)⟩
theorem great_no {l0 : List Int} {l1 : List S39} {l2 : List Int} (h0 : l0.length ≤ 500) (h1 : l1.length ≤ 500) (h2 : l2.length ≤ 500) : ductuslaw27_great.f l0 l1 l2 = some false := by
  unfold ductuslaw27_great.f
  rw [if_neg (by omega), if_neg (by omega), decide_eq_false (by omega)]
theorem great_yes {l0 : List Int} {l1 : List S39} {l2 : List Int} (h : ¬ (l0.length ≤ 500 ∧ l1.length ≤ 500 ∧ l2.length ≤ 500)) : ductuslaw27_great.f l0 l1 l2 = some true := by
  unfold ductuslaw27_great.f
  by_cases h0 : l0.length ≤ 500
  · rw [if_neg (by omega)]
    by_cases h1 : l1.length ≤ 500
    · rw [if_neg (by omega), decide_eq_true (by omega)]
    · rw [if_pos (by omega)]
  · rw [if_pos (by omega)]
theorem opc_ctl {c : Int} (h : opc c = true) : ctl c = true := by
  unfold opc opcK closerK at h
  unfold ctl ctlK opnK outK
  generalize cls c = k at h ⊢
  simp only [Bool.or_eq_true, decide_eq_true_eq, beq_iff_eq, List.mem_cons, List.not_mem_nil, or_false]
  simp only [Bool.or_eq_true, decide_eq_true_eq] at h
  rcases h with h | h
  · split at h
    · omega
    · split at h
      · omega
      · exact absurd rfl h
  · omega
theorem opc_plain (l : List Int) : (l.filter opc).filter nctl = [] := by
  rw [List.filter_eq_nil_iff]
  intro x hx
  have := opc_ctl (List.mem_filter.1 hx).2
  unfold nctl
  rw [this]
  decide
theorem filter_two (p : Int → Bool) (l : List Int) : (l.filter p).filter p = l.filter p := by
  rw [List.filter_filter]
  simp
/-- What an exchange can end in. -/
theorem ex_ends (l at_ pl : List Int) : ∀ (sp : List S39) (out : List Int) (last : Int), exM l at_ pl sp out last = ([], 2) ∨ ∃ o, exM l at_ pl sp out last = (o, 0) ∧ o.length ≤ 8000
  | [], out, last => by
    simp only [exM]
    by_cases c : (((out ++ l.drop last.toNat).length : Nat) : Int) > 8000
    · rw [if_pos c]
      exact .inl rfl
    · rw [if_neg c]
      exact .inr ⟨_, rfl, by omega⟩
  | s :: sp, out, last => by
    simp only [exM]
    split
    · exact .inl rfl
    · exact ex_ends l at_ pl sp _ _
theorem pos_at (l : List Int) (i : Int) (h0 : 0 ≤ i) (h1 : i ≤ cntM l) : (l.take (rd (plcs l) i).toNat).filter nctl = (l.filter nctl).take i.toNat := by
  unfold cntM at h1
  obtain ⟨j, rfl⟩ := Int.eq_ofNat_of_zero_le h0
  by_cases e : j = (l.filter nctl).length
  · subst e
    rw [plcs_end, Int.toNat_natCast, Int.toNat_natCast, List.take_length, List.take_length]
  · have hj : j < (l.filter nctl).length := by omega
    have hp : (placesOf nctl 0 l)[j]? = some (rd (plcs l) (j : Int)) := by
      rw [plcs_at l j hj, List.getElem?_eq_getElem]
    have := (take_place nctl l 0 j _ hp).1
    rw [Nat.sub_zero] at this
    rw [this, Int.toNat_natCast]
theorem pos_end (l : List Int) (hl : l.length ≤ 9000) (a b : Int) (h0 : 0 ≤ a) (h1 : a ≤ b) (h2 : b ≤ cntM l) : (l.take (backOf (plcs l) a b).2.1.toNat).filter nctl = (l.filter nctl).take b.toNat := by
  rw [back_at l hl a b h0 h1 h2]
  by_cases h : b > a
  · simp only [if_pos h]
    unfold cntM at h2
    obtain ⟨j, hj⟩ := Int.eq_ofNat_of_zero_le (show 0 ≤ b - 1 by omega)
    have hjl : j < (l.filter nctl).length := by omega
    have hp : (placesOf nctl 0 l)[j]? = some (rd (plcs l) (j : Int)) := by
      rw [plcs_at l j hjl, List.getElem?_eq_getElem]
    have h3 := (take_place nctl l 0 j _ hp).2.1
    have h4 := (plcs_lt l j hjl).1
    rw [Nat.sub_zero] at h3
    rw [hj, show (rd (plcs l) (j : Int) + 1).toNat = (rd (plcs l) (j : Int)).toNat + 1 by omega, h3, show b.toNat = j + 1 by omega]
  · simp only [if_neg h]
    rw [pos_at l a h0 (by omega), show b = a by omega]
/-- The text without controls, with spans exchanged. -/
def wantM (P pl : List Int) : List S39 → List Int → Int → List Int
  | [], out, q => out ++ P.drop q.toNat
  | s :: sp, out, q => wantM P pl sp (out ++ (P.take s.f0.toNat).drop q.toNat ++ pl) s.f1
theorem drop_filter (p : Int → Bool) (l : List Int) (a m : Nat) (hm : m ≤ (l.filter p).length) (h : (l.take a).filter p = (l.filter p).take m) : (l.drop a).filter p = (l.filter p).drop m := by
  have e : l.filter p = (l.take a).filter p ++ (l.drop a).filter p := by rw [← List.filter_append, List.take_append_drop]
  have e2 := congrArg (List.drop m) e
  rw [h, List.drop_left' (by rw [List.length_take]; omega)] at e2
  exact e2.symm
theorem ex_plain (l w : List Int) (hl : l.length ≤ 9000) : ∀ (sp : List S39) (out : List Int) (last q : Int) (o : List Int), Good (cntM l) sp → 0 ≤ q → q ≤ cntM l → (∀ s ∈ sp, q ≤ s.f0) → 0 ≤ last → last ≤ (l.length : Int) → (∀ s ∈ sp, last ≤ rd (plcs l) s.f0) →
    (l.take last.toNat).filter nctl = (l.filter nctl).take q.toNat → exM l (plcs l) (w.filter nctl) sp out last = (o, 0) → o.filter nctl = wantM (l.filter nctl) (w.filter nctl) sp (out.filter nctl) q
  | [], out, last, q, o, hg, hq0, hq1, hq2, h0, h1, h2, hp, he => by
    simp only [exM] at he
    unfold cntM at hq1
    by_cases c : (((out ++ l.drop last.toNat).length : Nat) : Int) > 8000
    · rw [if_pos c] at he
      exact absurd (congrArg Prod.snd he) (show ¬ (2 : Int) = 0 by decide)
    · rw [if_neg c] at he
      obtain rfl := congrArg Prod.fst he
      simp only [wantM]
      rw [List.filter_append, drop_filter nctl l last.toNat q.toNat (by omega) hp]
  | s :: sp, out, last, q, o, hg, hq0, hq1, hq2, h0, h1, h2, hp, he => by
    obtain ⟨b0, b1, b2⟩ := hg.1 s (by simp)
    obtain ⟨f0, f1, f2, f3⟩ := back_fit l hl s.f0 s.f1 b0 b1 b2
    have hh := h2 s (by simp)
    have hb : (backOf (plcs l) s.f0 s.f1).1 = rd (plcs l) s.f0 := by rw [back_at l hl _ _ b0 b1 b2]
    have hpe := pos_end l hl s.f0 s.f1 b0 b1 b2
    have hqs := hq2 s (by simp)
    simp only [exM] at he
    have hcn : cntM l = ((l.filter nctl).length : Int) := rfl
    split at he
    · exact absurd (congrArg Prod.snd he) (show ¬ (2 : Int) = 0 by decide)
    · have ih := ex_plain l w hl sp _ _ s.f1 o ⟨fun t ht => hg.1 t (by simp [ht]), (List.pairwise_cons.1 hg.2).2⟩ (by omega) b2 (List.pairwise_cons.1 hg.2).1 (by omega) f2
        (fun t ht => f3 t.f0 ((List.pairwise_cons.1 hg.2).1 t ht) (by have := hg.1 t (by simp [ht]); omega)) hpe he
      rw [ih]
      simp only [wantM]
      rw [List.filter_append, List.filter_append, List.filter_append, opc_plain, List.append_nil, filter_two, hb,
        mid_filter nctl l last.toNat (rd (plcs l) s.f0).toNat q.toNat s.f0.toNat (by omega) (by omega) (by omega) hp (pos_at l s.f0 b0 (by omega))]
end Go.Proofs.Ythgmkbghdobmlaa.P
namespace Go.Proofs.Ythgmkbghdobmlaa.P
open Go.Joins Go.Deep Go.ChangeShapes Go.WideShapes
set_option linter.unusedVariables false
variable {H : Type} {enc : TypeId × Value → H} {P : Program} {w : World} {base : Nat} {spare : Nat → Bool} {held : Bool}

theorem open_str3 {r : Reach} {b0 : Nat} {t : TypeId} {f0 f1 f2 : Field} {v : Value} {d : DataW H} {p : List MemPlace} (hs : P.underlying t = some (.struct #[f0, f1, f2])) (hone : oneCellFields P #[f0, f1, f2] = true) (hC : P.cellsOf t = 3) (hv : Value.okWide P w r b0 t v) (h : DataW.Trod enc P w base spare held t v d p) :
    ∃ (v0 v1 v2 : Value) (y0 y1 y2 : DataW H × List MemPlace) (n : Nat), v = .agg #[v0, v1, v2] ∧ True ∧ True ∧ DataW.trod enc P w base spare held n f0.type [v0] = some y0 ∧ DataW.trod enc P w base spare held n f1.type [v1] = some y1 ∧ DataW.trod enc P w base spare held n f2.type [v2] = some y2 := by
  obtain ⟨v0, v1, v2, y0, y1, y2, n, h1, _, _, h2, h3, h4⟩ := open_agg3 hs hone hC hv h
  exact ⟨v0, v1, v2, y0, y1, y2, n, h1, trivial, trivial, h2, h3, h4⟩

end Go.Proofs.Ythgmkbghdobmlaa.P
namespace Go.Proofs.Ythgmkbghdobmlaa.P
open Go.Joins Go.Deep Go.ChangeShapes Go.WideShapes
open Go.Proofs.YthgmkbghdobmlaaW.PrintWords
set_option linter.unusedVariables false
variable {H : Type} {enc : TypeId × Value → H} {P : Program} {w : World} {base : Nat} {held : Bool}

/-- A whole number that its kind holds. -/
abbrev fits (k : IntKind) (x : Int) : Prop := (Lit.int k x).wf = true
theorem open_ints1 {t e : TypeId} {k : IntKind} {n : Nat} {v : Value} {y : DataW H × List MemPlace} (ht : P.underlying t = some (.slice e)) (he : P.underlying e = some (.int k)) (hc : P.cellsOf e = 1)
    (hf : DataW.trod enc P w base (fun _ => true) held n t [v] = some y) : ∃ (a : Option Addr) (cap : Nat) (l : List Int), v = .slice a l.length cap ∧ l.length ≤ cap ∧ l.length ≤ maxLen ∧ Kd.C (Kd.int k) w a l.length l ∧ ∀ x ∈ l, fits k x := by
  have hv : ∃ (a : Option Addr) (len cap : Nat) (zs : List Int), v = .slice a len cap ∧ ((a = none ∧ len = 0 ∧ cap = 0 ∧ zs = []) ∨ ∃ x, a = some x ∧ len ≤ cap ∧ cap ≤ maxLen ∧ zs.length = cap ∧ (∀ i, i < zs.length → w.cell? (x.add i) = some (.int k (zs.getD i 0))) ∧ ∀ n ∈ zs, (Lit.int k n).wf = true) := by
    rcases open_ints ht he hc hf with ⟨hcs, _⟩ | ⟨x, l, c, zs, hcs, _, hl, hm, hz, _, hcell, hwz⟩
    · exact ⟨none, 0, 0, [], (List.cons.inj hcs).1, .inl ⟨rfl, rfl, rfl, rfl⟩⟩
    · exact ⟨some x, l, c, zs, (List.cons.inj hcs).1, .inr ⟨x, rfl, hl, hm, by simpa using hz, hcell, hwz⟩⟩
  obtain ⟨a, len, cap, zs, rfl, h⟩ := hv
  obtain ⟨l0, rfl, hr0, hm0, hw0, hc0⟩ := ReadsInt.ofRowC h
  exact ⟨a, cap, l0, rfl, hc0, hm0, Kd.C_of_reads (d := (0 : Int)) (h1 := fun _ => rfl) hr0, hw0⟩
theorem open_ints1T {t e : TypeId} {k : IntKind} {v : Value} {d : DataW H} {p : List MemPlace} {a : Option Addr} {len cap : Nat} (hv : v = .slice a len cap) (ht : P.underlying t = some (.slice e)) (he : P.underlying e = some (.int k)) (hc : P.cellsOf e = 1)
    (h : DataW.Trod enc P w base (fun _ => true) held t v d p) : ∃ (a : Option Addr) (cap : Nat) (l : List Int), v = .slice a l.length cap ∧ l.length ≤ cap ∧ l.length ≤ maxLen ∧ Kd.C (Kd.int k) w a l.length l ∧ ∀ x ∈ l, fits k x := by
  subst hv
  obtain ⟨n, hn⟩ := h
  exact open_ints1 ht he hc (by simpa [Value.cells] using hn)
instance : Inhabited S39 := ⟨z39⟩
theorem open_spans1 {t e : TypeId} {f0 f1 : Field} {n : Nat} {v : Value} {y : DataW H × List MemPlace} (ht : P.underlying t = some (.slice e)) (he : P.underlying e = some (.struct #[f0, f1]))
    (ce : P.cellsOf e = 2) (o0 : f0.offset = 0) (o1 : f1.offset = 1) (c0 : P.cellsOf f0.type = 1) (c1 : P.cellsOf f1.type = 1) (h0 : P.underlying f0.type = some (.int .i64)) (h1 : P.underlying f1.type = some (.int .i64))
    (hf : DataW.trod enc P w base (fun _ => true) held n t [v] = some y) : ∃ (a : Option Addr) (cap : Nat) (l : List S39), v = .slice a l.length cap ∧ l.length ≤ cap ∧ l.length ≤ maxLen ∧ Kd.C k39 w a l.length l ∧ ∀ x ∈ l, fits .i64 x.f0 ∧ fits .i64 x.f1 := by
  rcases open_slice_pairs ht he ce o0 o1 c0 c1 hf with ⟨hcs, _⟩ | ⟨a, len, cap, m, n', V0, V1, D0, D1, P0, P1, hcs, _, hl, hm, hmm, _, hx⟩
  · obtain rfl := (List.cons.inj hcs).1
    exact ⟨none, 0, [], rfl, Nat.le_refl _, Nat.zero_le _, ⟨rfl, by simp, fun h => absurd h (Nat.lt_irrefl 0)⟩, by simp⟩
  · obtain rfl := (List.cons.inj hcs).1
    have hml : m = cap := by rw [hmm, if_pos rfl]
    have ex : ∀ i, i < len → ∃ p : S39, w.cell? (a.add (i * 2)) = some (.int .i64 p.f0) ∧ w.cell? (a.add (i * 2 + 1)) = some (.int .i64 p.f1) ∧ fits .i64 p.f0 ∧ fits .i64 p.f1 := by
      intro i hi
      obtain ⟨g0, g1, g2, g3⟩ := hx i (by omega)
      obtain ⟨x0, e0, _, w0⟩ := DataW.trod_int h0 g2
      obtain ⟨x1, e1, _, w1⟩ := DataW.trod_int h1 g3
      exact ⟨⟨x0, x1⟩, by rw [g0, (List.cons.inj e0).1], by rw [g1, (List.cons.inj e1).1], w0, w1⟩
    obtain ⟨q, hq⟩ := choose_lt ex
    have hlen : ((List.range len).map q).length = len := by simp
    refine ⟨some a, cap, (List.range len).map q, by rw [hlen], by rw [hlen]; exact hl, by rw [hlen]; exact Nat.le_trans hl hm, ?_, ?_⟩
    · rw [hlen]
      refine ⟨hlen, by have := Nat.le_trans hl hm; simp only [maxLen] at this; omega, fun _ => ⟨a, rfl, fun j p hp => ?_⟩⟩
      have hj : j < len := by
        have := List.getElem?_eq_some_iff.1 hp
        obtain ⟨h, _⟩ := this
        rw [hlen] at h
        exact h
      have hpq : p = q j := by
        rw [List.getElem?_map, List.getElem?_range hj] at hp
        exact (Option.some.inj hp).symm
      subst hpq
      obtain ⟨r0, r1, _, _⟩ := hq j hj
      refine ⟨_, rfl, k39_mk w (q j), fun i u hu => ?_⟩
      match i, hu with
      | 0, hu =>
        obtain rfl := Option.some.inj hu
        exact r0
      | 1, hu =>
        obtain rfl := Option.some.inj hu
        exact r1
      | i + 2, hu => simp at hu
    · intro x hx'
      obtain ⟨j, hj, rfl⟩ := List.mem_map.1 hx'
      obtain ⟨_, _, r2, r3⟩ := hq j (List.mem_range.1 hj)
      exact ⟨r2, r3⟩
end Go.Proofs.Ythgmkbghdobmlaa.P
namespace Go.Proofs.Ythgmkbghdobmlaa.Pure
open Go.RowKit Go.Proofs.Ythgmkbghdobmlaa.P Go.Proofs.YthgmkbghdobmlaaW.PrintWords Go.Proofs.YthgmkbghdobmlaaW.PrintLast Go.Proofs.YthgmkbghdobmlaaW.PrintMore
set_option linter.unusedVariables false
set_option linter.unusedSimpArgs false

theorem right_strict {sp : List S39} {m : Int} (h : rightM sp m = true) (i : Nat) : ∀ j : Nat, i < j → j < sp.length → F0 sp i < F0 sp j := by
  intro j hij hj
  induction j with
  | zero => omega
  | succ j ih =>
    have h2 := (right_at sp m sp.length 0 (by omega) h (j + 1) (by omega) hj).2
    have h3 := right_in h j (by omega)
    have e : j + 1 - 1 = j := by omega
    unfold badP at h2
    rw [e] at h2
    by_cases e2 : i = j
    · subst e2
      omega
    · have := ih (by omega) (by omega)
      omega
theorem right_of (y : List S39) (m : Int) (hg : P.Good m y) (hs : y.Pairwise fun a b => a.f0 < b.f0) (d : Nat) : ∀ i : Nat, i + d = y.length → rightL y m d i = true := by
  induction d with
  | zero => intro i hi; rfl
  | succ d ih =>
    intro i hi
    simp only [rightL]
    have hb := hg.1 (y[i]'(by omega)) (List.getElem_mem (by omega))
    rw [if_neg, if_neg]
    · exact ih (i + 1) (by omega)
    · rintro ⟨h0, h1⟩
      have p1 := List.pairwise_iff_getElem.1 hg.2 (i - 1) i (by omega) (by omega) (by omega)
      have p2 := List.pairwise_iff_getElem.1 hs (i - 1) i (by omega) (by omega) (by omega)
      unfold F0 F1 at h1
      rw [getS y i (by omega), getS y (i - 1) (by omega)] at h1
      omega
    · unfold badS F0 F1
      rw [getS y i (by omega)]
      omega
/-- Numbers that rise, each of a span. -/
def Rise (n : Int) (x : List Int) : Prop := x.Pairwise (· < ·) ∧ ∀ z ∈ x, 0 ≤ z ∧ z < n
theorem rise_next {x : List Int} {i : Int} (h : Rise i x) (h0 : 0 ≤ i) : Rise (i + 1) (x ++ [i]) := by
  refine ⟨List.pairwise_append.2 ⟨h.1, List.pairwise_singleton _ _, fun a ha b hb => ?_⟩, fun z hz => ?_⟩
  · obtain rfl := List.mem_singleton.1 hb
    exact (h.2 a ha).2
  · rcases List.mem_append.1 hz with hz | hz
    · have := h.2 z hz
      omega
    · obtain rfl := List.mem_singleton.1 hz
      omega
theorem rise_more {x : List Int} {i j : Int} (h : Rise i x) (hij : i ≤ j) : Rise j x := ⟨h.1, fun z hz => by have := h.2 z hz; omega⟩
theorem ch_rise (sp : List S39) (x : List Int) (h : Rise (sp.length : Int) x) (d : Nat) : ∀ (i : Nat) (last : Int) (kept : List S39), i + d = x.length → (∀ z ∈ x.drop i, last < z) → chM sp x d i last kept = some (kept ++ (x.drop i).map (rd_T39 sp)) := by
  induction d with
  | zero =>
    intro i last kept hi hl
    simp only [chM]
    rw [List.drop_eq_nil_of_le (by omega)]
    simp
  | succ d ih =>
    intro i last kept hi hl
    have hd := drop_cons x i (by omega)
    have hz : rd x (i : Int) ∈ x := by
      rw [rd_get x i (by omega)]
      exact List.getElem_mem _
    have hb := h.2 _ hz
    have hll := hl (rd x (i : Int)) (by rw [hd]; simp)
    simp only [chM]
    rw [if_neg (by omega)]
    have hp : ((x.drop i).Pairwise (· < ·)) := h.1.sublist (List.drop_sublist i x)
    rw [hd] at hp
    rw [ih (i + 1) (rd x (i : Int)) _ (by omega) (List.pairwise_cons.1 hp).1, hd, List.map_cons, List.append_assoc]
    rfl
theorem nat_of {n : Nat} {z : Int} (h : 0 ≤ z ∧ z < (n : Int)) : ∃ j : Nat, z = (j : Int) ∧ j < n := ⟨z.toNat, by omega, by omega⟩
theorem rise_good {sp : List S39} {m : Int} (hr : rightM sp m = true) (x : List Int) (h : Rise (sp.length : Int) x) : P.Good m (x.map (rd_T39 sp)) ∧ (x.map (rd_T39 sp)).Pairwise fun a b => a.f0 < b.f0 := by
  refine ⟨⟨?_, ?_⟩, ?_⟩
  · intro s hs
    obtain ⟨z, hz, rfl⟩ := List.mem_map.1 hs
    obtain ⟨j, rfl, hj⟩ := nat_of (h.2 z hz)
    exact right_in hr j hj
  · rw [List.pairwise_map]
    refine List.Pairwise.imp_of_mem (fun {a b} ha hb hab => ?_) h.1
    obtain ⟨i, rfl, hi⟩ := nat_of (h.2 a ha)
    obtain ⟨j, rfl, hj⟩ := nat_of (h.2 b hb)
    exact right_up hr i j (by omega) hj
  · rw [List.pairwise_map]
    refine List.Pairwise.imp_of_mem (fun {a b} ha hb hab => ?_) h.1
    obtain ⟨i, rfl, hi⟩ := nat_of (h.2 a ha)
    obtain ⟨j, rfl, hj⟩ := nat_of (h.2 b hb)
    exact right_strict hr i j (by omega) hj
theorem want_loop (Q W o : List Int) (y : List S39) (hQ : Q.length ≤ 500) (hW : W.length ≤ 500) (hy : y.length ≤ 500) (ho : o.length ≤ 8000) (hg : P.Good (Q.length : Int) y) (d : Nat) :
    ∀ (i : Nat) (out : List Int) (q : Int), i + d = y.length → out.length ≤ 1000 * i → 0 ≤ q → q ≤ (Q.length : Int) → (∀ s ∈ y.drop i, q ≤ s.f0) → wantM Q W (y.drop i) out q = o.filter nctl → Ev (fun k => ductuslaw27_SwapJust.l2 k y o Q W out q (i : Int)) true := by
  induction d with
  | zero =>
    intro i out q hi hol h0 h1 h2 hw
    rw [List.drop_eq_nil_of_le (by omega)] at hw
    simp only [wantM] at hw
    have hfl := List.length_filter_le nctl o
    have hdl : (Q.drop q.toNat).length ≤ 500 := by rw [List.length_drop]; omega
    refine ev_step2 (rplain_ev o (by omega)) (P.ints_ev (o.filter nctl) (by omega)) fun k hk hk2 => ?_
    simp only [ductuslaw27_SwapJust.l2]
    rw [if_neg (by omega), if_pos h0, if_pos h1, Option.bind_some, if_pos (by omega), hk, Option.bind_some, hw, hk2, Option.bind_some]
  | succ d ih =>
    intro i out q hi hol h0 h1 h2 hw
    have hw1 : wrap64 ((i : Int) + 1) = ((i + 1 : Nat) : Int) := wrap_succ i (by omega)
    have hgd : P.Good (Q.length : Int) (y.drop i) := ⟨fun s hs => hg.1 s (List.mem_of_mem_drop hs), hg.2.sublist (List.drop_sublist i y)⟩
    have hd := dropS y i (by omega)
    rw [hd] at hw h2 hgd
    obtain ⟨s, hs⟩ : ∃ s, rd_T39 y (i : Int) = s := ⟨_, rfl⟩
    rw [hs] at hw h2 hgd
    obtain ⟨b0, b1, b2⟩ := hgd.1 s (by simp)
    have hq := h2 s (by simp)
    simp only [wantM] at hw
    have hm : ((Q.take s.f0.toNat).drop q.toNat).length ≤ 500 := by rw [List.length_drop, List.length_take]; omega
    have n1 : out.length + ((Q.take s.f0.toNat).drop q.toNat).length < 17592186044416 := by omega
    have n2 : (out ++ (Q.take s.f0.toNat).drop q.toNat).length + W.length < 17592186044416 := by rw [List.length_append]; omega
    refine ev_step (ih (i + 1) (out ++ (Q.take s.f0.toNat).drop q.toNat ++ W) s.f1 (by omega) (by rw [List.length_append, List.length_append]; omega) (by omega) b2 (List.pairwise_cons.1 hgd.2).1 hw) fun k hk => ?_
    simp only [ductuslaw27_SwapJust.l2]
    rw [if_pos (by omega), if_pos (by omega), if_pos h0, hs, if_pos hq, if_pos (by omega), Option.bind_some, if_pos n1, Option.bind_some, if_pos n2, hw1]
    exact hk
theorem end_ev (l w wh : List Int) (sp : List S39) (hl : l.length ≤ 500) (hs : sp.length ≤ 500) (hw : w.length ≤ 500) (x : List Int) (hx : x.length ≤ 500) (hr : Rise (sp.length : Int) x) :
    Ev (fun k => ductuslaw27_SwapJust.l0 k wh x (x.map (rd_T39 sp)) ((sp.length : Nat) : Int) l sp w) true := by
  have hS := some_ev l w sp x hl hs hw hx
  by_cases c : okM l w sp = true
  · have hrt := okM_right c
    obtain ⟨hg, hst⟩ := rise_good hrt x hr
    have e : someM l sp x w = exM l (plcs l) (w.filter nctl) (x.map (rd_T39 sp)) [] 0 := by
      unfold someM
      rw [if_pos c, ch_rise sp x hr x.length 0 (-1) [] (by omega) (fun z hz => by have := hr.2 z (List.mem_of_mem_drop hz); omega)]
      rfl
    rw [e] at hS
    have hfl := List.length_filter_le nctl l
    have hfw := List.length_filter_le nctl w
    have hcn : cntM l = ((l.filter nctl).length : Int) := rfl
    rcases ex_ends l (plcs l) (w.filter nctl) (x.map (rd_T39 sp)) [] 0 with h | ⟨o, h, ho⟩
    · rw [h] at hS
      refine ev_step hS fun k hk => ?_
      simp only [ductuslaw27_SwapJust.l0]
      rw [if_neg (by omega), hk, Option.bind_some, if_neg (show ¬ (2 : Int) = 0 by decide)]
      rfl
    · rw [h] at hS
      have hp := ex_plain l w (by omega) (x.map (rd_T39 sp)) [] 0 0 o hg (by omega) (by omega) (fun t ht => (hg.1 t ht).1) (by omega) (by omega) (fun t ht => (plcs_rng l t.f0 (hg.1 t ht).1 (by have := hg.1 t ht; omega)).1) (by simp) h
      have hR := rscan_ev (x.map (rd_T39 sp)) (cntM l) (by rw [List.length_map]; exact hx)
      rw [show rightM (x.map (rd_T39 sp)) (cntM l) = true from right_of _ _ hg hst _ 0 (by omega)] at hR
      have hW := want_loop (l.filter nctl) (w.filter nctl) o (x.map (rd_T39 sp)) (by omega) (by omega) (by rw [List.length_map]; exact hx) ho hg (x.map (rd_T39 sp)).length 0 [] 0 (by omega) (by simp) (by omega) (by omega) (fun s hs => (hg.1 s (List.mem_of_mem_drop hs)).1) hp.symm
      refine ev_step2 (ev_and hS (rplain_ev l (by omega))) (ev_and (rplain_ev w (by omega)) (ev_and hR hW)) fun k hk hk2 => ?_
      obtain ⟨e1, e2⟩ := ev_fst hk
      obtain ⟨e3, e45⟩ := ev_fst hk2
      obtain ⟨e4, e5⟩ := ev_fst e45
      simp only [ductuslaw27_SwapJust.l0]
      have e4' : ductusref22_Right.f k (x.map (rd_T39 sp)) (((l.filter nctl).length : Nat) : Int) = some true := e4
      rw [if_neg (by omega), e1, Option.bind_some, if_pos rfl, e2, Option.bind_some, e3, Option.bind_some, e4', Option.bind_some, if_pos rfl]
      exact e5
  · have e : someM l sp x w = ([], 1) := by
      unfold someM
      rw [if_neg c]
    rw [e] at hS
    refine ev_step hS fun k hk => ?_
    simp only [ductuslaw27_SwapJust.l0]
    rw [if_neg (by omega), hk, Option.bind_some, if_neg (show ¬ (1 : Int) = 0 by decide)]
    rfl
theorem pick_loop (l w wh : List Int) (sp : List S39) (hs : sp.length ≤ 500) (hwh : wh.length ≤ 500) (i : Nat) (hi : i < sp.length) (x : List Int) (y : List S39) (hx : x.length ≤ i) (hy : y.length ≤ i)
    (hY : Ev (fun k => ductuslaw27_SwapJust.l0 k wh (x ++ [(i : Int)]) (y ++ [rd_T39 sp (i : Int)]) ((i + 1 : Nat) : Int) l sp w) true) (hN : Ev (fun k => ductuslaw27_SwapJust.l0 k wh x y ((i + 1 : Nat) : Int) l sp w) true) (d : Nat) :
    ∀ j : Nat, j + d = wh.length → Ev (fun k => ductuslaw27_SwapJust.l1 k wh x y (i : Int) (j : Int) l sp w) true := by
  have hw1 : wrap64 ((i : Int) + 1) = ((i + 1 : Nat) : Int) := wrap_succ i (by omega)
  induction d with
  | zero =>
    intro j hj
    refine ev_step hN fun k hk => ?_
    simp only [ductuslaw27_SwapJust.l1]
    rw [if_neg (by omega), hw1]
    exact hk
  | succ d ih =>
    intro j hj
    have hw2 : wrap64 ((j : Int) + 1) = ((j + 1 : Nat) : Int) := wrap_succ j (by omega)
    by_cases c : wrap64 (rd wh (j : Int)) = (i : Int)
    · refine ev_step hY fun k hk => ?_
      simp only [ductuslaw27_SwapJust.l1]
      rw [if_pos (by omega), if_pos (by omega), if_pos c, Option.bind_some, if_pos (by simp; omega), if_pos (by omega), if_pos (by omega), Option.bind_some, if_pos (by simp; omega), hw1]
      exact hk
    · refine ev_step (ih (j + 1) (by omega)) fun k hk => ?_
      simp only [ductuslaw27_SwapJust.l1]
      rw [if_pos (by omega), if_pos (by omega), if_neg c, hw2]
      exact hk
theorem just_loop (l w wh : List Int) (sp : List S39) (hl : l.length ≤ 500) (hs : sp.length ≤ 500) (hw : w.length ≤ 500) (hwh : wh.length ≤ 500) (d : Nat) : ∀ (i : Nat) (x : List Int), i + d = sp.length → x.length ≤ i → Rise (i : Int) x →
    Ev (fun k => ductuslaw27_SwapJust.l0 k wh x (x.map (rd_T39 sp)) (i : Int) l sp w) true := by
  induction d with
  | zero =>
    intro i x hi hx hr
    obtain rfl : i = sp.length := by omega
    exact end_ev l w wh sp hl hs hw x (by omega) hr
  | succ d ih =>
    intro i x hi hx hr
    have hY := ih (i + 1) (x ++ [(i : Int)]) (by omega) (by rw [List.length_append]; simp; omega) (by have := rise_next hr (by omega); rwa [show (i : Int) + 1 = ((i + 1 : Nat) : Int) by omega] at this)
    rw [List.map_append] at hY
    have hN := ih (i + 1) x (by omega) (by omega) (rise_more hr (by omega))
    refine ev_step (pick_loop l w wh sp hs hwh i (by omega) x (x.map (rd_T39 sp)) hx (by rw [List.length_map]; exact hx) hY hN wh.length 0 (by omega)) fun k hk => ?_
    simp only [ductuslaw27_SwapJust.l0]
    rw [if_pos (by omega)]
    exact hk
theorem SwapJust (l0 : List Int) (l1 : List S39) (l2 : List Int) (l3 : List Int) (h0 : ∀ x ∈ l0, P.fits .i64 x) (h1 : ∀ x ∈ l1, P.fits .i64 x.f0 ∧ P.fits .i64 x.f1) (h2 : ∀ x ∈ l2, P.fits .i64 x) (h3 : (∀ x ∈ l3, P.fits .u8 x)) : ∃ k, ductuslaw27_SwapJust.f k l0 l1 l2 l3 = some true := by
  refine Ev.rounds ?_
  have hT : Ev (fun k => ductuslaw27_SwapJust.j0 k l3 true l0 l1 l2) true := ev_one fun k => by
    simp only [ductuslaw27_SwapJust.j0, if_true]
  by_cases hg : l0.length ≤ 500 ∧ l1.length ≤ 500 ∧ l2.length ≤ 500
  · obtain ⟨g0, g1, g2⟩ := hg
    by_cases h : (l3.length : Int) > 500
    · refine ev_same2 alive27 hT fun k ha hk => ?_
      unfold ductuslaw27_SwapJust.f
      rw [ha, Option.bind_some, if_pos rfl, great_no g0 g1 g2, Option.bind_some, if_neg (by simp), decide_eq_true h]
      exact hk
    · have hJ : Ev (fun k => ductuslaw27_SwapJust.j0 k l3 false l0 l1 l2) true := by
        refine ev_step (just_loop l0 l2 l3 l1 g0 g1 g2 (by omega) l1.length 0 [] (by omega) (by simp) ⟨List.Pairwise.nil, by simp⟩) fun k hk => ?_
        simp only [ductuslaw27_SwapJust.j0, Bool.false_eq_true, if_false]
        exact hk
      refine ev_same2 alive27 hJ fun k ha hk => ?_
      unfold ductuslaw27_SwapJust.f
      rw [ha, Option.bind_some, if_pos rfl, great_no g0 g1 g2, Option.bind_some, if_neg (by simp), decide_eq_false h]
      exact hk
  · refine ev_same2 alive27 hT fun k ha hk => ?_
    unfold ductuslaw27_SwapJust.f
    rw [ha, Option.bind_some, if_pos rfl, great_yes hg, Option.bind_some, if_pos rfl]
    exact hk
end Go.Proofs.Ythgmkbghdobmlaa.Pure
