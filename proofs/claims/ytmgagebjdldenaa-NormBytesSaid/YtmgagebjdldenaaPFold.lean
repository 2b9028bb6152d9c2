/- Proved: what a character is folded into, by the program and by the document; condition: enough rounds. -/
import Derived.Test.YtmgagebjdldenaaPLib
import Derived.Test.YtmgagebjdldenaaPx3
import Derived.Test.YtmgagebjdldenaaPx7
namespace Go.Proofs.Ytmgagebjdldenaa.P
open Go.RowKit Go.Proofs.YtmgagebjdldenaaW.PrintWords Go.Proofs.YtmgagebjdldenaaW.PrintLast Go.Proofs.YtmgagebjdldenaaW.PrintMore
set_option linter.unusedVariables false
set_option linter.unusedSimpArgs false

def fspans : List (Int × Nat × Int) := [(65, 26, 32), (181, 1, 775), (192, 23, 32), (216, 7, 32), (913, 17, 32), (931, 7, 32), (962, 1, 1), (1024, 16, 80), (1040, 32, 32), (7838, 1, -7615)]
def fkeys : List Int := fspans.flatMap fun s => (List.range s.2.1).map fun (i : Nat) => s.1 + (i : Int)
def foldFrom (c : Int) : List (Int × Nat × Int) → Int
  | [] => c
  | s :: t => if s.1 ≤ c ∧ c < s.1 + (s.2.1 : Int) then c + s.2.2 else foldFrom c t
/-- What a character is folded into. -/
def foldc (c : Int) : Int := foldFrom c fspans
theorem fkeys_no {c : Int} (h : c ∉ fkeys) : ∀ s ∈ fspans, ¬ (s.1 ≤ c ∧ c < s.1 + (s.2.1 : Int)) := by
  intro s hs hc
  refine h ?_
  unfold fkeys
  rw [List.mem_flatMap]
  refine ⟨s, hs, ?_⟩
  rw [List.mem_map]
  refine ⟨(c - s.1).toNat, ?_, ?_⟩
  · rw [List.mem_range]
    omega
  · omega
theorem foldFrom_out (c : Int) : ∀ l : List (Int × Nat × Int), (∀ s ∈ l, ¬ (s.1 ≤ c ∧ c < s.1 + (s.2.1 : Int))) → foldFrom c l = c
  | [], _ => rfl
  | s :: t, h => by
    simp only [foldFrom]
    rw [if_neg (h s List.mem_cons_self)]
    exact foldFrom_out c t fun x hx => h x (List.mem_cons_of_mem _ hx)
theorem fold_out {c : Int} (h : c ∉ fkeys) : foldc c = c := foldFrom_out c fspans (fkeys_no h)
theorem by_fkeys (P : Int → Prop) (hin : ∀ c ∈ fkeys, P c) (hout : ∀ c, c ∉ fkeys → P c) (c : Int) : P c := by
  by_cases h : c ∈ fkeys
  · exact hin c h
  · exact hout c h
theorem fold_eq0 (c : Int) : fold_Of.f 12 c = some (foldc c) := by
  revert c
  refine by_fkeys _ (by decide +kernel) fun c h => ?_
  rw [fold_out h]
  have hn := fkeys_no h
  simp only [fspans, List.mem_cons, List.not_mem_nil, or_false, forall_eq_or_imp, forall_eq] at hn
  obtain ⟨h0, h1, h2, h3, h4, h5, h6, h7, h8, h9⟩ := hn
  have q0 : ¬ (c ≥ 65 ∧ c ≤ 90) := by omega
  have q1 : ¬ (c ≥ 181 ∧ c ≤ 181) := by omega
  have q2 : ¬ (c ≥ 192 ∧ c ≤ 214) := by omega
  have q3 : ¬ (c ≥ 216 ∧ c ≤ 222) := by omega
  have q4 : ¬ (c ≥ 913 ∧ c ≤ 929) := by omega
  have q5 : ¬ (c ≥ 931 ∧ c ≤ 937) := by omega
  have q6 : ¬ (c ≥ 962 ∧ c ≤ 962) := by omega
  have q7 : ¬ (c ≥ 1024 ∧ c ≤ 1039) := by omega
  have q8 : ¬ (c ≥ 1040 ∧ c ≤ 1071) := by omega
  have q9 : ¬ (c ≥ 7838 ∧ c ≤ 7838) := by omega
  have two : ∀ (a b : Int) (x y : Option Int), ¬ (c ≥ a ∧ c ≤ b) → (if c ≥ a then (if c ≤ b then x else y) else y) = y := by
    intro a b x y hq
    by_cases e1 : c ≥ a
    · rw [if_pos e1, if_neg (fun e2 => hq ⟨e1, e2⟩)]
    · rw [if_neg e1]
  have s0 : wrap64 (0 + 1) = 1 := by decide +kernel
  have s1 : wrap64 (1 + 1) = 2 := by decide +kernel
  have s2 : wrap64 (2 + 1) = 3 := by decide +kernel
  have s3 : wrap64 (3 + 1) = 4 := by decide +kernel
  have s4 : wrap64 (4 + 1) = 5 := by decide +kernel
  have s5 : wrap64 (5 + 1) = 6 := by decide +kernel
  have s6 : wrap64 (6 + 1) = 7 := by decide +kernel
  have s7 : wrap64 (7 + 1) = 8 := by decide +kernel
  have s8 : wrap64 (8 + 1) = 9 := by decide +kernel
  have s9 : wrap64 (9 + 1) = 10 := by decide +kernel
  unfold fold_Of.f fold_stretches.f
  simp only [Option.bind_some, List.length_cons, List.length_nil]
  simp only [fold_Of.l0, rd_T61, two _ _ _ _ q0, two _ _ _ _ q1, two _ _ _ _ q2, two _ _ _ _ q3, two _ _ _ _ q4, two _ _ _ _ q5, two _ _ _ _ q6, two _ _ _ _ q7, two _ _ _ _ q8, two _ _ _ _ q9, s0, s1, s2, s3, s4, s5, s6, s7, s8, s9,
    List.length_cons, List.length_nil, List.getD_cons_zero, List.getD_cons_succ, Int.toNat_natCast, Int.toNat_zero, Int.toNat_one, Int.reduceToNat, if_true, if_false, Int.reduceLT, Int.reduceLE]
  simp
theorem fold_eq (k : Nat) (hk : 12 ≤ k) (c : Int) : fold_Of.f k c = some (foldc c) := more (fold_Of.mono c) 12 k hk _ (fold_eq0 c)
theorem rfold_eq0 (c : Int) : ductusref04_Of.f 8 c = some (foldc c) := by
  revert c
  refine by_fkeys _ (by decide +kernel) fun c h => ?_
  rw [fold_out h]
  have hn := fkeys_no h
  simp only [fspans, List.mem_cons, List.not_mem_nil, or_false, forall_eq_or_imp, forall_eq] at hn
  obtain ⟨h0, h1, h2, h3, h4, h5, h6, h7, h8, h9⟩ := hn
  have two : ∀ (a b : Int) (x : Bool → Option Int) (y : Option Int), ¬ (c ≥ a ∧ c ≤ b) → x false = y → (if c ≥ a then x (decide (c ≤ b)) else y) = y := by
    intro a b x y hq hx
    by_cases e1 : c ≥ a
    · rw [if_pos e1, decide_eq_false (fun e2 => hq ⟨e1, e2⟩), hx]
    · rw [if_neg e1]
  have j5 : ∀ k, ductusref04_Of.j5 (k + 1) c false = some c := by
    intro k
    simp only [ductusref04_Of.j5]
    rw [if_neg (by decide), if_neg (by omega), if_neg (by omega), if_neg (by omega)]
  have j4 : ∀ k, ductusref04_Of.j4 (k + 2) c false = some c := by
    intro k
    simp only [ductusref04_Of.j4]
    rw [if_neg (by decide), two 1024 1039 (fun b => ductusref04_Of.j5 (k + 1) c b) _ (by omega) rfl]
    exact j5 k
  have j3 : ∀ k, ductusref04_Of.j3 (k + 3) c false = some c := by
    intro k
    have e2 : (if c ≥ 1040 then ductusref04_Of.j4 (k + 2) c (decide (c ≤ 1071)) else ductusref04_Of.j4 (k + 2) c false) = some c := by
      rw [two 1040 1071 (fun b => ductusref04_Of.j4 (k + 2) c b) _ (by omega) rfl]
      exact j4 k
    simp only [ductusref04_Of.j3]
    rw [if_neg (by decide), e2]
    by_cases e1 : c ≥ 931
    · rw [if_pos e1, if_neg (by omega)]
    · rw [if_neg e1]
  have j2 : ∀ k, ductusref04_Of.j2 (k + 4) c false = some c := by
    intro k
    simp only [ductusref04_Of.j2]
    rw [if_neg (by decide), two 913 929 (fun b => ductusref04_Of.j3 (k + 3) c b) _ (by omega) rfl]
    exact j3 k
  have j1 : ∀ k, ductusref04_Of.j1 (k + 5) c false = some c := by
    intro k
    simp only [ductusref04_Of.j1]
    rw [if_neg (by decide), two 216 222 (fun b => ductusref04_Of.j2 (k + 4) c b) _ (by omega) rfl]
    exact j2 k
  have j0 : ∀ k, ductusref04_Of.j0 (k + 6) c false = some c := by
    intro k
    simp only [ductusref04_Of.j0]
    rw [if_neg (by decide), two 192 214 (fun b => ductusref04_Of.j1 (k + 5) c b) _ (by omega) rfl]
    exact j1 k
  unfold ductusref04_Of.f
  rw [two 65 90 (fun b => ductusref04_Of.j0 8 c b) _ (by omega) rfl]
  exact j0 2
theorem rfold_eq (k : Nat) (hk : 8 ≤ k) (c : Int) : ductusref04_Of.f k c = some (foldc c) := more (ductusref04_Of.mono c) 8 k hk _ (rfold_eq0 c)
theorem fold_fold (c : Int) : foldc (foldc c) = foldc c := by
  revert c
  refine by_fkeys _ (by decide +kernel) fun c h => ?_
  rw [fold_out h, fold_out h]
end Go.Proofs.Ytmgagebjdldenaa.P
