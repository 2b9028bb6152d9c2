/- Proved: the document's answers for pair tell what the program's tell; conditions: enough rounds, and a list's bytes below 2^47. -/
import Derived.Test.YtldbjnemjlmjpaaPPair
import Derived.Test.YtldbjnemjlmjpaaPx2
import Derived.Test.YtldbjnemjlmjpaaPx3
namespace Go.Proofs.Ytldbjnemjlmjpaa.P
open Go.RowKit Go.Proofs.YtldbjnemjlmjpaaW.PrintWords Go.Proofs.YtldbjnemjlmjpaaW.PrintLast Go.Proofs.YtldbjnemjlmjpaaW.PrintMore
set_option linter.unusedVariables false
set_option linter.unusedSimpArgs false

set_option maxRecDepth 10000 in
theorem rmirror_eq0 (c : Int) : ductusref03_Mirror.f 14 c = some (mir c) := by
  revert c
  refine by_keys _ (by decide +kernel) fun c h => ?_
  rw [mir_out h]
  simp only [mkeys, List.mem_cons, List.not_mem_nil, or_false, not_or] at h
  simp [ductusref03_Mirror.f, ductusref03_Mirror.l0, ductusref03_brackets.f, rd, wrap64, eq_comm (b := c), h]
theorem rmirror_eq (k : Nat) (hk : 14 ≤ k) (c : Int) : ductusref03_Mirror.f k c = some (mir c) := more (ductusref03_Mirror.mono c) 14 k hk _ (rmirror_eq0 c)
theorem rmirrored_eq (k : Nat) (hk : 14 ≤ k) (c : Int) : ductusref03_Mirrored.f k c = some (mir c != c) := by
  unfold ductusref03_Mirrored.f
  rw [rmirror_eq k hk]
  rfl
set_option maxRecDepth 10000 in
theorem rother_eq0 (c : Int) : ductusref03_Other.f 14 c = some (pair_Other.ans c) := by
  revert c
  refine by_keys _ (by decide +kernel) fun c h => ?_
  rw [ans_out h]
  simp only [mkeys, List.mem_cons, List.not_mem_nil, or_false, not_or] at h
  simp [ductusref03_Other.f, ductusref03_Other.l0, ductusref03_brackets.f, rd, wrap64, eq_comm (b := c), h]
theorem rother_eq (k : Nat) (hk : 14 ≤ k) (c : Int) : ductusref03_Other.f k c = some (pair_Other.ans c) := more (ductusref03_Other.mono c) 14 k hk _ (rother_eq0 c)
theorem ras_eq (c : Int) : ductusref03_As.f c = some (asb c) := by
  unfold ductusref03_As.f asb
  by_cases h1 : c = 9001
  · simp [h1]
  · by_cases h2 : c = 9002 <;> simp [h1, h2]
theorem rsame_eq (k : Nat) (hk : 14 ≤ k) (a b : Int) : ductusref03_Same.f k a b = some (sameb a b) := by
  unfold ductusref03_Same.f sameb
  simp only [rother_eq k hk, Option.bind_some, ras_eq]
  cases (pair_Other.ans a).2.2 <;> cases (pair_Other.ans b).2.2 <;> simp
theorem rplain_loop (l : List Int) (hn : l.length * 8 ≤ 140737488351232) (d : Nat) : ∀ (k i : Nat) (acc : List Int), i ≤ l.length → l.length - i = d → d + 14 < k → acc.length = i →
    ductusref03_Plain.l0 k l acc (i : Int) = some (acc ++ (l.drop i).map fun c => mn c (mir c)) := by
  induction d with
  | zero =>
    intro k i acc hi hd hk ha
    obtain ⟨k, rfl⟩ : ∃ m, k = m + 1 := ⟨k - 1, by omega⟩
    simp only [ductusref03_Plain.l0]
    rw [if_neg (by omega), List.drop_eq_nil_of_le (by omega)]
    simp
  | succ d ih =>
    intro k i acc hi hd hk ha
    obtain ⟨k, rfl⟩ : ∃ m, k = m + 1 := ⟨k - 1, by omega⟩
    simp only [ductusref03_Plain.l0]
    rw [if_pos (by omega), if_pos (by omega), rmirror_eq k (by omega)]
    simp only [Option.bind_some]
    rw [if_pos (by omega), wrap_succ i (by omega), ih k (i + 1) _ (by omega) (by omega) (by omega) (by simp [ha]), drop_cons l i (by omega)]
    simp
theorem rplain_eq (k : Nat) (l : List Int) (hn : l.length * 8 ≤ 140737488351232) (hk : l.length + 14 < k) : ductusref03_Plain.f k l = some (plainL l) := by
  unfold ductusref03_Plain.f
  have := rplain_loop l hn l.length k 0 [] (by omega) (by omega) hk rfl
  unfold plainL
  simpa using this

end Go.Proofs.Ytldbjnemjlmjpaa.P
