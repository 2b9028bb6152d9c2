/- Proved: what the functions of class, and the document's answers for them, tell of any characters and of any number; condition: a list shorter than 2^43. -/
import Derived.Test.YtnbhncmggfjgdaaDoorPEv
import Derived.Test.YtnbhncmggfjgdaaDoorPInts
import Derived.Test.YtnbhncmggfjgdaaDoorPClassK
import Derived.Test.YtnbhncmggfjgdaaDoorSWord
import Derived.Test.YtnbhncmggfjgdaaDoorPx2
import Derived.Test.YtnbhncmggfjgdaaDoorPx1
import Derived.Test.YtnbhncmggfjgdaaDoorPx3
namespace Go.Proofs.YtnbhncmggfjgdaaDoor.P
open Go.RowKit Go.Proofs.YtnbhncmggfjgdaaDoorW.PrintWords Go.Proofs.YtnbhncmggfjgdaaDoorW.PrintLast Go.Proofs.YtnbhncmggfjgdaaDoorW.PrintMore
set_option linter.unusedVariables false
set_option linter.unusedSimpArgs false

def stgK (k : Int) : Bool := decide (k ∈ [0, 1, 2])
def neuK (k : Int) : Bool := decide (k ∈ [10, 11, 12, 13, 19, 20, 21, 22])
theorem stg_eq0 (k : Int) : class_Strong.f 20 k = some (stgK k) := by
  revert k
  refine by_class _ (by decide +kernel) fun k h => ?_
  obtain ⟨b, hb⟩ : ∃ b, class_set.f 20 ([0, 1, 2] : List Int) = some b := Option.isSome_iff_exists.1 (by decide +kernel)
  have e : stgK k = false := by
    unfold stgK
    rw [decide_eq_false_iff_not]
    simp only [List.mem_cons, List.not_mem_nil, or_false]
    omega
  unfold class_Strong.f
  rw [hb, e]
  simp only [Option.bind_some]
  rw [in_out k b h]
  rfl
theorem neu_eq0 (k : Int) : class_Neutral.f 20 k = some (neuK k) := by
  revert k
  refine by_class _ (by decide +kernel) fun k h => ?_
  obtain ⟨b, hb⟩ : ∃ b, class_set.f 20 ([10, 11, 12, 13, 19, 20, 21, 22] : List Int) = some b := Option.isSome_iff_exists.1 (by decide +kernel)
  have e : neuK k = false := by
    unfold neuK
    rw [decide_eq_false_iff_not]
    simp only [List.mem_cons, List.not_mem_nil, or_false]
    omega
  unfold class_Neutral.f
  rw [hb, e]
  simp only [Option.bind_some]
  rw [in_out k b h]
  rfl
theorem stg_ev (k : Int) : Ev (fun n => class_Strong.f n k) (stgK k) := ⟨20, fun n hn => more (class_Strong.mono k) 20 n hn _ (stg_eq0 k)⟩
theorem neu_ev (k : Int) : Ev (fun n => class_Neutral.f n k) (neuK k) := ⟨20, fun n hn => more (class_Neutral.mono k) 20 n hn _ (neu_eq0 k)⟩
theorem out_ev (k : Int) : Ev (fun n => class_Out.f n k) (outK k) := ⟨8, fun n hn => out_eq n hn k⟩
theorem opens_ev (k : Int) : Ev (fun n => class_Opens.f n k) (opnK k) := ⟨8, fun n hn => opens_eq n hn k⟩
theorem rstg_eq (k : Int) : ductusref02_Strong.f k = some (stgK k) := by
  unfold ductusref02_Strong.f stgK
  repeat' split
  all_goals simp_all
  rfl
theorem rneu_eq (k : Int) : ductusref02_Neutral.f k = some (neuK k) := by
  unfold ductusref02_Neutral.f neuK
  rw [ropens_eq, Option.bind_some]
  have e : opnK k = decide (k = 19 ∨ k = 20 ∨ k = 21) := by
    unfold opnK
    simp
  rw [e]
  by_cases h1 : k = 10
  · simp [h1]
  · by_cases h2 : k = 11
    · simp [h2]
    · by_cases h3 : k = 12
      · simp [h3]
      · by_cases h4 : k = 13
        · simp [h4]
        · rw [if_neg h1, if_neg h2, if_neg h3, if_neg h4]
          by_cases h5 : k = 19 ∨ k = 20 ∨ k = 21
          · rw [decide_eq_true h5, if_pos rfl, decide_eq_true (by simp; omega)]
          · rw [decide_eq_false h5, if_neg (by simp)]
            by_cases h6 : k = 22
            · simp [h6]
            · rw [decide_eq_false (by simp; omega), beq_false_of_ne h6]
theorem word_eq (k : Int) : ductusref02_Word.f k = class_Word.f k := by
  unfold ductusref02_Word.f class_Word.f
  rw [Option.bind_some]
  show (if k < 0 then some (⟨#[]⟩ : ByteArray) else if k ≥ ((class_words.length : Nat) : Int) then some ⟨#[]⟩ else if 0 ≤ k then (if k < ((class_words.length : Nat) : Int) then some (rdOf ByteArray.empty class_words k) else none) else none) = _
  rw [show class_words.length = 23 from rfl]
  by_cases h0 : k < 0
  · rw [if_pos h0, if_pos h0]
  · by_cases h1 : k ≥ 23
    · rw [if_neg h0, if_neg h0, if_pos h1, if_pos (show k ≥ ((23 : Nat) : Int) from h1)]
    · rw [if_neg h0, if_neg h0, if_neg h1, if_neg (show ¬ k ≥ ((23 : Nat) : Int) from h1), if_pos (by omega), if_pos (show k < ((23 : Nat) : Int) by omega)]
      rfl
def wordM (k : Int) : ByteArray := if k < 0 then ⟨#[]⟩ else if k ≥ 23 then ⟨#[]⟩ else class_words.getD k.toNat ByteArray.empty
theorem word_f (k : Int) : class_Word.f k = some (wordM k) := by
  unfold class_Word.f wordM
  split
  · rfl
  · split <;> rfl
theorem of_ev (c : Int) : Ev (fun n => class_Of.f n c) (cls c) := ⟨91, fun n hn => class_of_eq n hn c⟩
theorem find_ev (c : Int) : Ev (fun n => class_find.f n (class_reaches.tbl.map class_reaches.row) c) (cls c) := ⟨91, fun n hn => find_eq n hn c⟩
theorem all_loop (l : List Int) (hl : l.length < 8796093022208) (d : Nat) : ∀ (i : Nat) (acc : List Int), i ≤ l.length → l.length - i = d → acc.length = i →
    Ev (fun k => class_All.l0 k (class_reaches.tbl.map class_reaches.row) acc l (l.length : Int) (i : Int)) (acc ++ (l.drop i).map cls) := by
  induction d with
  | zero =>
    intro i acc hi hd ha
    refine ev_one fun k => ?_
    simp only [class_All.l0]
    rw [if_neg (by omega), List.drop_eq_nil_of_le (by omega), List.map_nil, List.append_nil]
  | succ d ih =>
    intro i acc hi hd ha
    have hnext := ih (i + 1) (acc ++ [cls (rd l (i : Int))]) (by omega) (by omega) (by simp [ha])
    rw [drop_cons l i (by omega), List.map_cons]
    rw [List.append_assoc, List.singleton_append] at hnext
    have g1 : (i : Int) < (l.length : Int) := by omega
    have g2 : (0 : Int) ≤ (i : Int) := by omega
    have g3 : acc.length < 17592186044416 := by omega
    have w1 : wrap64 ((i : Int) + 1) = ((i + 1 : Nat) : Int) := wrap_succ i (by omega)
    refine ev_step2 (find_ev (rd l (i : Int))) hnext fun k hk hk2 => ?_
    simp only [class_All.l0]
    rw [if_pos g1, if_pos g2, if_pos g1, hk, Option.bind_some, if_pos g3, w1]
    exact hk2
theorem all_ev (l : List Int) (hl : l.length < 8796093022208) : Ev (fun k => class_All.f k l) (l.map cls) := by
  have h := all_loop l hl l.length 0 [] (by omega) (by omega) rfl
  simp only [List.drop_zero, List.nil_append] at h
  refine ev_same h fun k hk => ?_
  unfold class_All.f
  rw [show class_reaches.f = some (class_reaches.tbl.map class_reaches.row) from rfl, Option.bind_some]
  exact hk
theorem rall_loop (l : List Int) (hl : l.length < 8796093022208) (d : Nat) : ∀ (i : Nat) (acc : List Int), i ≤ l.length → l.length - i = d → acc.length = i →
    Ev (fun k => ductusref02_All.l0 k l acc (i : Int)) (acc ++ (l.drop i).map cls) := by
  induction d with
  | zero =>
    intro i acc hi hd ha
    refine ev_one fun k => ?_
    simp only [ductusref02_All.l0]
    rw [if_neg (by omega), List.drop_eq_nil_of_le (by omega), List.map_nil, List.append_nil]
  | succ d ih =>
    intro i acc hi hd ha
    have hnext := ih (i + 1) (acc ++ [cls (rd l (i : Int))]) (by omega) (by omega) (by simp [ha])
    rw [drop_cons l i (by omega), List.map_cons]
    rw [List.append_assoc, List.singleton_append] at hnext
    have g1 : (i : Int) < (l.length : Int) := by omega
    have g2 : (0 : Int) ≤ (i : Int) := by omega
    have g3 : acc.length < 17592186044416 := by omega
    have w1 : wrap64 ((i : Int) + 1) = ((i + 1 : Nat) : Int) := wrap_succ i (by omega)
    refine ev_step hnext fun k hk2 => ?_
    simp only [ductusref02_All.l0]
    rw [if_pos g1, if_pos g2, rcls_eq, Option.bind_some, if_pos g3, w1]
    exact hk2
theorem rall_ev (l : List Int) (hl : l.length < 8796093022208) : Ev (fun k => ductusref02_All.f k l) (l.map cls) := by
  have h := rall_loop l hl l.length 0 [] (by omega) (by omega) rfl
  simp only [List.drop_zero, List.nil_append] at h
  exact h
theorem ints_ev (a : List Int) (h : a.length < 9223372036854775807) : Ev (fun k => ductusref01_Ints.f k a a) true := ⟨a.length + 1, fun k hk => ints_same k a h (by omega)⟩
theorem alive02 : Ev (fun k => ductuslaw02_alive.f k) true := Ev.of ductuslaw02_alive.mono (k := 300) (by decide +kernel)
end Go.Proofs.YtnbhncmggfjgdaaDoor.P
