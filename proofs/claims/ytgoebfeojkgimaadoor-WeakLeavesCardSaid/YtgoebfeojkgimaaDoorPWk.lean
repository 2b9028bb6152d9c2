/- Proved: what every law of weak begins with; the names of classes; the first strong one ahead of a place; no condition but a list shorter than 2^43. -/
import Derived.Test.YtgoebfeojkgimaaDoorPEv
import Derived.Test.YtgoebfeojkgimaaDoorPInts
import Derived.Test.YtgoebfeojkgimaaDoorSWord
import Derived.Test.YtgoebfeojkgimaaDoorSBecome
import Derived.Test.YtgoebfeojkgimaaDoorPx4
namespace Go.Proofs.YtgoebfeojkgimaaDoor.P
open Go.RowKit Go.Proofs.YtgoebfeojkgimaaDoorW.PrintWords Go.Proofs.YtgoebfeojkgimaaDoorW.PrintLast Go.Proofs.YtgoebfeojkgimaaDoorW.PrintMore
set_option linter.unusedVariables false
set_option linter.unusedSimpArgs false

theorem alive09 : Ev (fun k => ductuslaw09_alive.f k) true := Ev.of ductuslaw09_alive.mono (k := 300) (by decide +kernel)
theorem ints_ev (a : List Int) (h : a.length < 9223372036854775807) : Ev (fun k => ductusref01_Ints.f k a a) true := ⟨a.length + 1, fun k hk => ints_same k a h (by omega)⟩
theorem stg_ev (k : Int) : Ev (fun n => class_Strong.f n k) (stgK k) := ⟨20, fun n hn => more (class_Strong.mono k) 20 n hn _ (stg_eq0 k)⟩
def wordM (k : Int) : ByteArray := if k < 0 then ⟨#[]⟩ else if k ≥ 23 then ⟨#[]⟩ else class_words.getD k.toNat ByteArray.empty
theorem word_f (k : Int) : class_Word.f k = some (wordM k) := by
  unfold class_Word.f wordM
  split
  · rfl
  · split <;> rfl
/-- Is it no class? -/
def noK (k : Int) : Bool := decide (k < 0 ∨ 22 < k)
theorem word_no (k : Int) : (wordM k).toList = ([] : List UInt8) ↔ noK k = true := by
  by_cases h : 0 ≤ k ∧ k ≤ 22
  · have hall : ∀ j : Fin 23, ¬ (wordM ((j.val : Nat) : Int)).toList = ([] : List UInt8) := by decide +kernel
    have h1 := hall ⟨k.toNat, by omega⟩
    rw [show (((⟨k.toNat, by omega⟩ : Fin 23).val : Nat) : Int) = k from Int.toNat_of_nonneg h.1] at h1
    constructor
    · exact fun h2 => (h1 h2).elim
    · intro h2
      unfold noK at h2
      have := of_decide_eq_true h2
      omega
  · have e : wordM k = ⟨#[]⟩ := by
      unfold wordM
      by_cases h0 : k < 0
      · rw [if_pos h0]
      · rw [if_neg h0, if_pos (by omega)]
    rw [e]
    constructor
    · intro _
      unfold noK
      exact decide_eq_true (by omega)
    · intro _
      have : (⟨#[]⟩ : ByteArray).toList = ([] : List UInt8) := by decide +kernel
      exact this
theorem stg_iff (k : Int) : stgK k = true ↔ k = 0 ∨ k = 1 ∨ k = 2 := by
  unfold stgK
  simp
/-- The first strong one ahead of a place. -/
def strongM (l : List Int) (sos : Int) : Nat → Int
  | 0 => sos
  | i + 1 => if noK (rd l (i : Int)) = true then 0 else if stgK (rd l (i : Int)) = true then rd l (i : Int) else strongM l sos i
theorem side_f (sos : Int) (h : sos = 0 ∨ sos = 1) : weak_side.f sos = some sos := by
  unfold weak_side.f
  rcases h with rfl | rfl
  · rfl
  · rfl
theorem strong_loop (l : List Int) (sos : Int) (hs : sos = 0 ∨ sos = 1) (hl : l.length < 8796093022208) : ∀ i : Nat, i ≤ l.length → Ev (fun k => weak_Strong.l0 k l ((i : Int) - 1) sos) (strongM l sos i) := by
  intro i
  induction i with
  | zero =>
    intro _
    refine ev_one fun k => ?_
    simp only [weak_Strong.l0]
    rw [if_neg (by omega), side_f sos hs, Option.bind_some]
    rfl
  | succ i ih =>
    intro hi
    have e0 : ((i + 1 : Nat) : Int) - 1 = (i : Int) := by omega
    rw [e0]
    have hw : wrap64 ((i : Int) - 1) = (i : Int) - 1 := wrap_id (by omega) (by omega)
    have g1 : (i : Int) ≥ 0 := by omega
    have g2 : (i : Int) < (l.length : Int) := by omega
    refine ev_step2 (stg_ev (rd l (i : Int))) (ih (by omega)) fun k hk hk2 => ?_
    simp only [weak_Strong.l0, strongM]
    rw [if_pos g1, if_pos g1, if_pos g2, word_f, Option.bind_some]
    by_cases hn : noK (rd l (i : Int)) = true
    · rw [if_pos ((word_no _).2 hn), if_pos hn]
    · rw [if_neg (fun h => hn ((word_no _).1 h)), if_neg hn, hk, Option.bind_some]
      by_cases h : stgK (rd l (i : Int)) = true
      · rw [if_pos h, if_pos h]
      · rw [if_neg h, if_neg h, hw]
        exact hk2
theorem strong_ev (l : List Int) (sos : Int) (hs : sos = 0 ∨ sos = 1) (hl : l.length < 8796093022208) (i : Nat) (hi : i ≤ l.length) : Ev (fun k => weak_Strong.f k l (i : Int) sos) (strongM l sos i) := by
  have hw : wrap64 ((i : Int) - 1) = (i : Int) - 1 := wrap_id (by omega) (by omega)
  have g1 : ¬ (i : Int) < 0 := by omega
  have g2 : ¬ (i : Int) > (l.length : Int) := by omega
  have hj : Ev (fun k => weak_Strong.j0 k l (i : Int) sos false) (strongM l sos i) := by
    refine ev_step (strong_loop l sos hs hl i hi) fun k hk => ?_
    simp only [weak_Strong.j0]
    rw [if_neg (by simp), hw]
    exact hk
  refine ev_same hj fun k hk => ?_
  unfold weak_Strong.f
  rw [if_neg g1, decide_eq_false g2]
  exact hk
end Go.Proofs.YtgoebfeojkgimaaDoor.P
