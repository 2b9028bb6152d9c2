/- Proved: a call of the Go function class.Word, with any number, answers the class's name, or nothing; condition: the package's table of names reads as the program's text lays it. -/
import Derived.Test.YtgoebfeojkgimaaDoorPx0
import Derived.WalkKit
import Derived.ProofKit
import Derived.WalkSpells
namespace Go.Proofs.YtgoebfeojkgimaaDoor.P
open Go.RowKit Go.Proofs.YtgoebfeojkgimaaDoorW.PrintWords Go.Proofs.YtgoebfeojkgimaaDoorW.PrintLast
set_option linter.unusedVariables false

def class_words : List ByteArray := [⟨#[76]⟩, ⟨#[82]⟩, ⟨#[65, 76]⟩, ⟨#[69, 78]⟩, ⟨#[69, 83]⟩, ⟨#[69, 84]⟩, ⟨#[65, 78]⟩, ⟨#[67, 83]⟩, ⟨#[78, 83, 77]⟩, ⟨#[66, 78]⟩, ⟨#[66]⟩, ⟨#[83]⟩, ⟨#[87, 83]⟩, ⟨#[79, 78]⟩, ⟨#[76, 82, 69]⟩, ⟨#[76, 82, 79]⟩, ⟨#[82, 76, 69]⟩, ⟨#[82, 76, 79]⟩, ⟨#[80, 68, 70]⟩, ⟨#[76, 82, 73]⟩, ⟨#[82, 76, 73]⟩, ⟨#[70, 83, 73]⟩, ⟨#[80, 68, 73]⟩]
/-- The table stands in its cells. -/
def WordsAt (w : World) : Prop := ∀ i : Nat, i < 23 → w.cell? ⟨0, i, none⟩ = some (.string (class_words.getD i ByteArray.empty))
theorem WordsAt.at {w w' : World} (h : WordsAt w) (hb : Below w.heap.size w w') : WordsAt w' := fun i hi => cell_later hb (h i hi)
def class_Word.f (a0 : Int) : Option ByteArray := if a0 < 0 then some ⟨#[]⟩ else if a0 ≥ 23 then some ⟨#[]⟩ else some (class_words.getD a0.toNat ByteArray.empty)
theorem class_Word.calls (a0 : Int) (r : ByteArray) (w : World) (h : class_Word.f a0 = some r) (hL : WordsAt w) :
    Calls Tryd.prog 15 #[.int .i64 a0] w fun e w' => e = .returned (.string r) ∧ ∃ nd, w' = w.drewN nd := by
  unfold class_Word.f at h
  by_cases h0 : a0 < 0
  · rw [if_pos h0] at h
    obtain rfl := Option.some.inj h
    have b0 : decide (a0 < 0) = true := decide_eq_true h0
    clear h0 hL
    go_enter Tryd.func15, Tryd.ntmps15
    go_wp2
    go_ret
    exact ⟨rfl, 0, rfl⟩
  · rw [if_neg h0] at h
    have b0 : decide (a0 < 0) = false := decide_eq_false h0
    by_cases h1 : a0 ≥ 23
    · rw [if_pos h1] at h
      obtain rfl := Option.some.inj h
      have b1 : decide (23 ≤ a0) = true := decide_eq_true h1
      clear h0 hL h1
      go_enter Tryd.func15, Tryd.ntmps15
      go_wp2
      go_ret
      exact ⟨rfl, 0, rfl⟩
    · rw [if_neg h1] at h
      obtain rfl := Option.some.inj h
      obtain ⟨i, rfl⟩ : ∃ i : Nat, a0 = (i : Int) := ⟨a0.toNat, by omega⟩
      have b1 : decide (23 ≤ (i : Int)) = false := decide_eq_false (by omega)
      have hx := hL i (by omega)
      rw [Int.toNat_natCast]
      have hi : i < 23 := by omega
      have q0 : (0 : Int) ≤ (i : Int) := by omega
      have q1 : (i : Int) < 23 := by omega
      clear h0 hL h1 h
      go_enter Tryd.func15, Tryd.ntmps15
      go_wp2
      go_ret
      exact ⟨rfl, 0, rfl⟩
end Go.Proofs.YtgoebfeojkgimaaDoor.P
