/- Proved: a call of the Go function line.Of, with any list of int and any number, answers the first place whose break is behind the number, or -1, and changes nothing that was there; condition: a list shorter than 2^63, which the answer of line_Of.f says. -/
import Derived.Test.YtmjipbmpapcboaaSIdx
namespace Go.Proofs.Ytmjipbmpapcboaa.P
open Go.RowKit Go.Proofs.YtmjipbmpapcboaaW.PrintWords Go.Proofs.YtmjipbmpapcboaaW.PrintLast
set_option linter.unusedVariables false
set_option linter.unusedSimpArgs false

def line_Of.ans (l : List Int) (i : Int) : Int := if i < 0 then -1 else idxFrom (fun b => decide (i < b)) 0 l
def line_Of.f (l0 : List Int) (a1 : Int) : Option Int := if l0.length < 9223372036854775807 then some (line_Of.ans l0 a1) else none

theorem line_test {w : World} {c : Nat} (x i : Int) (hc : w.cell? ⟨c, 0, none⟩ = some (.int .i64 i)) :
    Calls Try.prog 25 #[.int .i64 x, .pointer (some ⟨c, 0, none⟩)] w fun e w' => e = .returned (.bool (decide (i < x))) ∧ w' = w := by
  go_enter Try.func25, Try.ntmps25
  go_wp2
  go_ret
  exact ⟨rfl, rfl⟩
set_option maxHeartbeats 1000000 in
theorem line_Of.calls (A0 : Option Addr) (c0 : Nat) (l0 : List Int) (a1 : Int) (r : Int) (w : World) (hr0 : Kd.C (Kd.int .i64) w A0 l0.length l0) (hc0 : l0.length ≤ c0) (h : line_Of.f l0 a1 = some r) :
    Calls Try.prog 13 #[.slice A0 l0.length c0, .int .i64 a1] w fun e w' => e = .returned (.int .i64 r) ∧ Below w.heap.size w w' := by
  have HL : Aside0 (l0.length < 9223372036854775807) := by
    refine ⟨?_⟩
    unfold line_Of.f at h
    by_cases hl : l0.length < 9223372036854775807
    · exact hl
    · rw [if_neg hl] at h
      cases h
  have hr : line_Of.ans l0 a1 = r := by
    unfold line_Of.f at h
    rw [if_pos HL.out] at h
    exact Option.some.inj h
  clear h
  have hb := below_alloc (Below.refl w.heap.size w) (.cells #[.int .i64 a1] 3)
  have hc : (w.alloc (.cells #[.int .i64 a1] 3)).cell? ⟨w.heap.size, 0, none⟩ = some (.int .i64 a1) := blk_cell (heap_alloc_new w _) 0
  have hct := idx_func.calls 25 #[.pointer (some ⟨w.heap.size, 0, none⟩)] (fun b => decide (a1 < b)) A0 c0 l0 (w.alloc (.cells #[.int .i64 a1] 3)) (Kd.C_below hr0 hb) HL.out
    (fun x hx n => (line_test (w := (w.alloc (.cells #[.int .i64 a1] 3)).drewN n) x a1 hc).mono (fun e w' ⟨h1, h2⟩ => ⟨h1, 0, h2⟩)) (fun x W => by rfl)
  unfold line_Of.ans at hr
  obtain ⟨q, hq⟩ : ∃ q, idxFrom (fun b => decide (a1 < b)) 0 l0 = q := ⟨_, rfl⟩
  rw [hq] at hct hr
  have HB := Aside0.mk hb
  clear hq hr0 hc0 hb
  by_cases hi : a1 < 0
  · rw [if_pos hi] at hr
    obtain rfl := hr
    have h1 : decide (a1 < 0) = true := decide_eq_true hi
    go_enter Try.func13, Try.ntmps13
    go_wp2_with (go_at_call 24; refine hct.mono ?_; rintro e w' ⟨rfl, m2, rfl⟩)
    go_ret
    exact ⟨rfl, pw_below_drewN HB.out _⟩
  · rw [if_neg hi] at hr
    obtain rfl := hr
    have h1 : decide (a1 < 0) = false := decide_eq_false hi
    go_enter Try.func13, Try.ntmps13
    go_wp2_with (go_at_call 24; refine hct.mono ?_; rintro e w' ⟨rfl, m2, rfl⟩)
    go_ret
    exact ⟨rfl, pw_below_drewN HB.out _⟩
end Go.Proofs.Ytmjipbmpapcboaa.P
