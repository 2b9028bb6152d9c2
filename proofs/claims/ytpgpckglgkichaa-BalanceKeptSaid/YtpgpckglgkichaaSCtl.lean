/- Proved: a call of the Go function balance.Controls, with any list of int, answers those of its characters that open or close, in new memory; condition: a list shorter than 2^44, which its answer says. -/
import Derived.Test.YtpgpckglgkichaaSBal
import Derived.Test.YtpgpckglgkichaaSClone
import Derived.Test.YtpgpckglgkichaaSDel
import Derived.Test.YtpgpckglgkichaaPx4
namespace Go.Proofs.Ytpgpckglgkichaa.P
open Go.RowKit Go.Proofs.YtpgpckglgkichaaW.PrintWords Go.Proofs.YtpgpckglgkichaaW.PrintLast Go.Proofs.YtpgpckglgkichaaW.PrintMore
set_option linter.unusedVariables false
set_option linter.unusedSimpArgs false

/-- Does a class open or close? -/
def opcK (k : Int) : Bool := decide (closerK k ≠ -1) || decide (k = 18 ∨ k = 22)
def opc (c : Int) : Bool := opcK (cls c)
def balance_Controls.f (l0 : List Int) : Option (List Int) := if l0.length < 17592186044416 then some (l0.filter opc) else none
theorem controls1_eq (c : Int) : balance_Controls_1.f 91 c = some (!(opc c)) := by
  unfold balance_Controls_1.f opc opcK
  rw [class_of_eq 91 (by decide), Option.bind_some, more (balance_closer.mono _) 1 91 (by decide) _ (closer_eq0 _), Option.bind_some]
  by_cases h : closerK (cls c) = -1
  · rw [if_pos h, closes_eq, Option.bind_some]
    simp [h]
  · rw [if_neg h]
    simp [h]
theorem balance_Controls.calls (A0 : Option Addr) (c0 : Nat) (l0 : List Int) (r : List Int) (w : World) (hr0 : Kd.C (Kd.int .i64) w A0 l0.length l0) (hc0 : l0.length ≤ c0) (h : balance_Controls.f l0 = some r) :
    Calls Try.prog 14 #[.slice A0 l0.length c0] w fun e w' => ∃ v0_ : Value, e = .returned (v0_) ∧ Kd.R (Kd.int .i64) 3 w' w.heap.size (fun _ => True) v0_ r ∧ Below w.heap.size w w' := by
  have hl : l0.length < 17592186044416 := by
    unfold balance_Controls.f at h
    by_cases hl : l0.length < 17592186044416
    · exact hl
    · rw [if_neg hl] at h
      cases h
  obtain rfl : l0.filter opc = r := by
    unfold balance_Controls.f at h
    rw [if_pos hl] at h
    exact Option.some.inj h
  clear h
  have hcl := slices_Clone_int.calls A0 c0 l0 l0 w hr0 hc0 (by unfold slices_Clone_int.f; rw [if_pos hl])
  have ht : TestB 25 #[] (fun c => !(opc c)) := fun x W => balance_Controls_1.calls 91 x _ W (controls1_eq x)
  have hf : (l0.filter fun x => !((fun c => !(opc c)) x)) = l0.filter opc := by
    congr 1
    funext x
    simp
  have hdel : ∀ (A : Option Addr) (c : Nat) (W : World), Kd.R (Kd.int .i64) 3 W w.heap.size (fun _ => True) (.slice A l0.length c) l0 → Below w.heap.size w W → _ := fun A c W h1 h2 => del_func.calls 25 #[] (fun c => !(opc c)) A c l0 w W h1 h2 hl ht (fun x W => by rfl)
  rw [hf] at hdel
  clear hf ht hr0 hc0
  go_enter Try.func14, Try.ntmps14
  go_wp2_with (first
    | (go_at_call 24; (with_reducible refine hcl.mono ?_); rintro e w' ⟨v1, rfl, hq, hb⟩; obtain ⟨A2, c2, rfl⟩ := Kd.R_slice hq; have HB := Aside0.mk hb; have HQ := Aside0.mk hq; clear hq hb)
    | (go_at_call 23; (with_reducible refine (hdel _ _ _ HQ.out HB.out).mono ?_); rintro e w' ⟨v2, rfl, hq, hb⟩; obtain ⟨A3, c3, rfl⟩ := Kd.R_slice hq; have HB3 := Aside0.mk hb; have HQ3 := Aside0.mk hq; clear hq hb))
  go_ret
  exact ⟨_, rfl, HQ3.out, HB3.out⟩
end Go.Proofs.Ytpgpckglgkichaa.P
