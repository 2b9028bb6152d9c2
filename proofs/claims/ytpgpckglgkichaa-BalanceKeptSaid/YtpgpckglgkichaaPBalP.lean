/- Proved: what every law of balance begins with, and that a list is itself; no condition but a list shorter than 2^63. -/
import Derived.Test.YtpgpckglgkichaaPBalRef
import Derived.Test.YtpgpckglgkichaaPInts
import Derived.Test.YtpgpckglgkichaaPx7
namespace Go.Proofs.Ytpgpckglgkichaa.P
open Go.RowKit Go.Proofs.YtpgpckglgkichaaW.PrintWords Go.Proofs.YtpgpckglgkichaaW.PrintLast Go.Proofs.YtpgpckglgkichaaW.PrintMore

theorem ints_ev (a : List Int) (h : a.length < 9223372036854775807) : Ev (fun k => ductusref01_Ints.f k a a) true := ⟨a.length + 1, fun k hk => ints_same k a h (by omega)⟩
theorem alive26 : Ev (fun k => ductuslaw26_alive.f k) true := Ev.of ductuslaw26_alive.mono (k := 300) (by decide +kernel)
theorem ite_ff {α : Type} {a b : α} : (if false = true then a else b) = b := if_neg (by simp)
theorem ite_tt {α : Type} {a b : α} : (if true = true then a else b) = a := if_pos rfl
theorem not_gt {n : Nat} {m : Int} (h : (n : Int) ≤ m) : ¬ ((n : Int) > m) := by omega
end Go.Proofs.Ytpgpckglgkichaa.P
