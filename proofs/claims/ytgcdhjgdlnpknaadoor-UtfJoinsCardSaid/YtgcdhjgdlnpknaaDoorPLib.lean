/- Proved: small lemmas on numbers, lists and rounds that the proofs of this claim use; each under its own written conditions. -/
import Derived.Test.YtgcdhjgdlnpknaaDoorPx0
namespace Go.Proofs.YtgcdhjgdlnpknaaDoor.P
open Go.RowKit Go.Proofs.YtgcdhjgdlnpknaaDoorW.PrintWords Go.Proofs.YtgcdhjgdlnpknaaDoorW.PrintLast
set_option linter.unusedVariables false

theorem wrap_id {x : Int} (h0 : -9223372036854775808 ≤ x) (h1 : x ≤ 9223372036854775807) : wrap64 x = x := by
  unfold wrap64
  omega
theorem wrap_succ (i : Nat) (h : i < 9223372036854775807) : wrap64 ((i : Int) + 1) = ((i + 1 : Nat) : Int) := by
  rw [wrap_id (by omega) (by omega)]
  omega
theorem rd_nat (xs : List Int) (i : Nat) : rd xs (i : Int) = xs.getD i 0 := by
  unfold rd
  rw [Int.toNat_natCast]
theorem rd_get (xs : List Int) (i : Nat) (h : i < xs.length) : rd xs (i : Int) = xs[i] := by
  rw [rd_nat, List.getD_eq_getElem?_getD, List.getElem?_eq_getElem h, Option.getD_some]
theorem drop_cons (xs : List Int) (i : Nat) (h : i < xs.length) : xs.drop i = rd xs (i : Int) :: xs.drop (i + 1) := by
  rw [rd_get xs i h]
  exact List.drop_eq_getElem_cons h
theorem len_ok {l : List Int} (h : l.length * 8 ≤ 140737488351232) : l.length < 17592186044416 := by omega
theorem len_int {l : List Int} (h : l.length * 8 ≤ 140737488351232) : l.length < 9223372036854775807 := by omega
theorem more {α : Type} {g : Nat → Option α} (h : ∀ k, LeO (g k) (g (k + 1))) (k k' : Nat) (hk : k ≤ k') (r : α) (hr : g k = some r) : g k' = some r := at_rounds h hk hr
theorem wf_bound {x : Int} (h : (Lit.int .i64 x).wf = true) : -9223372036854775808 ≤ x ∧ x ≤ 9223372036854775807 := by
  have hmin : IntKind.i64.min = -9223372036854775808 := rfl
  have hmax : IntKind.i64.max = 9223372036854775807 := rfl
  simp only [Lit.wf, Bool.and_eq_true, decide_eq_true_eq] at h
  omega

end Go.Proofs.YtgcdhjgdlnpknaaDoor.P
