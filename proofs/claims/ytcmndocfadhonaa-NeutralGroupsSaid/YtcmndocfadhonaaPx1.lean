/- Printed by a program of this claim's own over the translation: Lean functions of the Go functions, each with its proof; no condition beyond those written. -/
import Derived.Test.YtcmndocfadhonaaPx0
namespace Go.Proofs.Ytcmndocfadhonaa.P
open Go.RowKit Go.Proofs.YtcmndocfadhonaaW.PrintWords Go.Proofs.YtcmndocfadhonaaW.PrintLast Go.Proofs.YtcmndocfadhonaaW.PrintMore
attribute [local go_sem] max2_int min2_int max_two min_two max_three min_three max_four min_four   -- for this text's walks alone
set_option linter.unusedVariables false
set_option linter.unusedSimpArgs false

theorem esz38_3 (w : World) : (sizeOf 3).run Try.prog w = .ok 1 w := by kernel_rfl
theorem eqA38 (d : Nat) (w : World) (x0 y0 : Int) (x1 y1 : Int) :
    (Op.equalIn (d + 2) 38 (.agg #[.int .i64 x0, .int .i64 x1]) (.agg #[.int .i64 y0, .int .i64 y1])).run Try.prog w = .ok (x0 == y0 && (x1 == y1)) w := by
  have h0 : (Op.equalIn (d + 1) 3 (.int .i64 x0) (.int .i64 y0)).run Try.prog w = .ok (x0 == y0) w := by go_simp
  have p0 : (part 3 #[.int .i64 x0, .int .i64 x1] 0).run Try.prog w = .ok (.int .i64 x0) w := by kernel_rfl
  have q0 : (part 3 #[.int .i64 y0, .int .i64 y1] 0).run Try.prog w = .ok (.int .i64 y0) w := by kernel_rfl
  have h1 : (Op.equalIn (d + 1) 3 (.int .i64 x1) (.int .i64 y1)).run Try.prog w = .ok (x1 == y1) w := by go_simp
  have p1 : (part 3 #[.int .i64 x0, .int .i64 x1] 1).run Try.prog w = .ok (.int .i64 x1) w := by kernel_rfl
  have q1 : (part 3 #[.int .i64 y0, .int .i64 y1] 1).run Try.prog w = .ok (.int .i64 y1) w := by kernel_rfl
  unfold Op.equalIn
  simp only [Sem.run_bind, run_underlying Try.underlying38, Result.andThen_ok, esz38_3]
  simp only [Std.Legacy.Range.forIn_eq_forIn_range', Std.Legacy.Range.size]
  cases g0 : (x0 == y0) <;> cases g1 : (x1 == y1) <;> rw [g0] at h0 <;> rw [g1] at h1 <;> simp [List.range'_succ, h0, p0, q0, h1, p1, q1]
end Go.Proofs.Ytcmndocfadhonaa.P
