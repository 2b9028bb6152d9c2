/- Texts of this claim put together by a program of its own (WMore), what the law does not use left out: each part's statements bear their own conditions. -/
import Derived.Test.YtbbplchdgedhcaaC0
import Derived.Test.YtbbplchdgedhcaaC1
import Derived.Test.YtbbplchdgedhcaaC3
import Derived.Test.YtbbplchdgedhcaaC5
namespace Go.Proofs.YtbbplchdgedhcaaW.PrintWords
open Go.RowKit
section
variable {P : Program} {ops : Array Oper} {rest : List Oper} {o : Oper} {a : Act} {Q : Exit → Act → World → Prop} {W : World}
/-- The operation is a call of this function (a cheap look ahead of a dear step). -/
theorem gate_callee {f : FuncId} {as : Array Operand} {ts : Array TypeId} (_ho : o.op = .call { callee := .value (.func f), args := as, argTypes := ts }) (h : wpList P ops Q (o :: rest) a W) : wpList P ops Q (o :: rest) a W := h
/-- The operation is a builtin over these places. -/
theorem gate_builtin {b : Builtin} {xs : Array Operand} {ts : Array TypeId} (_ho : o.op = .call { callee := .builtin b, args := xs, argTypes := ts }) (h : wpList P ops Q (o :: rest) a W) : wpList P ops Q (o :: rest) a W := h
end
end Go.Proofs.YtbbplchdgedhcaaW.PrintWords
