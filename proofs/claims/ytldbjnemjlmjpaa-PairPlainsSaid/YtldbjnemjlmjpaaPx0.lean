/- Printed by a program of this claim's own over the translation: Lean functions of the Go functions, each with its proof; no condition beyond those written. -/
import Derived.Test.YtldbjnemjlmjpaaProg
import Derived.Below
import Derived.Deep.Draws
import Derived.Deep.AppendLies
import Derived.Maps.AppendAt
import Derived.OwnWalk
import Derived.Laws.BytesArg
import Derived.Laws.MakeOwn
import Derived.Laws.OwnMore
import Derived.Deep.OwnRows
import Derived.Tactics
import Derived.Lib.ConvBytes
import Derived.Laws.Slices
import Derived.WalkKit
import Derived.KernelRfl
import Derived.RowKit3
import Derived.Deep.LoopGhost
import Derived.Deep.QuietTactic
import Derived.BigQuiet
import Derived.WideLaws
import Derived.Deep.DeepCutAuto
import Derived.Deep.CutBlock
import Derived.Deep.RegionHeld3
import Derived.Laws.Rows
import Derived.Lib.AppendStr
import Derived.ArgAppend
import Derived.Laws.IdiomCopy
import Derived.OrdersHeld
import Derived.Laws.BitsLemmas
import Derived.RowKit
import Derived.Test.YtldbjnemjlmjpaaWWords
import Derived.Test.YtldbjnemjlmjpaaWLast
import Derived.Test.YtldbjnemjlmjpaaWTab
import Derived.Test.YtldbjnemjlmjpaaWFour
import Derived.Test.YtldbjnemjlmjpaaWQPut
import Derived.Test.YtldbjnemjlmjpaaWApart
import Derived.Test.YtldbjnemjlmjpaaWArr
import Derived.Test.YtldbjnemjlmjpaaWZeros
import Derived.Test.YtldbjnemjlmjpaaWFoot
import Derived.Test.YtldbjnemjlmjpaaWKept
import Derived.Test.YtldbjnemjlmjpaaWShare
import Derived.Test.YtldbjnemjlmjpaaWN
import Derived.Test.YtldbjnemjlmjpaaWFootNe
import Derived.Test.YtldbjnemjlmjpaaWAt
import Derived.Test.YtldbjnemjlmjpaaWEqStruct
import Derived.Test.YtldbjnemjlmjpaaWRepsOne
import Derived.Test.YtldbjnemjlmjpaaWInv
import Derived.Test.YtldbjnemjlmjpaaWInvWords
import Derived.Test.YtldbjnemjlmjpaaWGuard
import Derived.Test.YtldbjnemjlmjpaaWNEv
import Derived.Test.YtldbjnemjlmjpaaWMore
namespace Go.Proofs.Ytldbjnemjlmjpaa.P
open Go.RowKit Go.Proofs.YtldbjnemjlmjpaaW.PrintWords Go.Proofs.YtldbjnemjlmjpaaW.PrintLast Go.Proofs.YtldbjnemjlmjpaaW.PrintMore
attribute [local go_sem] max2_int min2_int max_two min_two max_three min_three max_four min_four   -- for this text's walks alone
set_option linter.unusedVariables false
set_option linter.unusedSimpArgs false



def errW : Option Int → Value
  | none => .nilIface
  | some c => .iface 0 (.int .i64 c)
theorem errW_none : errW none = .nilIface := rfl
theorem errW_some (c : Int) : errW (some c) = .iface 0 (.int .i64 c) := rfl

theorem info3 : (Try.prog.info? 3).map (fun i => (i.zero, i.size, i.bytes)) = some (some (.int .i64 0), 1, 8) := by kernel_rfl
-- the values' own types

end Go.Proofs.Ytldbjnemjlmjpaa.P
