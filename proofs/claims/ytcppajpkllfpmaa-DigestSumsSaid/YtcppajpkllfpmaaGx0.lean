/- The plain Lean functions of the seat's Go functions and, for each, that the Go call does what it does; written by a program of this session after the kit's print. -/
import Derived.Test.YtcppajpkllfpmaaProg
import Derived.Below
import Derived.Deep.Draws
import Derived.Deep.AppendLies
import Derived.Maps.AppendAt
import Derived.OwnWalk
import Derived.Laws.BytesArg
import Derived.Laws.MakeOwn
import Derived.Laws.OwnMore
import Derived.Deep.OwnRows
import Derived.Tactics
import Derived.Lib.ConvBytes
import Derived.Laws.Slices
import Derived.WalkKit
import Derived.KernelRfl
import Derived.RowKit3
import Derived.Deep.LoopGhost
import Derived.Deep.QuietTactic
import Derived.BigQuiet
import Derived.WideLaws
import Derived.Deep.DeepCutAuto
import Derived.Deep.CutBlock
import Derived.Deep.RegionHeld3
import Derived.Laws.Rows
import Derived.Lib.AppendStr
import Derived.ArgAppend
import Derived.Laws.IdiomCopy
import Derived.OrdersHeld
import Derived.Laws.BitsLemmas
import Derived.RowKit
import Derived.Test.YtcppajpkllfpmaaWWords
import Derived.Test.YtcppajpkllfpmaaWLast
import Derived.Test.YtcppajpkllfpmaaWTab
import Derived.Test.YtcppajpkllfpmaaWFour
import Derived.Test.YtcppajpkllfpmaaWQPut
import Derived.Test.YtcppajpkllfpmaaWApart
import Derived.Test.YtcppajpkllfpmaaWArr
import Derived.Test.YtcppajpkllfpmaaWZeros
import Derived.Test.YtcppajpkllfpmaaWFoot
import Derived.Test.YtcppajpkllfpmaaWKept
import Derived.Test.YtcppajpkllfpmaaWShare
import Derived.Test.YtcppajpkllfpmaaWN
import Derived.Test.YtcppajpkllfpmaaWFootNe
import Derived.Test.YtcppajpkllfpmaaWAt
import Derived.Test.YtcppajpkllfpmaaWEqStruct
import Derived.Test.YtcppajpkllfpmaaWRepsOne
import Derived.Test.YtcppajpkllfpmaaWInv
import Derived.Test.YtcppajpkllfpmaaWInvWords
import Derived.Test.YtcppajpkllfpmaaWGuard
import Derived.Test.YtcppajpkllfpmaaWNEv
import Derived.Test.YtcppajpkllfpmaaWMore
namespace Go.Proofs.Ytcppajpkllfpmaa.X
end Go.Proofs.Ytcppajpkllfpmaa.X
namespace Go.Proofs.Ytcppajpkllfpmaa.G
open Go.Proofs.Ytcppajpkllfpmaa.X
open Go.RowKit Go.Proofs.YtcppajpkllfpmaaW.PrintWords Go.Proofs.YtcppajpkllfpmaaW.PrintLast Go.Proofs.YtcppajpkllfpmaaW.PrintMore
attribute [local go_sem] max2_int min2_int max_two min_two max_three min_three max_four min_four   -- for this text's walks alone
set_option linter.unusedVariables false
set_option linter.unusedSimpArgs false



def errW : Option Int → Value
  | none => .nilIface
  | some c => .iface 0 (.int .i64 c)
theorem errW_none : errW none = .nilIface := rfl
theorem errW_some (c : Int) : errW (some c) = .iface 0 (.int .i64 c) := rfl

theorem info5 : (Try.prog.info? 5).map (fun i => (i.zero, i.size, i.bytes)) = some (some (.int .u8 0), 1, 1) := by kernel_rfl
-- the values' own types

end Go.Proofs.Ytcppajpkllfpmaa.G
