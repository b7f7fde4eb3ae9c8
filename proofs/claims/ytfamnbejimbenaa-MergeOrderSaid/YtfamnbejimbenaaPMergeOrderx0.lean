-- PRINTED BY print.sh 35421559b90ae4d0a3588c463048766b98c2df88dd9212a6774a882060cdf62d: not written by this session
import Derived.Test.YtfamnbejimbenaaProg
import Derived.Below
import Derived.Deep.Draws
import Derived.Deep.AppendLies
import Derived.Maps.AppendAt
import Derived.OwnWalk
import Derived.Laws.BytesArg
import Derived.Laws.MakeOwn
import Derived.Laws.OwnMore
import Derived.Deep.OwnRows
import Derived.Tactics
import Derived.Lib.ConvBytes
import Derived.Laws.Slices
import Derived.WalkKit
import Derived.KernelRfl
import Derived.RowKit3
import Derived.Deep.LoopGhost
import Derived.Deep.QuietTactic
import Derived.BigQuiet
import Derived.WideLaws
import Derived.Deep.DeepCutAuto
import Derived.Deep.CutBlock
import Derived.Deep.RegionHeld3
import Derived.Laws.Rows
import Derived.Lib.AppendStr
import Derived.ArgAppend
import Derived.Laws.IdiomCopy
import Derived.OrdersHeld
import Derived.Laws.BitsLemmas
import Derived.RowKit
import Derived.Test.YtfamnbejimbenaaWWords
import Derived.Test.YtfamnbejimbenaaWLast
import Derived.Test.YtfamnbejimbenaaWTab
import Derived.Test.YtfamnbejimbenaaWFour
import Derived.Test.YtfamnbejimbenaaWQPut
import Derived.Test.YtfamnbejimbenaaWApart
import Derived.Test.YtfamnbejimbenaaWArr
import Derived.Test.YtfamnbejimbenaaWZeros
import Derived.Test.YtfamnbejimbenaaWFoot
import Derived.Test.YtfamnbejimbenaaWKept
import Derived.Test.YtfamnbejimbenaaWShare
import Derived.Test.YtfamnbejimbenaaWN
import Derived.Test.YtfamnbejimbenaaWFootNe
import Derived.Test.YtfamnbejimbenaaWAt
import Derived.Test.YtfamnbejimbenaaWEqStruct
import Derived.Test.YtfamnbejimbenaaWRepsOne
import Derived.Test.YtfamnbejimbenaaWInv
import Derived.Test.YtfamnbejimbenaaWInvWords
import Derived.Test.YtfamnbejimbenaaWGuard
import Derived.Test.YtfamnbejimbenaaWNEv
import Derived.Test.YtfamnbejimbenaaWMore
namespace Go.Proofs.Ytfamnbejimbenaa.PMergeOrder
open Go.RowKit Go.Proofs.YtfamnbejimbenaaW.PrintWords Go.Proofs.YtfamnbejimbenaaW.PrintLast Go.Proofs.YtfamnbejimbenaaW.PrintMore
attribute [local go_sem] max2_int min2_int max_two min_two max_three min_three max_four min_four   -- for this text's walks alone
set_option linter.unusedVariables false
set_option linter.unusedSimpArgs false



def errW : Option Int → Value
  | none => .nilIface
  | some c => .iface 0 (.int .i64 c)
theorem errW_none : errW none = .nilIface := rfl
theorem errW_some (c : Int) : errW (some c) = .iface 0 (.int .i64 c) := rfl

-- the values' own types

end Go.Proofs.Ytfamnbejimbenaa.PMergeOrder
