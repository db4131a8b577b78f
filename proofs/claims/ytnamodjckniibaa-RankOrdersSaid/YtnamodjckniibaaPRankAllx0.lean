-- PRINTED BY print.sh 35421559b90ae4d0a3588c463048766b98c2df88dd9212a6774a882060cdf62d: not written by this session
import Derived.Test.YtnamodjckniibaaProg
import Derived.Below
import Derived.Deep.Draws
import Derived.Deep.AppendLies
import Derived.Maps.AppendAt
import Derived.OwnWalk
import Derived.Laws.BytesArg
import Derived.Laws.MakeOwn
import Derived.Laws.OwnMore
import Derived.Deep.OwnRows
import Derived.Tactics
import Derived.Lib.ConvBytes
import Derived.Laws.Slices
import Derived.WalkKit
import Derived.KernelRfl
import Derived.RowKit3
import Derived.Deep.LoopGhost
import Derived.Deep.QuietTactic
import Derived.BigQuiet
import Derived.WideLaws
import Derived.Deep.DeepCutAuto
import Derived.Deep.CutBlock
import Derived.Deep.RegionHeld3
import Derived.Laws.Rows
import Derived.Lib.AppendStr
import Derived.ArgAppend
import Derived.Laws.IdiomCopy
import Derived.OrdersHeld
import Derived.Laws.BitsLemmas
import Derived.RowKit
import Derived.Test.YtnamodjckniibaaWWords
import Derived.Test.YtnamodjckniibaaWLast
import Derived.Test.YtnamodjckniibaaWTab
import Derived.Test.YtnamodjckniibaaWFour
import Derived.Test.YtnamodjckniibaaWQPut
import Derived.Test.YtnamodjckniibaaWApart
import Derived.Test.YtnamodjckniibaaWArr
import Derived.Test.YtnamodjckniibaaWZeros
import Derived.Test.YtnamodjckniibaaWFoot
import Derived.Test.YtnamodjckniibaaWKept
import Derived.Test.YtnamodjckniibaaWShare
import Derived.Test.YtnamodjckniibaaWN
import Derived.Test.YtnamodjckniibaaWFootNe
import Derived.Test.YtnamodjckniibaaWAt
import Derived.Test.YtnamodjckniibaaWEqStruct
import Derived.Test.YtnamodjckniibaaWRepsOne
import Derived.Test.YtnamodjckniibaaWInv
import Derived.Test.YtnamodjckniibaaWInvWords
import Derived.Test.YtnamodjckniibaaWGuard
import Derived.Test.YtnamodjckniibaaWNEv
import Derived.Test.YtnamodjckniibaaWMore
namespace Go.Proofs.Ytnamodjckniibaa.PRankAll
open Go.RowKit Go.Proofs.YtnamodjckniibaaW.PrintWords Go.Proofs.YtnamodjckniibaaW.PrintLast Go.Proofs.YtnamodjckniibaaW.PrintMore
attribute [local go_sem] max2_int min2_int max_two min_two max_three min_three max_four min_four   -- for this text's walks alone
set_option linter.unusedVariables false
set_option linter.unusedSimpArgs false



def errW : Option Int → Value
  | none => .nilIface
  | some c => .iface 0 (.int .i64 c)
theorem errW_none : errW none = .nilIface := rfl
theorem errW_some (c : Int) : errW (some c) = .iface 0 (.int .i64 c) := rfl

-- the values' own types

end Go.Proofs.Ytnamodjckniibaa.PRankAll
