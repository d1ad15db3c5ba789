-- Written by a program of this session (wip/print2.sh) out of the translation.
import Derived.Test.YtjldnehlcplccaaProg
import Derived.Below
import Derived.Deep.Draws
import Derived.Deep.AppendLies
import Derived.Maps.AppendAt
import Derived.OwnWalk
import Derived.Laws.BytesArg
import Derived.Laws.MakeOwn
import Derived.Laws.OwnMore
import Derived.Deep.OwnRows
import Derived.Tactics
import Derived.Lib.ConvBytes
import Derived.Laws.Slices
import Derived.WalkKit
import Derived.KernelRfl
import Derived.RowKit3
import Derived.Deep.LoopGhost
import Derived.Deep.QuietTactic
import Derived.BigQuiet
import Derived.WideLaws
import Derived.Deep.DeepCutAuto
import Derived.Deep.CutBlock
import Derived.Deep.RegionHeld3
import Derived.Laws.Rows
import Derived.Lib.AppendStr
import Derived.ArgAppend
import Derived.Laws.IdiomCopy
import Derived.OrdersHeld
import Derived.Laws.BitsLemmas
import Derived.RowKit
import Derived.Test.YtjldnehlcplccaaWWords
import Derived.Test.YtjldnehlcplccaaWLast
import Derived.Test.YtjldnehlcplccaaWTab
import Derived.Test.YtjldnehlcplccaaWFour
import Derived.Test.YtjldnehlcplccaaWQPut
import Derived.Test.YtjldnehlcplccaaWApart
import Derived.Test.YtjldnehlcplccaaWArr
import Derived.Test.YtjldnehlcplccaaWZeros
import Derived.Test.YtjldnehlcplccaaWFoot
import Derived.Test.YtjldnehlcplccaaWKept
import Derived.Test.YtjldnehlcplccaaWShare
import Derived.Test.YtjldnehlcplccaaWN
import Derived.Test.YtjldnehlcplccaaWFootNe
import Derived.Test.YtjldnehlcplccaaWAt
import Derived.Test.YtjldnehlcplccaaWEqStruct
import Derived.Test.YtjldnehlcplccaaWRepsOne
import Derived.Test.YtjldnehlcplccaaWInv
import Derived.Test.YtjldnehlcplccaaWInvWords
import Derived.Test.YtjldnehlcplccaaWGuard
import Derived.Test.YtjldnehlcplccaaWNEv
import Derived.Test.YtjldnehlcplccaaWMore
namespace Go.Proofs.Ytjldnehlcplccaa.PFnMeasures
open Go.RowKit Go.Proofs.YtjldnehlcplccaaW.PrintWords Go.Proofs.YtjldnehlcplccaaW.PrintLast Go.Proofs.YtjldnehlcplccaaW.PrintMore
attribute [local go_sem] max2_int min2_int max_two min_two max_three min_three max_four min_four   -- for this text's walks alone
set_option linter.unusedVariables false
set_option linter.unusedSimpArgs false



def errW : Option Int → Value
  | none => .nilIface
  | some c => .iface 0 (.int .i64 c)
theorem errW_none : errW none = .nilIface := rfl
theorem errW_some (c : Int) : errW (some c) = .iface 0 (.int .i64 c) := rfl

-- the values' own types

end Go.Proofs.Ytjldnehlcplccaa.PFnMeasures
