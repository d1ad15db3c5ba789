-- Out of the kit's print, slimmed by a program of this session (wip/slim.py).
import Derived.Test.YtgiaogocdihhhaaDoorProg
import Derived.Below
import Derived.Deep.Draws
import Derived.Deep.AppendLies
import Derived.Maps.AppendAt
import Derived.OwnWalk
import Derived.Laws.BytesArg
import Derived.Laws.MakeOwn
import Derived.Laws.OwnMore
import Derived.Deep.OwnRows
import Derived.Tactics
import Derived.Lib.ConvBytes
import Derived.Laws.Slices
import Derived.WalkKit
import Derived.KernelRfl
import Derived.RowKit3
import Derived.Deep.LoopGhost
import Derived.Deep.QuietTactic
import Derived.BigQuiet
import Derived.WideLaws
import Derived.Deep.DeepCutAuto
import Derived.Deep.CutBlock
import Derived.Deep.RegionHeld3
import Derived.Laws.Rows
import Derived.Lib.AppendStr
import Derived.ArgAppend
import Derived.Laws.IdiomCopy
import Derived.OrdersHeld
import Derived.Laws.BitsLemmas
import Derived.RowKit
import Derived.Test.YtgiaogocdihhhaaDoorWWords
import Derived.Test.YtgiaogocdihhhaaDoorWLast
import Derived.Test.YtgiaogocdihhhaaDoorWTab
import Derived.Test.YtgiaogocdihhhaaDoorWApart
import Derived.Test.YtgiaogocdihhhaaDoorWFoot
import Derived.Test.YtgiaogocdihhhaaDoorWKept
import Derived.Test.YtgiaogocdihhhaaDoorWShare
import Derived.Test.YtgiaogocdihhhaaDoorWN
import Derived.Laws.StructEq
import Derived.Test.YtgiaogocdihhhaaDoorWRepsOne
import Derived.Test.YtgiaogocdihhhaaDoorWMore
namespace Go.Proofs.YtgiaogocdihhhaaDoor.PFnExactRuneAt
open Go.RowKit Go.Proofs.YtgiaogocdihhhaaDoorW.PrintWords Go.Proofs.YtgiaogocdihhhaaDoorW.PrintLast Go.Proofs.YtgiaogocdihhhaaDoorW.PrintMore
attribute [local go_sem] max2_int min2_int max_two min_two max_three min_three max_four min_four   -- for this text's walks alone
set_option linter.unusedVariables false
set_option linter.unusedSimpArgs false

def errW : Option Int → Value
  | none => .nilIface
  | some c => .iface 0 (.int .i64 c)
theorem errW_none : errW none = .nilIface := rfl
theorem errW_some (c : Int) : errW (some c) = .iface 0 (.int .i64 c) := rfl

-- the values' own types

end Go.Proofs.YtgiaogocdihhhaaDoor.PFnExactRuneAt
