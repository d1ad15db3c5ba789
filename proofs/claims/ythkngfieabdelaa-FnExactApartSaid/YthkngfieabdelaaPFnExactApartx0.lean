-- Written by a program of this session (wip/print2.sh) out of the translation.
import Derived.Test.YthkngfieabdelaaProg
import Derived.Below
import Derived.Deep.Draws
import Derived.Deep.AppendLies
import Derived.Maps.AppendAt
import Derived.OwnWalk
import Derived.Laws.BytesArg
import Derived.Laws.MakeOwn
import Derived.Laws.OwnMore
import Derived.Deep.OwnRows
import Derived.Tactics
import Derived.Lib.ConvBytes
import Derived.Laws.Slices
import Derived.WalkKit
import Derived.KernelRfl
import Derived.RowKit3
import Derived.Deep.LoopGhost
import Derived.Deep.QuietTactic
import Derived.BigQuiet
import Derived.WideLaws
import Derived.Deep.DeepCutAuto
import Derived.Deep.CutBlock
import Derived.Deep.RegionHeld3
import Derived.Laws.Rows
import Derived.Lib.AppendStr
import Derived.ArgAppend
import Derived.Laws.IdiomCopy
import Derived.OrdersHeld
import Derived.Laws.BitsLemmas
import Derived.RowKit
import Derived.Test.YthkngfieabdelaaWWords
import Derived.Test.YthkngfieabdelaaWLast
import Derived.Test.YthkngfieabdelaaWTab
import Derived.Test.YthkngfieabdelaaWFour
import Derived.Test.YthkngfieabdelaaWQPut
import Derived.Test.YthkngfieabdelaaWApart
import Derived.Test.YthkngfieabdelaaWArr
import Derived.Test.YthkngfieabdelaaWZeros
import Derived.Test.YthkngfieabdelaaWFoot
import Derived.Test.YthkngfieabdelaaWKept
import Derived.Test.YthkngfieabdelaaWShare
import Derived.Test.YthkngfieabdelaaWN
import Derived.Test.YthkngfieabdelaaWFootNe
import Derived.Test.YthkngfieabdelaaWAt
import Derived.Test.YthkngfieabdelaaWEqStruct
import Derived.Test.YthkngfieabdelaaWRepsOne
import Derived.Test.YthkngfieabdelaaWInv
import Derived.Test.YthkngfieabdelaaWInvWords
import Derived.Test.YthkngfieabdelaaWGuard
import Derived.Test.YthkngfieabdelaaWNEv
import Derived.Test.YthkngfieabdelaaWMore
namespace Go.Proofs.Ythkngfieabdelaa.PFnExactApart
open Go.RowKit Go.Proofs.YthkngfieabdelaaW.PrintWords Go.Proofs.YthkngfieabdelaaW.PrintLast Go.Proofs.YthkngfieabdelaaW.PrintMore
attribute [local go_sem] max2_int min2_int max_two min_two max_three min_three max_four min_four   -- for this text's walks alone
set_option linter.unusedVariables false
set_option linter.unusedSimpArgs false



def errW : Option Int → Value
  | none => .nilIface
  | some c => .iface 0 (.int .i64 c)
theorem errW_none : errW none = .nilIface := rfl
theorem errW_some (c : Int) : errW (some c) = .iface 0 (.int .i64 c) := rfl

-- the values' own types

end Go.Proofs.Ythkngfieabdelaa.PFnExactApart
