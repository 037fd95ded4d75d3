-- Written by a program of this session (wip/pprint.sh), out of the translation's own print. Not trusted: Lean checks it.
import Derived.Test.YtnlecbngkemllaaProg
import Derived.Below
import Derived.Deep.Draws
import Derived.Deep.AppendLies
import Derived.Maps.AppendAt
import Derived.OwnWalk
import Derived.Laws.BytesArg
import Derived.Laws.MakeOwn
import Derived.Laws.OwnMore
import Derived.Deep.OwnRows
import Derived.Tactics
import Derived.Lib.ConvBytes
import Derived.Laws.Slices
import Derived.WalkKit
import Derived.KernelRfl
import Derived.RowKit3
import Derived.Deep.LoopGhost
import Derived.Deep.QuietTactic
import Derived.BigQuiet
import Derived.WideLaws
import Derived.Deep.DeepCutAuto
import Derived.Deep.CutBlock
import Derived.Deep.RegionHeld3
import Derived.Laws.Rows
import Derived.Lib.AppendStr
import Derived.ArgAppend
import Derived.Laws.IdiomCopy
import Derived.OrdersHeld
import Derived.Laws.BitsLemmas
import Derived.RowKit
import Derived.Test.YtnlecbngkemllaaOf
import Derived.Test.YtnlecbngkemllaaWWords
import Derived.Test.YtnlecbngkemllaaWLast
import Derived.Test.YtnlecbngkemllaaWTab
import Derived.Test.YtnlecbngkemllaaWFour
import Derived.Test.YtnlecbngkemllaaWQPut
import Derived.Test.YtnlecbngkemllaaWApart
import Derived.Test.YtnlecbngkemllaaWArr
import Derived.Test.YtnlecbngkemllaaWZeros
import Derived.Test.YtnlecbngkemllaaWFoot
import Derived.Test.YtnlecbngkemllaaWKept
import Derived.Test.YtnlecbngkemllaaWShare
import Derived.Test.YtnlecbngkemllaaWN
import Derived.Test.YtnlecbngkemllaaWFootNe
import Derived.Test.YtnlecbngkemllaaWAt
import Derived.Test.YtnlecbngkemllaaWEqStruct
import Derived.Test.YtnlecbngkemllaaWRepsOne
import Derived.Test.YtnlecbngkemllaaWInv
import Derived.Test.YtnlecbngkemllaaWInvWords
import Derived.Test.YtnlecbngkemllaaWGuard
import Derived.Test.YtnlecbngkemllaaWNEv
import Derived.Test.YtnlecbngkemllaaWMore
namespace Go.Proofs.Ytnlecbngkemllaa.P
open Go.RowKit Go.Proofs.YtnlecbngkemllaaW.PrintWords Go.Proofs.YtnlecbngkemllaaW.PrintLast Go.Proofs.YtnlecbngkemllaaW.PrintMore
attribute [local go_sem] max2_int min2_int max_two min_two max_three min_three max_four min_four   -- for this text's walks alone
set_option linter.unusedVariables false
set_option linter.unusedSimpArgs false



def errW : Option Int → Value
  | none => .nilIface
  | some c => .iface 0 (.int .i64 c)
theorem errW_none : errW none = .nilIface := rfl
theorem errW_some (c : Int) : errW (some c) = .iface 0 (.int .i64 c) := rfl

theorem info5 : (Try.prog.info? 5).map (fun i => (i.zero, i.size, i.bytes)) = some (some (.int .u8 0), 1, 1) := by kernel_rfl
-- the values' own types

end Go.Proofs.Ytnlecbngkemllaa.P
