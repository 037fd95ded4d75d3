-- Written by a program of this session (wip/pprint.sh), out of the translation's own print. Not trusted: Lean checks it.
import Derived.Test.YtljgmbpfeajmhaaDoorProg
import Derived.Below
import Derived.Deep.Draws
import Derived.Deep.AppendLies
import Derived.Maps.AppendAt
import Derived.OwnWalk
import Derived.Laws.BytesArg
import Derived.Laws.MakeOwn
import Derived.Laws.OwnMore
import Derived.Deep.OwnRows
import Derived.Tactics
import Derived.Lib.ConvBytes
import Derived.Laws.Slices
import Derived.WalkKit
import Derived.KernelRfl
import Derived.RowKit3
import Derived.Deep.LoopGhost
import Derived.Deep.QuietTactic
import Derived.BigQuiet
import Derived.WideLaws
import Derived.Deep.DeepCutAuto
import Derived.Deep.CutBlock
import Derived.Deep.RegionHeld3
import Derived.Laws.Rows
import Derived.Lib.AppendStr
import Derived.ArgAppend
import Derived.Laws.IdiomCopy
import Derived.OrdersHeld
import Derived.Laws.BitsLemmas
import Derived.RowKit
import Derived.Test.YtljgmbpfeajmhaaDoorShelf
import Derived.Test.YtljgmbpfeajmhaaDoorWWords
import Derived.Test.YtljgmbpfeajmhaaDoorWLast
import Derived.Test.YtljgmbpfeajmhaaDoorWTab
import Derived.Test.YtljgmbpfeajmhaaDoorWFour
import Derived.Test.YtljgmbpfeajmhaaDoorWQPut
import Derived.Test.YtljgmbpfeajmhaaDoorWApart
import Derived.Test.YtljgmbpfeajmhaaDoorWArr
import Derived.Test.YtljgmbpfeajmhaaDoorWZeros
import Derived.Test.YtljgmbpfeajmhaaDoorWFoot
import Derived.Test.YtljgmbpfeajmhaaDoorWKept
import Derived.Test.YtljgmbpfeajmhaaDoorWShare
import Derived.Test.YtljgmbpfeajmhaaDoorWN
import Derived.Test.YtljgmbpfeajmhaaDoorWFootNe
import Derived.Test.YtljgmbpfeajmhaaDoorWAt
import Derived.Test.YtljgmbpfeajmhaaDoorWEqStruct
import Derived.Test.YtljgmbpfeajmhaaDoorWRepsOne
import Derived.Test.YtljgmbpfeajmhaaDoorWInv
import Derived.Test.YtljgmbpfeajmhaaDoorWInvWords
import Derived.Test.YtljgmbpfeajmhaaDoorWGuard
import Derived.Test.YtljgmbpfeajmhaaDoorWNEv
import Derived.Test.YtljgmbpfeajmhaaDoorWMore
namespace Go.Proofs.YtljgmbpfeajmhaaDoor.P
open Go.RowKit Go.Proofs.YtljgmbpfeajmhaaDoorW.PrintWords Go.Proofs.YtljgmbpfeajmhaaDoorW.PrintLast Go.Proofs.YtljgmbpfeajmhaaDoorW.PrintMore
attribute [local go_sem] max2_int min2_int max_two min_two max_three min_three max_four min_four   -- for this text's walks alone
set_option linter.unusedVariables false
set_option linter.unusedSimpArgs false



def errW : Option Int → Value
  | none => .nilIface
  | some c => .iface 88 (.int .i64 c)
theorem errW_none : errW none = .nilIface := rfl
theorem errW_some (c : Int) : errW (some c) = .iface 88 (.int .i64 c) := rfl

theorem info3 : (Tryd.prog.info? 3).map (fun i => (i.zero, i.size, i.bytes)) = some (some (.int .i64 0), 1, 8) := by kernel_rfl
theorem info9 : (Tryd.prog.info? 9).map (fun i => (i.zero, i.size, i.bytes)) = some (some (.string ⟨#[]⟩), 1, 16) := by kernel_rfl
-- the values' own types

end Go.Proofs.YtljgmbpfeajmhaaDoor.P
