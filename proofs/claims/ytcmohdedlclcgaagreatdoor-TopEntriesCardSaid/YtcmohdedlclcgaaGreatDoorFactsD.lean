/- Facts that TopEntries' card tells of the program. -/
import Derived.Test.YtcmohdedlclcgaaGreatDoorCards
import Derived.WalkKit
import Derived.KernelRfl
import Derived.SevenTiedAt
set_option linter.unusedVariables false
set_option maxRecDepth 100000
namespace Go.Proofs.YtcmohdedlclcgaaGreatDoor.topEntries
theorem fnamed : Tryz.prog.funcNamed "congress/congresstop.TopEntries" = some 3 := by kernel_rfl
theorem looks : true = Tryz.pinned.checked.prog.looks [] := by kernel_rfl
theorem stand : ([35, 3, 36].all fun u => !Tryz.prog.wantsStandIn u) = true := by kernel_rfl
theorem mainIs : Tryz.pinned.checked.prog.mainIs = some (Rows.topEntriesCard.stood.harness.1, Rows.topEntriesCard.stood.harness.2.toList) := by kernel_rfl
end Go.Proofs.YtcmohdedlclcgaaGreatDoor.topEntries
