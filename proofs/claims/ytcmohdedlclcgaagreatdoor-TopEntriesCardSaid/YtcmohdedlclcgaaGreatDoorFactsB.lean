/- Facts that TopEntries' row tells of the program, part 2. -/
import Derived.Test.YtcmohdedlclcgaaGreatDoorRows
import Derived.JoinedCond
import Derived.KernelRfl
set_option linter.unusedVariables false
set_option maxRecDepth 100000
namespace Go.Proofs.YtcmohdedlclcgaaGreatDoor.topEntries
theorem k10 : (Rows.topEntriesRow.inPlace == Tryz.prog.inPlace 3) = true := by kernel_rfl
theorem k11 : (Rows.topEntriesRow.unfollowed == Tryz.prog.unfollowed 3) = true := by kernel_rfl
theorem k12 : (Rows.topEntriesRow.recurses == Tryz.prog.recurses 3) = true := by kernel_rfl
end Go.Proofs.YtcmohdedlclcgaaGreatDoor.topEntries
