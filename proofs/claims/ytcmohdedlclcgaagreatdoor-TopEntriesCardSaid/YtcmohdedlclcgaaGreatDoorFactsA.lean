/- Facts that TopEntries' row tells of the program, part 1. -/
import Derived.Test.YtcmohdedlclcgaaGreatDoorRows
import Derived.JoinedCond
import Derived.KernelRfl
set_option linter.unusedVariables false
set_option maxRecDepth 100000
namespace Go.Proofs.YtcmohdedlclcgaaGreatDoor.topEntries
theorem k1 : Rows.topEntriesRow.wf (OpenSpec.ofChange (OpenSpec.ofChange Rows.topEntriesSpec).bare) = true := by kernel_rfl
theorem k2 : laidOutB Tryz.prog = true := by kernel_rfl
theorem k3 : mapsRowed Tryz.prog = true := by kernel_rfl
theorem k4 : Tryz.f3.params.all (Tryz.prog.readableRec ·) = true := by kernel_rfl
theorem k5 : namedTie Tryz.prog Rows.topEntriesRow.named (OpenSpec.ofChange Rows.topEntriesSpec).bare.vars = true := by kernel_rfl
theorem k6 : (Rows.topEntriesRow.stops == []) = true := by kernel_rfl
theorem k7 : (Tryz.prog.stops == []) = true := by kernel_rfl
theorem k8 : (Rows.topEntriesRow.knobs == []) = true := by kernel_rfl
theorem k9 : (Tryz.prog.stopKnobs == []) = true := by kernel_rfl
end Go.Proofs.YtcmohdedlclcgaaGreatDoor.topEntries
