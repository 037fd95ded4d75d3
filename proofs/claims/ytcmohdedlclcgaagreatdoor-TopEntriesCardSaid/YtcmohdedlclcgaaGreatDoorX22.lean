/- Part of the proof of TopEntries: the law's runs, the third tenant. -/
import Derived.Test.YtcmohdedlclcgaaGreatDoorX19
set_option linter.unusedVariables false
set_option linter.unusedSimpArgs false
set_option linter.unusedSectionVars false
open Go.Proofs
namespace Go.Ex
set_option maxRecDepth 1000000
theorem main2_run0 (e : TypeId) (k c : Nat) : upto (fun s => upto (fun m => (runF ⟨2, s, 0, m, 0, true⟩ e k c).isSome) 16) 2 = true := by kernel_rfl
theorem main2_run2 (e : TypeId) (k c : Nat) : upto (fun o => upto (fun m => (runF ⟨2, 2, o, m, 0, true⟩ e k c).isSome) 16) 2 = true := by kernel_rfl
theorem main2_run3 (e : TypeId) (k c : Nat) : upto (fun o => upto (fun m => (runF ⟨2, 3, o, m, 0, true⟩ e k c).isSome) 16) 4 = true := by kernel_rfl
theorem main2_run4 (e : TypeId) (k c : Nat) : upto (fun o => upto (fun m => (runF ⟨2, 4, o, m, 0, true⟩ e k c).isSome) 16) 4 = true := by kernel_rfl
end Go.Ex
