/- A fact that TopEntries' card tells of the program. -/
import Derived.Test.YtcmohdedlclcgaaGreatDoorCards
import Derived.WalkKit
import Derived.KernelRfl
import Derived.SevenTiedAt
set_option linter.unusedVariables false
set_option maxRecDepth 100000
namespace Go.Proofs.YtcmohdedlclcgaaGreatDoor.topEntries
theorem none_goes : Tryz.prog.funcs.any Func.goes = false := by kernel_rfl
theorem goes_of {P : Program} (h : P.funcs.any Func.goes = false) (f : FuncId) : P.goes f = false := by
  unfold Program.goes
  rw [h, Bool.and_false, Bool.or_false]
  apply Bool.eq_false_iff.2
  intro hc
  obtain ⟨g, _, hg⟩ := List.any_eq_true.1 hc
  cases hf : P.funcs[g]? with
  | none => rw [hf] at hg; cases hg
  | some fn =>
    rw [hf] at hg
    have : P.funcs.any Func.goes = true := Array.any_eq_true.2 (by
      obtain ⟨hlt, he⟩ := Array.getElem?_eq_some_iff.1 hf
      exact ⟨g, hlt, by rw [he]; exact hg⟩)
    rw [h] at this
    cases this
theorem goes_from {P : Program} (h : P.funcs.any Func.goes = false) (s : String) : P.goesAt .entering s = false := by
  unfold Program.goesAt Program.goesFrom
  cases P.funcNamed s with
  | none => rfl
  | some f =>
    show (P.goes f || false) = false
    rw [goes_of h f]; rfl
theorem goes : false = Rows.topEntriesRow.goesBy Tryz.pinned.checked.prog := (goes_from none_goes _).symm
theorem byText : Rows.topEntriesRow.wfByText (OpenSpec.ofChange Rows.topEntriesSpec) = true := by kernel_rfl
end Go.Proofs.YtcmohdedlclcgaaGreatDoor.topEntries
