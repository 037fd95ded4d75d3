/- A list of truths, opened. -/
import Derived.Test.YtmdmoedakmoibaaOpen
namespace Go.Proofs.Ytmdmoedakmoibaa.P
open Go.RowKit Go.ChangeShapes Go.WideShapes Go.Proofs.YtmdmoedakmoibaaW.PrintWords
set_option linter.unusedVariables false
abbrev kB : Kd Bool := Kd.bool
def FitsB (_ : Bool) : Prop := True
theorem cells4 : Try.prog.cellsOf 4 = 1 := by kernel_rfl
section
variable {H : Type} {enc : TypeId × Value → H} {w : World} {base : Nat} {spare : Nat → Bool} {held : Bool}
theorem open_boolEl (n : Nat) (cs : List Value) (y : DataW H × List MemPlace) (h : DataW.trod enc Try.prog w base spare held n 4 cs = some y) : ∃ b : Bool, kB.K w b cs ∧ FitsB b := by
  obtain ⟨b, e, _⟩ := DataW.trod_bool Try.underlying4 h
  exact ⟨b, e, trivial⟩
end
end Go.Proofs.Ytmdmoedakmoibaa.P
