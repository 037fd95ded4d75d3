/- A list of acts, opened. -/
import Derived.Test.YtmdmoedakmoibaaOpen
import Derived.Test.YtmdmoedakmoibaaAct
namespace Go.Proofs.Ytmdmoedakmoibaa.P
open Go.RowKit Go.ChangeShapes Go.WideShapes Go.Proofs.YtmdmoedakmoibaaW.PrintWords
set_option linter.unusedVariables false
def FitsA (_ : S42) : Prop := True
theorem cells42 : Try.prog.cellsOf 42 = 9 := by kernel_rfl
section
variable {H : Type} {enc : TypeId × Value → H} {w : World} {base : Nat} {spare : Nat → Bool} {held : Bool}
theorem open_act (n : Nat) (cs : List Value) (y : DataW H × List MemPlace) (h : DataW.trod enc Try.prog w base spare held n 42 cs = some y) : ∃ x : S42, k42.K w x cs ∧ FitsA x := by
  obtain ⟨c3, c29, c9, c31⟩ := cells1
  obtain ⟨xs, m, _, _, hcl, hl, hf⟩ := DataW.trod_struct Try.underlying42 h
  rw [cells42] at hcl
  match cs, hcl with
  | [v0, v1, v2, v3, v4, v5, v6, v7, v8], _ =>
    match xs, hl with
    | [y0, y1, y2, y3], _ =>
      have f0 : DataW.trod enc Try.prog w base spare held m 3 (([v0, v1, v2, v3, v4, v5, v6, v7, v8].drop 0).take (Try.prog.cellsOf 3)) = some y0 := hf 0 _ rfl
      rw [c3] at f0
      have f1 : DataW.trod enc Try.prog w base spare held m 3 (([v0, v1, v2, v3, v4, v5, v6, v7, v8].drop 1).take (Try.prog.cellsOf 3)) = some y1 := hf 1 _ rfl
      rw [c3] at f1
      have f2 : DataW.trod enc Try.prog w base spare held m 31 (([v0, v1, v2, v3, v4, v5, v6, v7, v8].drop 2).take (Try.prog.cellsOf 31)) = some y2 := hf 2 _ rfl
      rw [c31] at f2
      have f3 : DataW.trod enc Try.prog w base spare held m 29 (([v0, v1, v2, v3, v4, v5, v6, v7, v8].drop 8).take (Try.prog.cellsOf 29)) = some y3 := hf 3 _ rfl
      rw [c29] at f3
      obtain ⟨n0, e0, _, w0⟩ := DataW.trod_int Try.underlying3 f0
      obtain ⟨n1, e1, _, w1⟩ := DataW.trod_int Try.underlying3 f1
      obtain ⟨n3, e3, _, w3⟩ := DataW.trod_int Try.underlying29 f3
      obtain ⟨e, hK, _⟩ := open_entry m _ _ f2
      have hK2 := k31_open hK
      simp at e0 e1 e3 hK2
      obtain ⟨rfl, rfl, rfl, rfl, rfl, rfl⟩ := hK2
      subst e0 e1 e3
      exact ⟨⟨n0, n1, e, n3⟩, k42_mk w ⟨n0, n1, e, n3⟩, trivial⟩
end
end Go.Proofs.Ytmdmoedakmoibaa.P
