/- The listed variables of AuditTexts and AuditBack: what they are as laid, and a world for a witness. -/
import Derived.Test.YtoeioacgpildpaaDoorOpen
import Derived.Test.YtoeioacgpildpaaDoorFields
import Derived.Test.YtoeioacgpildpaaDoorBulk
set_option linter.unusedVariables false
namespace Go.Proofs.YtoeioacgpildpaaDoor
open Go.Proofs Go.RowKit
theorem gRange : Tryd.prog.globalNamed "strconv.ErrRange" = some 3 := by kernel_rfl
theorem gRangeT : (Tryd.prog.globals[3]?).map (·.type) = some 47 := by kernel_rfl
theorem gSynt : Tryd.prog.globalNamed "strconv.ErrSyntax" = some 2 := by kernel_rfl
theorem gSyntT : (Tryd.prog.globals[2]?).map (·.type) = some 47 := by kernel_rfl
theorem env_of_laid {W : World} {n1 n2 n3 : String} {d1 d2 d3 : DataW Unit} {r : List (String × DataW Unit)} (h : laidMet Tryd.prog ((n1, d1) :: (n2, d2) :: ("internal/strconv.uint64pow10", Rows.laid_internal_strconv_uint64pow10) :: (n3, d3) :: ("strconv.ErrRange", Rows.laid_strconv_ErrRange) :: ("strconv.ErrSyntax", Rows.laid_strconv_ErrSyntax) :: r) W) : Tens W ∧ Errs W := by
  obtain ⟨ps, ⟨g0, t0, cs0, f0, p0, q0, _, _, _, _, ⟨g1, t1, cs1, f1, p1, q1, _, _, _, _, ⟨g2, t2, cs2, f2, p2, q2, hg, ht, hv, hd, ⟨g5, t5, cs5, f5, p5, q5, _, _, _, _, ⟨g3, t3, cs3, f3, p3, q3, hg3, ht3, hv3, hd3, ⟨g4, t4, cs4, f4, p4, q4, hg4, ht4, hv4, hd4, _, _⟩, _⟩, _⟩, _⟩, _⟩, _⟩, _, _⟩ := h
  obtain rfl := Option.some.inj (gTens.symm.trans hg)
  obtain rfl := Option.some.inj (gTensT.symm.trans ht)
  obtain rfl := Option.some.inj (gRange.symm.trans hg3)
  obtain rfl := Option.some.inj (gRangeT.symm.trans ht3)
  obtain rfl := Option.some.inj (gSynt.symm.trans hg4)
  obtain rfl := Option.some.inj (gSyntT.symm.trans ht4)
  refine ⟨?_, ?_, ?_⟩
  · show W.var? Tryd.prog "internal/strconv.uint64pow10" = _
    rw [hv, ← Lib.cells_of_tab (zs := Lib.pow10Tab) (k := .u64) Tryd.underlying101 Tryd.underlying23 cells23.1 cells101 hd]
  · obtain ⟨_, u, v, hc, _⟩ := iface_of_trod Tryd.underlying47 hd4
    obtain rfl : cs4 = #[.iface u v] := Array.toList_inj.1 hc
    exact ⟨u, v, hv4⟩
  · obtain ⟨_, u, v, hc, _⟩ := iface_of_trod Tryd.underlying47 hd3
    obtain rfl : cs3 = #[.iface u v] := Array.toList_inj.1 hc
    exact ⟨u, v, hv3⟩
def lay1 : DataW Unit → List Value
  | .lit (.int k n) => [.int k n]
  | _ => []
def lay2 : DataW Unit → List Value
  | .agg l => l.flatMap lay1
  | d => lay1 d
def lay3 : DataW Unit → List Value
  | .agg l => l.flatMap lay2
  | d => lay2 d
/-- A world for a witness: the settled one, the listed variables holding what their initialisers lay. -/
noncomputable def laidWorldB (os : Os) : World :=
  { World.holding Tryd.prog os ⟨#[.cells #[.string ⟨#[105, 110, 118, 97, 108, 105, 100, 32, 115, 121, 110, 116, 97, 120]⟩] 118, .cells #[.string ⟨#[118, 97, 108, 117, 101, 32, 111, 117, 116, 32, 111, 102, 32, 114, 97, 110, 103, 101]⟩] 118], #[], []⟩ with heap := (((((((World.holding Tryd.prog os ⟨#[.cells #[.string ⟨#[105, 110, 118, 97, 108, 105, 100, 32, 115, 121, 110, 116, 97, 120]⟩] 118, .cells #[.string ⟨#[118, 97, 108, 117, 101, 32, 111, 117, 116, 32, 111, 102, 32, 114, 97, 110, 103, 101]⟩] 118], #[], []⟩).heap.modify 0 (setTab (lay3 Rows.laid_internal_strconv_uint64pow10).toArray)).modify 6 (setTab (lay3 Rows.laid_math_bits_deBruijn32tab).toArray)).modify 7 (setTab (lay3 Rows.laid_math_bits_deBruijn64tab).toArray)).modify 5 (setTab (lay3 Rows.laid_unicode_utf8_acceptRanges).toArray)).modify 4 (setTab (lay3 Rows.laid_unicode_utf8_first).toArray)).modify 2 (setTab #[.iface 116 (.pointer (some ⟨(World.settled Tryd.prog os).heap.size, 0, none⟩))])).modify 3 (setTab #[.iface 116 (.pointer (some ⟨(World.settled Tryd.prog os).heap.size + 1, 0, none⟩))]) }
theorem str_bulk {H : Type} (l : List UInt8) : l.length ≤ Rows.uptoBulk (.lit (.string l) : DataW H) := by
  simp only [Rows.uptoBulk]
  omega
end Go.Proofs.YtoeioacgpildpaaDoor
