/- A call that came in, opened; and what the listed variables give. -/
import Derived.Test.YtljgmbpfeajmhaaDoorRows
import Derived.Test.YtljgmbpfeajmhaaDoorSpelt
import Derived.Deep.Slices
import Derived.ChangeArms
import Derived.DataReads
import Derived.Lib.LaidTab
import Derived.SizedLaws
import Derived.LaidMore
namespace Go.Proofs.YtljgmbpfeajmhaaDoor
open Go.RowKit Go.ChangeShapes Go.WideShapes Go.Proofs.YtljgmbpfeajmhaaDoorW.PrintWords
set_option linter.unusedVariables false
section
variable {H : Type} {enc : TypeId × Value → H} {w : World} {base : Nat} {spare : Nat → Bool} {held : Bool}
/-- A call's datum. -/
def callD (c : Call7) : DataW H := .agg [.lit (.int .i64 c.kind), .lit (.int .u64 c.handle), .lit (.int .u64 c.other), .lit (.int .i64 c.give), .lit (.int .i64 c.grp), .lit (.int .i64 c.svc), .lit (.string c.txt)]
/-- Its numbers fit their kinds. -/
structure WfC (c : Call7) : Prop where
  kind : (Lit.int .i64 c.kind).wf = true
  handle : (Lit.int .u64 c.handle).wf = true
  other : (Lit.int .u64 c.other).wf = true
  give : (Lit.int .i64 c.give).wf = true
  grp : (Lit.int .i64 c.grp).wf = true
  svc : (Lit.int .i64 c.svc).wf = true
theorem list7 {α : Type} : ∀ {l : List α}, l.length = 7 → ∃ a b c d e f g, l = [a, b, c, d, e, f, g]
  | [a, b, c, d, e, f, g], _ => ⟨a, b, c, d, e, f, g, rfl⟩
theorem cells24 : Tryd.prog.cellsOf 3 = 1 ∧ Tryd.prog.cellsOf 22 = 1 ∧ Tryd.prog.cellsOf 9 = 1 ∧ Tryd.prog.cellsOf 24 = 7 := ⟨by kernel_rfl, by kernel_rfl, by kernel_rfl, by kernel_rfl⟩
theorem open_call (n : Nat) (cs : List Value) (y : DataW H × List MemPlace) (h : DataW.trod enc Tryd.prog w base spare held n 24 cs = some y) : ∃ c : Call7, cs = c.cells.toList ∧ WfC c ∧ y.1 = callD c := by
  obtain ⟨c3, c22, c9, c24⟩ := cells24
  obtain ⟨xs, m, _, hy, hcl, hl, hf⟩ := DataW.trod_struct Tryd.underlying24 h
  rw [c24] at hcl
  obtain ⟨v0, v1, v2, v3, v4, v5, v6, rfl⟩ := list7 hcl
  obtain ⟨y0, y1, y2, y3, y4, y5, y6, rfl⟩ := list7 (l := xs) hl
  have f0 : DataW.trod enc Tryd.prog w base spare held m 3 (([v0, v1, v2, v3, v4, v5, v6].drop 0).take (Tryd.prog.cellsOf 3)) = some y0 := hf 0 _ rfl
  have f1 : DataW.trod enc Tryd.prog w base spare held m 22 (([v0, v1, v2, v3, v4, v5, v6].drop 1).take (Tryd.prog.cellsOf 22)) = some y1 := hf 1 _ rfl
  have f2 : DataW.trod enc Tryd.prog w base spare held m 22 (([v0, v1, v2, v3, v4, v5, v6].drop 2).take (Tryd.prog.cellsOf 22)) = some y2 := hf 2 _ rfl
  have f3 : DataW.trod enc Tryd.prog w base spare held m 3 (([v0, v1, v2, v3, v4, v5, v6].drop 3).take (Tryd.prog.cellsOf 3)) = some y3 := hf 3 _ rfl
  have f4 : DataW.trod enc Tryd.prog w base spare held m 3 (([v0, v1, v2, v3, v4, v5, v6].drop 4).take (Tryd.prog.cellsOf 3)) = some y4 := hf 4 _ rfl
  have f5 : DataW.trod enc Tryd.prog w base spare held m 3 (([v0, v1, v2, v3, v4, v5, v6].drop 5).take (Tryd.prog.cellsOf 3)) = some y5 := hf 5 _ rfl
  have f6 : DataW.trod enc Tryd.prog w base spare held m 9 (([v0, v1, v2, v3, v4, v5, v6].drop 6).take (Tryd.prog.cellsOf 9)) = some y6 := hf 6 _ rfl
  rw [c3] at f0 f3 f4 f5
  rw [c22] at f1 f2
  rw [c9] at f6
  obtain ⟨n0, e0, d0, w0⟩ := DataW.trod_int Tryd.underlying3 f0
  obtain ⟨n1, e1, d1, w1⟩ := DataW.trod_int Tryd.underlying22 f1
  obtain ⟨n2, e2, d2, w2⟩ := DataW.trod_int Tryd.underlying22 f2
  obtain ⟨n3, e3, d3, w3⟩ := DataW.trod_int Tryd.underlying3 f3
  obtain ⟨n4, e4, d4, w4⟩ := DataW.trod_int Tryd.underlying3 f4
  obtain ⟨n5, e5, d5, w5⟩ := DataW.trod_int Tryd.underlying3 f5
  obtain ⟨s6, e6, d6, _⟩ := DataW.trod_string Tryd.underlying9 f6
  simp at e0 e1 e2 e3 e4 e5 e6
  subst e0 e1 e2 e3 e4 e5 e6 d0 d1 d2 d3 d4 d5 d6
  refine ⟨⟨n0, n1, n2, n3, n4, n5, s6.data.toList⟩, rfl, ⟨w0, w1, w2, w3, w4, w5⟩, ?_⟩
  rw [hy]
  rfl
theorem wf_and {k : IntKind} {n : Int} (h : (Lit.int k n).wf = true) : k.min ≤ n ∧ n ≤ k.max := by
  unfold Lit.wf at h
  rw [Bool.and_eq_true] at h
  exact ⟨of_decide_eq_true h.1, of_decide_eq_true h.2⟩
theorem wf_i64 {n : Int} (h : (Lit.int .i64 n).wf = true) : -9223372036854775808 ≤ n ∧ n ≤ 9223372036854775807 := wf_and h
theorem wf_u64 {n : Int} (h : (Lit.int .u64 n).wf = true) : 0 ≤ n ∧ n < 18446744073709551616 := by
  have := wf_and h
  have e : IntKind.max .u64 = 18446744073709551615 := by decide
  have e0 : IntKind.min .u64 = 0 := by decide
  omega
theorem WfC.fits {c : Call7} (h : WfC c) (ht : c.txt.length ≤ 140737488351232) : c.Fits :=
  ⟨(wf_i64 h.kind).1, (wf_i64 h.kind).2, (wf_u64 h.handle).1, (wf_u64 h.handle).2, (wf_u64 h.other).1, (wf_u64 h.other).2, (wf_i64 h.give).1, (wf_i64 h.give).2, (wf_i64 h.grp).1, (wf_i64 h.grp).2, (wf_i64 h.svc).1, (wf_i64 h.svc).2, ht⟩
theorem sized_call {ts : List TypeId} {ds : List (DataW H)} (h : (DataW.weightsEach Tryd.prog ts ds).all (· ≤ reachBytes) = true) {j : Nat} {c : Call7} (ht : ts[j]? = some 24) (hd : ds[j]? = some (callD c)) : c.txt.length ≤ 140737488351232 := by
  have hm := DataW.weights_mem_each ht hd c.txt.length (by
    unfold callD
    rw [DataW.weights, Tryd.underlying24]
    simp [DataW.weightsEach, DataW.weights])
  have := List.all_eq_true.1 h _ hm
  exact of_decide_eq_true this
end
/-! ### the listed variables -/
theorem gTens : Tryd.prog.globalNamed "internal/strconv.uint64pow10" = some 0 := by kernel_rfl
theorem gTensT : (Tryd.prog.globals[0]?).map (·.type) = some 81 := by kernel_rfl
theorem gRange : Tryd.prog.globalNamed "strconv.ErrRange" = some 3 := by kernel_rfl
theorem gRangeT : (Tryd.prog.globals[3]?).map (·.type) = some 67 := by kernel_rfl
theorem gSyntax : Tryd.prog.globalNamed "strconv.ErrSyntax" = some 2 := by kernel_rfl
theorem gSyntaxT : (Tryd.prog.globals[2]?).map (·.type) = some 67 := by kernel_rfl
theorem cells81 : Tryd.prog.cellsOf 81 = 20 := by kernel_rfl
theorem env_of_laid {W : World} {n1 n2 : String} {d1 d2 : DataW Unit} (h : laidMet Tryd.prog [(n1, d1), (n2, d2), ("internal/strconv.uint64pow10", Rows.laid_internal_strconv_uint64pow10), ("strconv.ErrRange", Rows.laid_strconv_ErrRange), ("strconv.ErrSyntax", Rows.laid_strconv_ErrSyntax)] W) : Tens W ∧ Errs W := by
  obtain ⟨ps, ⟨g0, t0, cs0, f0, p0, q0, _, _, _, _, ⟨g1, t1, cs1, f1, p1, q1, _, _, _, _, ⟨g2, t2, cs2, f2, p2, q2, hg, ht, hv, hd, ⟨g3, t3, cs3, f3, p3, q3, hg3, ht3, hv3, hd3, ⟨g4, t4, cs4, f4, p4, q4, hg4, ht4, hv4, hd4, _, _⟩, _⟩, _⟩, _⟩, _⟩, _, _⟩ := h
  obtain rfl := Option.some.inj (gTens.symm.trans hg)
  obtain rfl := Option.some.inj (gTensT.symm.trans ht)
  obtain rfl := Option.some.inj (gRange.symm.trans hg3)
  obtain rfl := Option.some.inj (gRangeT.symm.trans ht3)
  obtain rfl := Option.some.inj (gSyntax.symm.trans hg4)
  obtain rfl := Option.some.inj (gSyntaxT.symm.trans ht4)
  refine ⟨?_, ?_, ?_⟩
  · show W.var? Tryd.prog "internal/strconv.uint64pow10" = _
    rw [hv, ← Lib.cells_of_tab (zs := Lib.pow10Tab) (k := .u64) Tryd.underlying81 Tryd.underlying22 cells24.2.1 cells81 hd]
  · obtain ⟨_, u, v, hc, _⟩ := iface_of_trod Tryd.underlying67 hd4
    obtain rfl : cs4 = #[.iface u v] := Array.toList_inj.1 hc
    exact ⟨u, v, hv4⟩
  · obtain ⟨_, u, v, hc, _⟩ := iface_of_trod Tryd.underlying67 hd3
    obtain rfl : cs3 = #[.iface u v] := Array.toList_inj.1 hc
    exact ⟨u, v, hv3⟩
def setTab (cs : Array Value) : Obj → Obj
  | .cells _ t frozen => .cells cs t frozen
  | o => o
/-- A world for a witness: the settled one, the listed variables holding what their initialisers lay. -/
noncomputable def laidWorld (os : Os) : World :=
  { World.holding Tryd.prog os ⟨#[.cells #[.string ⟨#[105, 110, 118, 97, 108, 105, 100, 32, 115, 121, 110, 116, 97, 120]⟩] 105, .cells #[.string ⟨#[118, 97, 108, 117, 101, 32, 111, 117, 116, 32, 111, 102, 32, 114, 97, 110, 103, 101]⟩] 105], #[], []⟩ with heap := (((((World.holding Tryd.prog os ⟨#[.cells #[.string ⟨#[105, 110, 118, 97, 108, 105, 100, 32, 115, 121, 110, 116, 97, 120]⟩] 105, .cells #[.string ⟨#[118, 97, 108, 117, 101, 32, 111, 117, 116, 32, 111, 102, 32, 114, 97, 110, 103, 101]⟩] 105], #[], []⟩).heap.modify 0 (setTab #[.int .u64 1, .int .u64 10, .int .u64 100, .int .u64 1000, .int .u64 10000, .int .u64 100000, .int .u64 1000000, .int .u64 10000000, .int .u64 100000000, .int .u64 1000000000, .int .u64 10000000000, .int .u64 100000000000, .int .u64 1000000000000, .int .u64 10000000000000, .int .u64 100000000000000, .int .u64 1000000000000000, .int .u64 10000000000000000, .int .u64 100000000000000000, .int .u64 1000000000000000000, .int .u64 10000000000000000000])).modify 4 (setTab #[.int .u8 0, .int .u8 1, .int .u8 28, .int .u8 2, .int .u8 29, .int .u8 14, .int .u8 24, .int .u8 3, .int .u8 30, .int .u8 22, .int .u8 20, .int .u8 15, .int .u8 25, .int .u8 17, .int .u8 4, .int .u8 8, .int .u8 31, .int .u8 27, .int .u8 13, .int .u8 23, .int .u8 21, .int .u8 19, .int .u8 16, .int .u8 7, .int .u8 26, .int .u8 12, .int .u8 18, .int .u8 6, .int .u8 11, .int .u8 5, .int .u8 10, .int .u8 9])).modify 5 (setTab #[.int .u8 0, .int .u8 1, .int .u8 56, .int .u8 2, .int .u8 57, .int .u8 49, .int .u8 28, .int .u8 3, .int .u8 61, .int .u8 58, .int .u8 42, .int .u8 50, .int .u8 38, .int .u8 29, .int .u8 17, .int .u8 4, .int .u8 62, .int .u8 47, .int .u8 59, .int .u8 36, .int .u8 45, .int .u8 43, .int .u8 51, .int .u8 22, .int .u8 53, .int .u8 39, .int .u8 33, .int .u8 30, .int .u8 24, .int .u8 18, .int .u8 12, .int .u8 5, .int .u8 63, .int .u8 55, .int .u8 48, .int .u8 27, .int .u8 60, .int .u8 41, .int .u8 37, .int .u8 16, .int .u8 46, .int .u8 35, .int .u8 44, .int .u8 21, .int .u8 52, .int .u8 32, .int .u8 23, .int .u8 11, .int .u8 54, .int .u8 26, .int .u8 40, .int .u8 15, .int .u8 34, .int .u8 20, .int .u8 31, .int .u8 10, .int .u8 25, .int .u8 14, .int .u8 19, .int .u8 9, .int .u8 13, .int .u8 8, .int .u8 7, .int .u8 6])).modify 2 (setTab #[.iface 103 (.pointer (some ⟨(World.settled Tryd.prog os).heap.size, 0, none⟩))])).modify 3 (setTab #[.iface 103 (.pointer (some ⟨(World.settled Tryd.prog os).heap.size + 1, 0, none⟩))]) }
end Go.Proofs.YtljgmbpfeajmhaaDoor
