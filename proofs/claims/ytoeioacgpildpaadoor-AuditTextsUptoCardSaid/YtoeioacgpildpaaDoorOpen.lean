/- Arguments that hold records, opened; and what the listed tables give. -/
import Derived.Test.YtoeioacgpildpaaDoorRows
import Derived.Test.YtoeioacgpildpaaDoorText
import Derived.Deep.Slices
import Derived.ChangeArms
import Derived.DataReads
import Derived.Lib.LaidTab
import Derived.SizedLaws
import Derived.LaidMore
namespace Go.Proofs.YtoeioacgpildpaaDoor
open Go.RowKit Go.ChangeShapes Go.WideShapes Go.Proofs.YtoeioacgpildpaaDoorW.PrintWords
open Go.Proofs.YtoeioacgpildpaaDoor.P (S27 k27 z27 k27_mk)
set_option linter.unusedVariables false
section
variable {H : Type} {enc : TypeId × Value → H} {P : Program} {w : World} {base : Nat} {spare : Nat → Bool} {held : Bool}
/-- A slice, opened; d: what its data read as. -/
theorem open_kd {α : Type} (d : Kd α) (F : α → DataW H → Prop) {t e : TypeId} {fuel : Nat} {cs : List Value} {x : DataW H × List MemPlace} (ht : P.underlying t = some (.slice e)) (hsz : P.cellsOf e = d.sz)
    (hel : ∀ n cs y, DataW.trod enc P w base spare held n e cs = some y → ∃ a, d.K w a cs ∧ F a y.1) (h : DataW.trod enc P w base spare held fuel t cs = some x) :
    ∃ A n c xs, cs = [.slice A n c] ∧ n ≤ c ∧ n ≤ maxLen ∧ d.C w A n xs ∧ ((n = 0 ∧ xs = [] ∧ x.1 = .nil) ∨ ∃ es sp, x.1 = .slice es sp ∧ es.length = n ∧ ∀ (i : Nat) a, xs[i]? = some a → ∃ y, es[i]? = some y ∧ F a y) := by
  rcases Go.Deep.open_slice ht h with ⟨rfl, rfl⟩ | ⟨ad, len, cap, m, n, D, Pl, rfl, hb, hl, hm, rfl, rfl, hi⟩
  · exact ⟨none, 0, 0, [], rfl, Nat.le_refl _, Nat.zero_le _, Kd.C_nil d w, .inl ⟨rfl, rfl, rfl⟩⟩
  · have hlm : len ≤ (if spare ad.block then cap else len) := by split <;> omega
    have hf : ∀ i, i < len → ∃ a, (∃ cs', cs'.length = d.sz ∧ d.K w a cs' ∧ ∀ j u, cs'[j]? = some u → w.cell? (ad.add (i * d.sz + j)) = some u) ∧ F a (D i) := by
      intro i hil
      obtain ⟨cs', hc, ht'⟩ := hi i (by omega)
      obtain ⟨a, hK, hFa⟩ := hel n cs' _ ht'
      rw [hsz] at hc
      obtain ⟨_, hcl, hat⟩ := World.cells?_some hc
      refine ⟨a, ⟨cs', hcl, hK, fun j u hu => ?_⟩, hFa⟩
      have hj : j < d.sz := by rw [← hcl]; exact (List.getElem?_eq_some_iff.1 hu).1
      have := hat j hj
      rw [Go.Deep.add_add] at this
      rw [this, hu]
    by_cases hz : len = 0
    · subst hz
      exact ⟨some ad, 0, cap, [], rfl, Nat.zero_le _, Nat.zero_le _, ⟨rfl, by omega, fun h => absurd h (Nat.lt_irrefl 0)⟩, .inr ⟨_, _, rfl, by simp, fun i a ha => by simp at ha⟩⟩
    · obtain ⟨a0, _⟩ := hf 0 (by omega)
      haveI : Inhabited α := ⟨a0⟩
      obtain ⟨f, hff⟩ := Go.Deep.choose_lt hf
      refine ⟨some ad, len, cap, (List.range len).map f, rfl, hl, Nat.le_trans hl hm, ⟨by simp, by unfold maxLen at hm; omega, fun _ => ⟨ad, rfl, fun j p hj => ?_⟩⟩, .inr ⟨_, _, rfl, by simp, fun i a ha => ?_⟩⟩
      · rw [List.getElem?_map, Option.map_eq_some_iff] at hj
        obtain ⟨j', hj', rfl⟩ := hj
        obtain ⟨hjl, rfl⟩ := List.getElem?_eq_some_iff.1 hj'
        simp only [List.length_range] at hjl
        simp only [List.getElem_range]
        exact (hff j hjl).1
      · rw [List.getElem?_map, Option.map_eq_some_iff] at ha
        obtain ⟨j', hj', rfl⟩ := ha
        obtain ⟨hjl, rfl⟩ := List.getElem?_eq_some_iff.1 hj'
        simp only [List.length_range] at hjl
        refine ⟨D i, ?_, ?_⟩
        · rw [List.getElem?_map, List.getElem?_eq_getElem (by simpa using hjl)]
          simp
        · simp only [List.getElem_range]
          exact (hff i hjl).2
end
section
variable {H : Type} {enc : TypeId × Value → H} {w : World} {base : Nat} {spare : Nat → Bool} {held : Bool}
/-- The numbers of a record fit their kinds; its datum is this. -/
def RecD (x : S27) (d : DataW H) : Prop := (Lit.int .u64 x.f0).wf = true ∧ (Lit.int .u32 x.f1).wf = true ∧ (Lit.int .i64 x.f3).wf = true ∧ d = .agg [.lit (.int .u64 x.f0), .lit (.int .u32 x.f1), .lit (.string x.f2.data.toList), .lit (.int .i64 x.f3)]
theorem list4 {α : Type} : ∀ {l : List α}, l.length = 4 → ∃ a b c d, l = [a, b, c, d]
  | [a, b, c, d], _ => ⟨a, b, c, d, rfl⟩
theorem cells23 : Tryd.prog.cellsOf 23 = 1 ∧ Tryd.prog.cellsOf 24 = 1 ∧ Tryd.prog.cellsOf 9 = 1 ∧ Tryd.prog.cellsOf 25 = 1 ∧ Tryd.prog.cellsOf 27 = 4 := ⟨by kernel_rfl, by kernel_rfl, by kernel_rfl, by kernel_rfl, by kernel_rfl⟩
theorem open_rec (n : Nat) (cs : List Value) (y : DataW H × List MemPlace) (h : DataW.trod enc Tryd.prog w base spare held n 27 cs = some y) : ∃ x : S27, k27.K w x cs ∧ RecD x y.1 := by
  obtain ⟨c23, c24, c9, c25, c27⟩ := cells23
  obtain ⟨xs, m, _, hy, hcl, hl, hf⟩ := DataW.trod_struct Tryd.underlying27 h
  rw [c27] at hcl
  obtain ⟨v0, v1, v2, v3, rfl⟩ := list4 hcl
  obtain ⟨y0, y1, y2, y3, rfl⟩ := list4 (l := xs) hl
  have f0 : DataW.trod enc Tryd.prog w base spare held m 23 (([v0, v1, v2, v3].drop 0).take (Tryd.prog.cellsOf 23)) = some y0 := hf 0 _ rfl
  rw [c23] at f0
  have f1 : DataW.trod enc Tryd.prog w base spare held m 24 (([v0, v1, v2, v3].drop 1).take (Tryd.prog.cellsOf 24)) = some y1 := hf 1 _ rfl
  rw [c24] at f1
  have f2 : DataW.trod enc Tryd.prog w base spare held m 9 (([v0, v1, v2, v3].drop 2).take (Tryd.prog.cellsOf 9)) = some y2 := hf 2 _ rfl
  rw [c9] at f2
  have f3 : DataW.trod enc Tryd.prog w base spare held m 25 (([v0, v1, v2, v3].drop 3).take (Tryd.prog.cellsOf 25)) = some y3 := hf 3 _ rfl
  rw [c25] at f3
  obtain ⟨n0, e0, d0, w0⟩ := DataW.trod_int Tryd.underlying23 f0
  obtain ⟨n1, e1, d1, w1⟩ := DataW.trod_int Tryd.underlying24 f1
  obtain ⟨s2, e2, d2, _⟩ := DataW.trod_string Tryd.underlying9 f2
  obtain ⟨n3, e3, d3, w3⟩ := DataW.trod_int Tryd.underlying25 f3
  simp at e0 e1 e2 e3
  subst e0 e1 e2 e3 d0 d1 d2 d3
  refine ⟨⟨n0, n1, s2, n3⟩, k27_mk w ⟨n0, n1, s2, n3⟩, w0, w1, w3, ?_⟩
  rw [hy]
  rfl
theorem wf_and {k : IntKind} {n : Int} (h : (Lit.int k n).wf = true) : k.min ≤ n ∧ n ≤ k.max := by
  unfold Lit.wf at h
  rw [Bool.and_eq_true] at h
  exact ⟨of_decide_eq_true h.1, of_decide_eq_true h.2⟩
theorem RecD.fits {x : S27} {d : DataW H} (h : RecD x d) (hs : x.f2.size ≤ 35184372088832) : FitsR x := by
  obtain ⟨h0, h1, h3, _⟩ := h
  obtain ⟨a0, b0⟩ := wf_and h0
  obtain ⟨a1, b1⟩ := wf_and h1
  obtain ⟨a3, b3⟩ := wf_and h3
  have e1 : IntKind.min .u64 = 0 := by decide
  have e2 : IntKind.max .u64 = 18446744073709551615 := by decide
  have e3 : IntKind.min .u32 = 0 := by decide
  have e4 : IntKind.max .u32 = 4294967295 := by decide
  have e5 : IntKind.min .i64 = -9223372036854775808 := by decide
  have e6 : IntKind.max .i64 = 9223372036854775807 := by decide
  exact ⟨by omega, by omega, by omega, by omega, by omega, by omega, hs⟩
end
/-! ### the listed tables -/
theorem gTens : Tryd.prog.globalNamed "internal/strconv.uint64pow10" = some 0 := by kernel_rfl
theorem gTensT : (Tryd.prog.globals[0]?).map (·.type) = some 101 := by kernel_rfl
theorem cells101 : Tryd.prog.cellsOf 101 = 20 := by kernel_rfl
theorem tens_of_laid {W : World} {r : List (String × DataW Unit)} {n1 n2 : String} {d1 d2 : DataW Unit} (h : laidMet Tryd.prog ((n1, d1) :: (n2, d2) :: ("internal/strconv.uint64pow10", Rows.laid_internal_strconv_uint64pow10) :: r) W) : Tens W := by
  obtain ⟨ps, ⟨g0, t0, cs0, f0, p0, q0, _, _, _, _, ⟨g1, t1, cs1, f1, p1, q1, _, _, _, _, ⟨g2, t2, cs2, f2, p2, q2, hg, ht, hv, hd, _, _⟩, _⟩, _⟩, _, _⟩ := h
  obtain rfl := Option.some.inj (gTens.symm.trans hg)
  obtain rfl := Option.some.inj (gTensT.symm.trans ht)
  show W.var? Tryd.prog "internal/strconv.uint64pow10" = _
  rw [hv, ← Lib.cells_of_tab (zs := Lib.pow10Tab) (k := .u64) Tryd.underlying101 Tryd.underlying23 cells23.1 cells101 hd]
def setTab (cs : Array Value) : Obj → Obj
  | .cells _ t frozen => .cells cs t frozen
  | o => o
/-- A world for a witness: the settled one, the three tables holding what their initialisers lay. -/
noncomputable def laidWorld (os : Os) : World :=
  { World.holding Tryd.prog os ⟨#[], #[], []⟩ with heap := (((World.holding Tryd.prog os ⟨#[], #[], []⟩).heap.modify 0 (setTab #[.int .u64 1, .int .u64 10, .int .u64 100, .int .u64 1000, .int .u64 10000, .int .u64 100000, .int .u64 1000000, .int .u64 10000000, .int .u64 100000000, .int .u64 1000000000, .int .u64 10000000000, .int .u64 100000000000, .int .u64 1000000000000, .int .u64 10000000000000, .int .u64 100000000000000, .int .u64 1000000000000000, .int .u64 10000000000000000, .int .u64 100000000000000000, .int .u64 1000000000000000000, .int .u64 10000000000000000000])).modify 6 (setTab #[.int .u8 0, .int .u8 1, .int .u8 28, .int .u8 2, .int .u8 29, .int .u8 14, .int .u8 24, .int .u8 3, .int .u8 30, .int .u8 22, .int .u8 20, .int .u8 15, .int .u8 25, .int .u8 17, .int .u8 4, .int .u8 8, .int .u8 31, .int .u8 27, .int .u8 13, .int .u8 23, .int .u8 21, .int .u8 19, .int .u8 16, .int .u8 7, .int .u8 26, .int .u8 12, .int .u8 18, .int .u8 6, .int .u8 11, .int .u8 5, .int .u8 10, .int .u8 9])).modify 7 (setTab #[.int .u8 0, .int .u8 1, .int .u8 56, .int .u8 2, .int .u8 57, .int .u8 49, .int .u8 28, .int .u8 3, .int .u8 61, .int .u8 58, .int .u8 42, .int .u8 50, .int .u8 38, .int .u8 29, .int .u8 17, .int .u8 4, .int .u8 62, .int .u8 47, .int .u8 59, .int .u8 36, .int .u8 45, .int .u8 43, .int .u8 51, .int .u8 22, .int .u8 53, .int .u8 39, .int .u8 33, .int .u8 30, .int .u8 24, .int .u8 18, .int .u8 12, .int .u8 5, .int .u8 63, .int .u8 55, .int .u8 48, .int .u8 27, .int .u8 60, .int .u8 41, .int .u8 37, .int .u8 16, .int .u8 46, .int .u8 35, .int .u8 44, .int .u8 21, .int .u8 52, .int .u8 32, .int .u8 23, .int .u8 11, .int .u8 54, .int .u8 26, .int .u8 40, .int .u8 15, .int .u8 34, .int .u8 20, .int .u8 31, .int .u8 10, .int .u8 25, .int .u8 14, .int .u8 19, .int .u8 9, .int .u8 13, .int .u8 8, .int .u8 7, .int .u8 6]) }
end Go.Proofs.YtoeioacgpildpaaDoor
