/- An argument that is a slice, opened: what its elements read as. -/
import Derived.Test.YtmdmoedakmoibaaP
import Derived.Deep.Slices
import Derived.ChangeArms
import Derived.DataReads
namespace Go.Proofs.Ytmdmoedakmoibaa.P
open Go.RowKit Go.ChangeShapes Go.WideShapes Go.Proofs.YtmdmoedakmoibaaW.PrintWords
set_option linter.unusedVariables false
section
variable {H : Type} {enc : TypeId × Value → H} {P : Program} {w : World} {base : Nat} {spare : Nat → Bool} {held : Bool}
theorem open_kd {α : Type} (d : Kd α) (F : α → Prop) {t e : TypeId} {fuel : Nat} {cs : List Value} {x : DataW H × List MemPlace} (ht : P.underlying t = some (.slice e)) (hsz : P.cellsOf e = d.sz)
    (hel : ∀ n cs y, DataW.trod enc P w base spare held n e cs = some y → ∃ a, d.K w a cs ∧ F a) (h : DataW.trod enc P w base spare held fuel t cs = some x) :
    ∃ A n c xs, cs = [.slice A n c] ∧ n ≤ c ∧ n ≤ maxLen ∧ d.C w A n xs ∧ ∀ a ∈ xs, F a := by
  rcases Go.Deep.open_slice ht h with ⟨rfl, _⟩ | ⟨ad, len, cap, m, n, D, Pl, rfl, hb, hl, hm, rfl, _, hi⟩
  · exact ⟨none, 0, 0, [], rfl, Nat.le_refl _, Nat.zero_le _, Kd.C_nil d w, fun a ha => absurd ha List.not_mem_nil⟩
  · have hlm : len ≤ (if spare ad.block then cap else len) := by split <;> omega
    have hf : ∀ i, i < len → ∃ a, (∃ cs', cs'.length = d.sz ∧ d.K w a cs' ∧ ∀ j u, cs'[j]? = some u → w.cell? (ad.add (i * d.sz + j)) = some u) ∧ F a := by
      intro i hil
      obtain ⟨cs', hc, ht'⟩ := hi i (by omega)
      obtain ⟨a, hK, hFa⟩ := hel n cs' _ ht'
      rw [hsz] at hc
      obtain ⟨_, hcl, hat⟩ := World.cells?_some hc
      refine ⟨a, ⟨cs', hcl, hK, fun j u hu => ?_⟩, hFa⟩
      have hj : j < d.sz := by rw [← hcl]; exact (List.getElem?_eq_some_iff.1 hu).1
      have := hat j hj
      rw [Go.Deep.add_add] at this
      rw [this, hu]
    by_cases hz : len = 0
    · subst hz
      exact ⟨some ad, 0, cap, [], rfl, Nat.zero_le _, Nat.zero_le _, ⟨rfl, by omega, fun h => absurd h (Nat.lt_irrefl 0)⟩, fun a ha => absurd ha List.not_mem_nil⟩
    · obtain ⟨a0, _⟩ := hf 0 (by omega)
      haveI : Inhabited α := ⟨a0⟩
      obtain ⟨f, hff⟩ := Go.Deep.choose_lt hf
      refine ⟨some ad, len, cap, (List.range len).map f, rfl, hl, Nat.le_trans hl hm, ⟨by simp, by unfold maxLen at hm; omega, fun _ => ⟨ad, rfl, fun j p hj => ?_⟩⟩, fun a ha => ?_⟩
      · rw [List.getElem?_map, Option.map_eq_some_iff] at hj
        obtain ⟨j', hj', rfl⟩ := hj
        obtain ⟨hjl, rfl⟩ := List.getElem?_eq_some_iff.1 hj'
        simp only [List.length_range] at hjl
        simp only [List.getElem_range]
        exact (hff j hjl).1
      · obtain ⟨i, hi2, rfl⟩ := List.mem_map.1 ha
        exact (hff i (List.mem_range.1 hi2)).2
end
section
variable {H : Type} {enc : TypeId × Value → H} {w : World} {base : Nat} {spare : Nat → Bool} {held : Bool}
/-- The numbers of an entry fit their kinds. -/
def Fits (x : S31) : Prop := (Lit.int .i64 x.f0).wf = true ∧ (Lit.int .i64 x.f1).wf = true ∧ (Lit.int .i64 x.f2).wf = true ∧ (Lit.int .u64 x.f3).wf = true ∧ (Lit.int .u64 x.f4).wf = true
theorem cells1 : Try.prog.cellsOf 3 = 1 ∧ Try.prog.cellsOf 29 = 1 ∧ Try.prog.cellsOf 9 = 1 ∧ Try.prog.cellsOf 31 = 6 := ⟨by kernel_rfl, by kernel_rfl, by kernel_rfl, by kernel_rfl⟩
theorem open_entry (n : Nat) (cs : List Value) (y : DataW H × List MemPlace) (h : DataW.trod enc Try.prog w base spare held n 31 cs = some y) : ∃ x : S31, k31.K w x cs ∧ Fits x := by
  obtain ⟨c3, c29, c9, c31⟩ := cells1
  obtain ⟨xs, m, _, _, hcl, hl, hf⟩ := DataW.trod_struct Try.underlying31 h
  rw [c31] at hcl
  match cs, hcl with
  | [v0, v1, v2, v3, v4, v5], _ =>
    match xs, hl with
    | [y0, y1, y2, y3, y4, y5], _ =>
      have f0 : DataW.trod enc Try.prog w base spare held m 3 (([v0, v1, v2, v3, v4, v5].drop 0).take (Try.prog.cellsOf 3)) = some y0 := hf 0 _ rfl
      rw [c3] at f0
      have f1 : DataW.trod enc Try.prog w base spare held m 3 (([v0, v1, v2, v3, v4, v5].drop 1).take (Try.prog.cellsOf 3)) = some y1 := hf 1 _ rfl
      rw [c3] at f1
      have f2 : DataW.trod enc Try.prog w base spare held m 3 (([v0, v1, v2, v3, v4, v5].drop 2).take (Try.prog.cellsOf 3)) = some y2 := hf 2 _ rfl
      rw [c3] at f2
      have f3 : DataW.trod enc Try.prog w base spare held m 29 (([v0, v1, v2, v3, v4, v5].drop 3).take (Try.prog.cellsOf 29)) = some y3 := hf 3 _ rfl
      rw [c29] at f3
      have f4 : DataW.trod enc Try.prog w base spare held m 29 (([v0, v1, v2, v3, v4, v5].drop 4).take (Try.prog.cellsOf 29)) = some y4 := hf 4 _ rfl
      rw [c29] at f4
      have f5 : DataW.trod enc Try.prog w base spare held m 9 (([v0, v1, v2, v3, v4, v5].drop 5).take (Try.prog.cellsOf 9)) = some y5 := hf 5 _ rfl
      rw [c9] at f5
      obtain ⟨n0, e0, _, w0⟩ := DataW.trod_int Try.underlying3 f0
      obtain ⟨n1, e1, _, w1⟩ := DataW.trod_int Try.underlying3 f1
      obtain ⟨n2, e2, _, w2⟩ := DataW.trod_int Try.underlying3 f2
      obtain ⟨n3, e3, _, w3⟩ := DataW.trod_int Try.underlying29 f3
      obtain ⟨n4, e4, _, w4⟩ := DataW.trod_int Try.underlying29 f4
      obtain ⟨s5, e5, _, _⟩ := DataW.trod_string Try.underlying9 f5
      simp at e0 e1 e2 e3 e4 e5
      subst e0 e1 e2 e3 e4 e5
      exact ⟨⟨n0, n1, n2, n3, n4, s5⟩, k31_mk w ⟨n0, n1, n2, n3, n4, s5⟩, w0, w1, w2, w3, w4⟩
end
end Go.Proofs.Ytmdmoedakmoibaa.P
