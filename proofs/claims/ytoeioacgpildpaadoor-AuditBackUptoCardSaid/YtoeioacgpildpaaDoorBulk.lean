/- What the bound on the arguments' bulk gives for lists of records. -/
import Derived.Test.YtoeioacgpildpaaDoorOpen
set_option linter.unusedVariables false
namespace Go.Proofs.YtoeioacgpildpaaDoor
open Go.Proofs Go.RowKit
open Go.Proofs.YtoeioacgpildpaaDoor.P (S27 k27 z27)
theorem headB_len (n t : Nat) (k : Int) (hn : n < 18446744073709551616) (ht : t < 18446744073709551616) (hk0 : -9223372036854775808 ≤ k) (hk1 : k ≤ 9223372036854775807) : (headB n t k).length ≤ 200 := by
  have z1 := dec_small n hn
  have z2 := dec_small t ht
  have z3 := itoa_small k hk0 hk1
  rw [size_arr] at z1 z2 z3
  unfold headB
  simp only [List.length_append, List.length_cons, List.length_nil]
  omega
theorem lineR_len (x : S27) (h : FitsR x) : (lineR x).length ≤ 202 + 3 * x.f2.size := by
  obtain ⟨h0, h1, h2, h3, h4, h5, h6⟩ := h
  have z := headB_len x.f0.toNat x.f1.toNat x.f3 (by omega) (by omega) h4 h5
  have q := quoted_len x.f2.data.toList
  have e : x.f2.data.toList.length = x.f2.size := Array.length_toList
  unfold lineR lineB
  simp only [List.length_append, List.length_cons, List.length_nil]
  omega
section
variable {H : Type}
theorem rec_bulk {x : S27} {d : DataW H} (h : RecD x d) : x.f2.size + 5 ≤ Rows.uptoBulk d := by
  obtain ⟨_, _, _, rfl⟩ := h
  have e : x.f2.data.toList.length = x.f2.size := Array.length_toList
  simp only [Rows.uptoBulk, Rows.uptoBulkAll]
  omega
/-- The records of a list, by their data. -/
def Recs (xs : List S27) (es : List (DataW H)) : Prop := es.length = xs.length ∧ ∀ (i : Nat) a, xs[i]? = some a → ∃ y, es[i]? = some y ∧ RecD a y
theorem recs_bulk : ∀ (xs : List S27) (es : List (DataW H)), Recs xs es → Rows.uptoBulkAll es ≤ 35184372088832 → (∀ x ∈ xs, FitsR x) ∧ (textR xs).length ≤ 210 * Rows.uptoBulkAll es ∧ xs.length ≤ Rows.uptoBulkAll es
  | [], es, h, hb => ⟨fun x hx => (List.not_mem_nil hx).elim, Nat.zero_le _, Nat.zero_le _⟩
  | x :: xs, [], h, hb => by have := h.1; simp at this
  | x :: xs, e :: es, h, hb => by
    obtain ⟨y, hy, hR⟩ := h.2 0 x rfl
    have hye : e = y := by simpa using hy
    subst hye
    have hb1 := rec_bulk hR
    have hs : Rows.uptoBulkAll (e :: es) = Rows.uptoBulk e + Rows.uptoBulkAll es := rfl
    rw [hs] at hb ⊢
    have ih := recs_bulk xs es ⟨by have := h.1; simpa using this, fun i a ha => h.2 (i + 1) a (by simpa using ha)⟩ (by omega)
    have hf := hR.fits (by omega)
    have hl := lineR_len x hf
    refine ⟨fun z hz => ?_, ?_, ?_⟩
    · rcases List.mem_cons.1 hz with rfl | hz
      · exact hf
      · exact ih.1 z hz
    · show (lineR x ++ textR xs).length ≤ _
      rw [List.length_append]
      have := ih.2.1
      omega
    · rw [List.length_cons]
      have := ih.2.2
      omega
theorem list_bulk {xs : List S27} {n : Nat} {d : DataW H} (hl : xs.length = n) (hD : (n = 0 ∧ xs = [] ∧ d = .nil) ∨ ∃ es sp, d = .slice es sp ∧ es.length = n ∧ ∀ (i : Nat) a, xs[i]? = some a → ∃ y, es[i]? = some y ∧ RecD a y)
    (hb : Rows.uptoBulk d ≤ 1048576) : (∀ x ∈ xs, FitsR x) ∧ (textR xs).length ≤ 210 * Rows.uptoBulk d ∧ n ≤ Rows.uptoBulk d := by
  rcases hD with ⟨h0, rfl, rfl⟩ | ⟨es, sp, rfl, he, hR⟩
  · exact ⟨fun x hx => (List.not_mem_nil hx).elim, Nat.zero_le _, by omega⟩
  · have e : Rows.uptoBulk (.slice es sp) = Rows.uptoBulkAll es + Rows.uptoBulkAll sp + 1 := by simp only [Rows.uptoBulk]
    rw [e] at hb ⊢
    obtain ⟨h1, h2, h3⟩ := recs_bulk xs es ⟨by omega, hR⟩ (by omega)
    exact ⟨h1, by omega, by omega⟩
theorem small_bound {l : List (DataW H)} (hk : Rows.uptoSmall H l = true) : Rows.uptoBulkAll l ≤ 1048576 := of_decide_eq_true hk
end
end Go.Proofs.YtoeioacgpildpaaDoor
