/- The document's May answers as the program's. -/
import Derived.Test.YtljgmbpfeajmhaaDoorPrints
import Derived.Test.YtljgmbpfeajmhaaDoorP6
set_option linter.unusedVariables false
set_option linter.unusedSimpArgs false
namespace Go.Proofs.YtljgmbpfeajmhaaDoor
open Go.Proofs Go.Shelf Go.RowKit
open Go.Proofs.YtljgmbpfeajmhaaDoor.P (congressref21_May.f congressref21_May.j0 congressref21_May.j1 congressref21_May.j2 congressref21_May.j3 congressref21_May.j4 congressref21_May.j5)

theorem rmay_ex (k a o g gr sv : Int) (tx : List UInt8) : ∃ b, congressref21_May.f 7 k a o g gr sv ⟨tx.toArray⟩ = some b ∧ (b = true ↔ okB ⟨k, a, o, g, gr, sv, tx⟩) := by
  have hz : (⟨tx.toArray⟩ : ByteArray).size = tx.length := by simp [ByteArray.size]
  have hl : (⟨tx.toArray⟩ : ByteArray).toList = tx := by rw [Lib.toList_data]
  have he : (⟨#[]⟩ : ByteArray).toList = [] := by rw [Lib.toList_data]
  unfold congressref21_May.f congressref21_May.j0 congressref21_May.j1 congressref21_May.j2 congressref21_May.j3 congressref21_May.j4 congressref21_May.j5 okB
  simp only [hz, hl, he]
  by_cases k0 : k = 0
  · subst k0
    simp
    grind
  by_cases k1 : k = 1
  · subst k1
    simp
    grind
  by_cases k2 : k = 2
  · subst k2
    by_cases g1 : 1 ≤ g
    · by_cases g2 : g ≤ 7
      · simp [g1, g2]
        grind
      · simp [g1, g2]
    · simp [g1]
  by_cases k3 : k = 3
  · subst k3
    simp
    grind
  by_cases k4 : k = 4
  · subst k4
    by_cases g1 : 0 ≤ gr
    · by_cases g2 : gr ≤ 7
      · simp [g1, g2]
        grind
      · simp [g1, g2]
    · simp [g1]
  by_cases k5 : k = 5
  · subst k5
    by_cases g1 : 0 ≤ gr
    · by_cases g2 : gr ≤ 7
      · simp [g1, g2]
        grind
      · simp [g1, g2]
    · simp [g1]
  by_cases k6 : k = 6
  · subst k6
    by_cases g1 : 0 ≤ gr
    · by_cases g2 : gr ≤ 7
      · by_cases s1 : 0 ≤ sv
        · by_cases s2 : sv ≤ 3
          · by_cases t1 : (tx.length : Int) ≤ 16
            · have t2 : tx.length ≤ 16 := by omega
              simp [g1, g2, s1, s2, t1, t2]
              grind
            · have t2 : ¬ tx.length ≤ 16 := by omega
              simp [g1, g2, s1, s2, t1, t2]
          · simp [g1, g2, s1, s2]
        · simp [g1, g2, s1]
      · simp [g1, g2]
    · simp [g1]
  · by_cases p1 : k ≥ 1
    · have p2 : ¬ k ≤ 6 := by omega
      have p3 : k ≥ 4 := by omega
      have p4 : k ≥ 0 := by omega
      simp [p1, p2, p3, p4, k0, k1, k2, k3, k4, k5, k6]
    · have p3 : ¬ k ≥ 4 := by omega
      have p4 : ¬ k ≥ 0 := by omega
      simp [p1, p3, p4, k0, k1, k2, k3, k4, k5, k6]
theorem rmay_f (c : Call7) (hf : c.Fits) : congressref21_May.f 7 c.kind c.handle c.other c.give c.grp c.svc ⟨c.txt.toArray⟩ = some (mayL c) := by
  obtain ⟨b, hb, hi⟩ := rmay_ex c.kind c.handle c.other c.give c.grp c.svc c.txt
  rw [hb]
  congr 1
  rw [Bool.eq_iff_iff, hi, may_ok c hf]
end Go.Proofs.YtljgmbpfeajmhaaDoor
