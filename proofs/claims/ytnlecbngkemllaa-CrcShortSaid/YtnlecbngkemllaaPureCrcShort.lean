/- The one plain statement of CrcShort, out of the sum's laws over bit vectors. -/
import Derived.Test.YtnlecbngkemllaaP1
import Derived.Test.YtnlecbngkemllaaSealed
namespace Go.Proofs.Ytnlecbngkemllaa.Pure
open Go.RowKit Go.Proofs.Ytnlecbngkemllaa.P Go.Proofs.Ytnlecbngkemllaa.Crc Go.Proofs.YtnlecbngkemllaaW.PrintWords Go.Proofs.YtnlecbngkemllaaW.PrintLast

theorem CrcShort : congresslaw01_CrcShort.Pure := by
  intro s t hs ht
  refine ⟨1, ?_⟩
  have j0 : ∀ b : Bool, (b = true ∨ (s.size = t.size ∧ s.size ≤ 4)) → congresslaw01_CrcShort.j0 1 s t b = some true := by
    intro b hb
    simp only [congresslaw01_CrcShort.j0]
    by_cases c : b = true
    · rw [if_pos c, fixed_true]; rfl
    · rw [if_neg c, Of_eq s (by omega), Of_eq t (by omega)]
      obtain ⟨h1, h2⟩ := hb.resolve_left c
      simp only [Option.bind_some, Option.some.injEq]
      rw [ofB_N, ofB_N, toList_eq, toList_eq]
      have e : (N (ones ^^^ F ones s.data.toList) == N (ones ^^^ F ones t.data.toList)) = (s.data.toList == t.data.toList) := by
        rw [Bool.eq_iff_iff, beq_iff_eq, beq_iff_eq]
        constructor
        · intro h
          have h3 := congrArg (ones ^^^ ·) (N_inj h)
          simp only [xxa] at h3
          exact F_short (by rw [← size_data, ← size_data, h1]) (by rw [← size_data]; exact h2) h3
        · intro h
          rw [h]
      rw [e]
      exact beq_self_eq_true _
  unfold congresslaw01_CrcShort.f
  rw [fixed_true]
  simp only [Option.bind_some, if_true]
  by_cases h : (s.size : Int) = (t.size : Int)
  · rw [if_pos h]
    apply j0
    by_cases h4 : (s.size : Int) > 4
    · left; exact decide_eq_true h4
    · right; exact ⟨by omega, by omega⟩
  · rw [if_neg h]
    exact j0 true (Or.inl rfl)

end Go.Proofs.Ytnlecbngkemllaa.Pure
