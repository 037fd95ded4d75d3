/- The one plain statement of CrcBursts, out of the sum's laws over bit vectors. -/
import Derived.Test.YtnlecbngkemllaaB1
import Derived.Test.YtnlecbngkemllaaSealed
import Derived.Test.YtnlecbngkemllaaFour
namespace Go.Proofs.Ytnlecbngkemllaa.Pure
open Go.RowKit Go.Proofs.Ytnlecbngkemllaa.B Go.Proofs.Ytnlecbngkemllaa.Crc Go.Proofs.YtnlecbngkemllaaW.PrintWords Go.Proofs.YtnlecbngkemllaaW.PrintLast

open Go.Proofs.Ytnlecbngkemllaa.P
theorem turn_get (t m : ByteArray) (n j : Nat) (h : j < t.size) (hj : ¬ (n ≤ j ∧ j < n + 4)) : (strOfNums (turnL t m n 4)).data.toList[j]? = t.data.toList[j]? := by
  have ht : j < t.data.toList.length := by rw [← size_data]; exact h
  rw [strOfNums_data]
  unfold turnL
  rw [List.getElem?_map, List.getElem?_map, List.getElem?_range h]
  simp only [Option.map_some, if_neg hj]
  have e : bt t j = (t.data.toList[j].toNat : Int) := (bt_nat t j h).symm
  rw [e, Int.toNat_natCast, List.getElem?_eq_getElem ht, UInt8.ofNat_toNat]
theorem turn_length (t m : ByteArray) (n : Nat) : (strOfNums (turnL t m n 4)).data.toList.length = t.data.toList.length := by
  rw [← size_data, strOfNums_size, turnL_length, ← size_data]
theorem turn_take (t m : ByteArray) (n : Nat) : (strOfNums (turnL t m n 4)).data.toList.take n = t.data.toList.take n := by
  apply List.ext_getElem?
  intro i
  rw [List.getElem?_take, List.getElem?_take]
  by_cases hi : i < n
  · rw [if_pos hi, if_pos hi]
    by_cases h : i < t.size
    · exact turn_get t m n i h (by omega)
    · rw [List.getElem?_eq_none (by rw [turn_length, ← size_data]; omega), List.getElem?_eq_none (by rw [← size_data]; omega)]
  · rw [if_neg hi, if_neg hi]
theorem turn_drop (t m : ByteArray) (n : Nat) : (strOfNums (turnL t m n 4)).data.toList.drop (n + 4) = t.data.toList.drop (n + 4) := by
  apply List.ext_getElem?
  intro i
  rw [List.getElem?_drop, List.getElem?_drop]
  by_cases h : n + 4 + i < t.size
  · exact turn_get t m n _ h (by omega)
  · rw [List.getElem?_eq_none (by rw [turn_length, ← size_data]; omega), List.getElem?_eq_none (by rw [← size_data]; omega)]
theorem bytes_back (t : ByteArray) : (strOfNums (bytesOf t)).data.toList = t.data.toList := by
  rw [strOfNums_data]
  unfold bytesOf
  rw [List.map_map]
  conv => rhs; rw [← List.map_id t.data.toList]
  apply List.map_congr_left
  intro x _
  simp
theorem CrcBursts : congresslaw01_CrcBursts.Pure := by
  intro s at_ mask hs _ hmask
  refine ⟨5, ?_⟩
  obtain ⟨v, rfl⟩ : ∃ v, mask = N v := by
    have hb := bounds_u32 hmask
    refine ⟨BitVec.ofNat 32 mask.toNat, ?_⟩
    unfold N
    rw [BitVec.toNat_ofNat]
    omega
  have tz : (sealB s).size = s.size + 4 := sealB_size s
  have tr : F ones (sealB s).data.toList = halfB 32 ones := by
    rw [sealB_data, F_append]; exact F_seal _
  have main : ∀ u : ByteArray, u.data.toList.length = (sealB s).data.toList.length → (F ones u.data.toList = F ones (sealB s).data.toList → u.data.toList = (sealB s).data.toList) →
      congressref01_Turn.f 5 (sealB s) at_ (N v) = some u → congresslaw01_CrcBursts.f 5 s at_ (N v) = some true := by
    intro u hl hu ht
    have uz : u.size = s.size + 4 := by rw [size_data, hl, ← size_data]; exact tz
    unfold congresslaw01_CrcBursts.f
    rw [Seal_eq s (by omega)]
    simp only [Option.bind_some]
    rw [ht]
    simp only [Option.bind_some]
    rw [fixed_true]
    simp only [Option.bind_some, if_true]
    rw [Ok_eq (sealB s) (by omega), Ok_eq u (by omega)]
    simp only [Option.bind_some]
    have k1 : decide (4 ≤ (sealB s).size ∧ F ones (sealB s).data.toList = halfB 32 ones) = true := decide_eq_true ⟨by omega, tr⟩
    have k2 : decide (4 ≤ u.size ∧ F ones u.data.toList = halfB 32 ones) = (u.toList == (sealB s).toList) := by
      rw [Bool.eq_iff_iff, decide_eq_true_iff, beq_iff_eq, toList_eq, toList_eq]
      constructor
      · intro h; exact hu (h.2.trans tr.symm)
      · intro h; exact ⟨by omega, by rw [h]; exact tr⟩
    have k3 : wrap64 ((s.size : Int) + 4) = ((sealB s).size : Int) := by unfold wrap64; omega
    rw [k1, k2, k3]
    simp
  have hm4 : ∀ l : List Int, l.length = 4 → (strOfNums l).size = 4 := fun l h => by rw [strOfNums_size, h]
  have hf := Four_eq v
  by_cases h0 : 0 ≤ at_
  · refine main (strOfNums (turnL (sealB s) (strOfNums [N v % 256, (N v / 256) % 256, (N v / 65536) % 256, (N v / 16777216) % 256]) at_.toNat 4)) (turn_length _ _ _) ?_ ?_
    · intro e
      exact F_burst at_.toNat (turn_length _ _ _) (turn_take _ _ _) (turn_drop _ _ _) e
    · unfold congressref01_Turn.f
      rw [hf]
      simp only [Option.bind_some]
      rw [if_pos ⟨hm4 _ rfl, by omega⟩, if_pos h0]
  · refine main (strOfNums (bytesOf (sealB s))) (by rw [bytes_back]) (fun _ => bytes_back _) ?_
    unfold congressref01_Turn.f
    rw [hf]
    simp only [Option.bind_some]
    rw [if_pos ⟨hm4 _ rfl, by omega⟩, if_neg h0]

end Go.Proofs.Ytnlecbngkemllaa.Pure
