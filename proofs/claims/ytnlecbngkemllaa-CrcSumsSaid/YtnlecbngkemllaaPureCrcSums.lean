/- The one plain statement of CrcSums, out of the sum's laws over bit vectors. -/
import Derived.Test.YtnlecbngkemllaaP2
import Derived.Test.YtnlecbngkemllaaSteps
namespace Go.Proofs.Ytnlecbngkemllaa.Pure
open Go.RowKit Go.Proofs.Ytnlecbngkemllaa.P Go.Proofs.Ytnlecbngkemllaa.Crc Go.Proofs.YtnlecbngkemllaaW.PrintWords Go.Proofs.YtnlecbngkemllaaW.PrintLast

theorem byte_of (c : Int) (h : (Lit.int .u8 c).wf = true) : ∃ b : UInt8, c = (b.toNat : Int) := by
  have hb := bounds_u8 h
  refine ⟨UInt8.ofNat c.toNat, ?_⟩
  rw [UInt8.toNat_ofNat']
  omega
theorem reg_of (c : Int) (h : (Lit.int .u32 c).wf = true) : ∃ b : BitVec 32, c = N b := by
  have hb := bounds_u32 h
  refine ⟨BitVec.ofNat 32 c.toNat, ?_⟩
  unfold N
  rw [BitVec.toNat_ofNat]
  omega
theorem CrcSums : congresslaw01_CrcSums.Pure := by
  intro s reg b hs hreg hb
  obtain ⟨r, rfl⟩ := reg_of reg hreg
  obtain ⟨c, rfl⟩ := byte_of b hb
  refine ⟨s.size + 10, ?_⟩
  have four : ∀ v : BitVec 32, congressref01_Four.f (s.size + 10) (N v) = some (strOfNums [N v % 256, (N v / 256) % 256, (N v / 65536) % 256, (N v / 16777216) % 256]) := RFour_eq (s.size + 10) (by omega)
  have sealing : ∀ t : ByteArray, t.size ≤ s.size → congressref01_Seal.f (s.size + 10) t = some (sealB t) := by
    intro t ht
    have hz := sealB_size t
    unfold sealB at hz
    rw [ByteArray.size_append] at hz
    unfold congressref01_Seal.f
    rw [ROf_eq t (by omega) _ (by omega)]
    simp only [Option.bind_some]
    rw [ofB_N, four]
    simp only [Option.bind_some]
    rw [← ofB_N, if_pos (by omega)]
    rfl
  have ok : congressref01_Ok.f (s.size + 10) s = some (decide (4 ≤ s.size ∧ F ones s.data.toList = halfB 32 ones)) := by
    have hw : wrap64 ((s.size : Int) - 4) = (s.size : Int) - 4 := by unfold wrap64; omega
    unfold congressref01_Ok.f
    rw [hw]
    by_cases h4 : 4 ≤ s.size
    · have hn : ((s.size : Int) - 4).toNat = s.size - 4 := by omega
      have hz : (s.extract 0 (s.size - 4)).size ≤ s.size := by rw [size_data, cut_data, List.length_take]; omega
      rw [if_pos (by omega), if_pos (by omega), if_pos (by omega), hn, ROf_eq _ (by omega) _ (by omega)]
      simp only [Option.bind_some]
      rw [ofB_N, four]
      simp only [Option.bind_some, Option.some.injEq]
      rw [toList_eq, toList_eq, bytes4, rest_data, cut_data]
      have hd : (s.data.toList.drop (s.size - 4)).length = 4 := by rw [List.length_drop, ← size_data]; omega
      have iff := sealed_iff (s.data.toList.take (s.size - 4)) (s.data.toList.drop (s.size - 4)) hd
      rw [List.take_append_drop] at iff
      rw [Bool.eq_iff_iff, beq_iff_eq, decide_eq_true_iff, iff]
      exact ⟨fun h => ⟨h4, h⟩, fun h => h.2⟩
    · rw [if_neg (by omega)]
      simp [h4]
  unfold congresslaw01_CrcSums.f
  rw [fixed_true]
  simp only [Option.bind_some, if_true]
  rw [Of_eq s (by omega), ROf_eq s (by omega) _ (by omega)]
  simp only [Option.bind_some, if_true]
  rw [Step_eq _ (by omega), RStep_eq _ (by omega)]
  simp only [Option.bind_some, if_true]
  rw [Seal_eq s (by omega), sealing s (Nat.le_refl _)]
  simp only [Option.bind_some, if_true]
  rw [Ok_eq s (by omega), ok]
  simp only [Option.bind_some, beq_self_eq_true]

end Go.Proofs.Ytnlecbngkemllaa.Pure
