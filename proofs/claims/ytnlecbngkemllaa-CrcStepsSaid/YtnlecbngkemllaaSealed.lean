/- Sealed texts: what Seal, Ok, Of answer, and when a text is sealed. -/
import Derived.Test.YtnlecbngkemllaaBits
import Derived.Test.YtnlecbngkemllaaP1
namespace Go.Proofs.Ytnlecbngkemllaa.Crc
open Go.RowKit Go.Proofs.Ytnlecbngkemllaa.P Go.Proofs.YtnlecbngkemllaaW.PrintWords Go.Proofs.YtnlecbngkemllaaW.PrintLast

theorem word_cons (c : UInt8) (l : List UInt8) (h : l.length ≤ 3) : (word (c :: l)).toNat = c.toNat + 256 * (word l).toNat := by
  have hl := word_lt l (by omega)
  have h24 : (word l).toNat < 2 ^ 24 := Nat.lt_of_lt_of_le hl (Nat.pow_le_pow_right (by decide) (by omega))
  have hc := c.toNat_lt
  have lo : (word (c :: l)).toNat % 2 ^ 8 = c.toNat := by
    simp only [word]
    rw [BitVec.toNat_xor, Nat.xor_mod_two_pow, by8_toNat, shl8]
    rw [show (word l).toNat * 256 % 4294967296 % 2 ^ 8 = 0 by omega, Nat.xor_zero]
    omega
  have hi : (word (c :: l)).toNat / 2 ^ 8 = (word l).toNat := by
    simp only [word]
    rw [BitVec.toNat_xor, Nat.xor_div_two_pow, by8_toNat, shl8]
    rw [show (word l).toNat * 256 % 4294967296 / 2 ^ 8 = (word l).toNat by omega, show c.toNat / 2 ^ 8 = 0 by omega, Nat.zero_xor]
  omega
theorem ofNat_toNat (n : Nat) (h : n < 256) : (UInt8.ofNat n).toNat = n := by
  rw [UInt8.toNat_ofNat']
  exact Nat.mod_eq_of_lt h
theorem word_B4 (b : BitVec 32) : word (B4 b) = b := by
  apply BitVec.eq_of_toNat_eq
  have hb := b.isLt
  unfold B4
  rw [word_cons _ _ (by simp), word_cons _ _ (by simp), word_cons _ _ (by simp), word_cons _ _ (by simp)]
  rw [ofNat_toNat _ (by omega), ofNat_toNat _ (by omega), ofNat_toNat _ (by omega), ofNat_toNat _ (by omega)]
  have : (word []).toNat = 0 := rfl
  omega
theorem B4_length (b : BitVec 32) : (B4 b).length = 4 := rfl
/-- What the four bytes of its sum make of a text's register. -/
theorem F_seal (r : BitVec 32) : F r (B4 (ones ^^^ r)) = halfB 32 ones := by
  rw [F_word _ _ (by rw [B4_length]; decide), B4_length, word_B4]
  congr 1
  rw [xlc, BitVec.xor_self, BitVec.xor_zero]
/-- A text of four bytes or more is sealed just where its register is the residue. -/
theorem sealed_iff (l d : List UInt8) (hd : d.length = 4) : F ones (l ++ d) = halfB 32 ones ↔ d = B4 (ones ^^^ F ones l) := by
  rw [F_append]
  constructor
  · intro h
    rw [← F_seal (F ones l)] at h
    exact F_short (by rw [B4_length]; exact hd) (by omega) h
  · rintro rfl
    exact F_seal _

theorem bytes4 (b : BitVec 32) : (strOfNums [N b % 256, (N b / 256) % 256, (N b / 65536) % 256, (N b / 16777216) % 256]).data.toList = B4 b := by
  rw [strOfNums_data]
  have e : ∀ k : Nat, (((b.toNat : Int) / (k : Int)) % 256).toNat = b.toNat / k % 256 := by
    intro k
    rw [← Int.natCast_ediv]
    have : ((256 : Nat) : Int) = 256 := rfl
    rw [← this, ← Int.natCast_emod, Int.toNat_natCast]
  have e0 := e 1
  have e1 := e 256
  have e2 := e 65536
  have e3 := e 16777216
  have z : ((1 : Nat) : Int) = 1 := rfl
  rw [z, Int.ediv_one, Nat.div_one] at e0
  unfold N B4
  simp only [List.map_cons, List.map_nil]
  have c1 : ((256 : Nat) : Int) = 256 := rfl
  have c2 : ((65536 : Nat) : Int) = 65536 := rfl
  have c3 : ((16777216 : Nat) : Int) = 16777216 := rfl
  rw [c1] at e1
  rw [c2] at e2
  rw [c3] at e3
  rw [e0, e1, e2, e3]

/-- A text with its sum's four bytes behind it. -/
def sealB (s : ByteArray) : ByteArray := s ++ strOfNums [ofB s % 256, (ofB s / 256) % 256, (ofB s / 65536) % 256, (ofB s / 16777216) % 256]
theorem sealB_data (s : ByteArray) : (sealB s).data.toList = s.data.toList ++ B4 (ones ^^^ F ones s.data.toList) := by
  unfold sealB
  rw [ofB_N]
  have : ∀ t : ByteArray, (s ++ t).data.toList = s.data.toList ++ t.data.toList := by
    intro t; rw [ByteArray.data_append, Array.toList_append]
  rw [this, bytes4]
theorem size_data (s : ByteArray) : s.size = s.data.toList.length := by rw [Array.length_toList]; rfl
theorem sealB_size (s : ByteArray) : (sealB s).size = s.size + 4 := by
  rw [size_data, sealB_data, List.length_append, B4_length, ← size_data]
theorem Of_eq (s : ByteArray) (h : s.size ≤ 4611686018427387904) : crc_Of.f s = some (ofB s) := by
  unfold crc_Of.f; rw [if_pos h]
theorem Seal_eq (s : ByteArray) (h : s.size ≤ 4611686018427387000) : crc_Seal.f s = some (sealB s) := by
  unfold crc_Seal.f
  rw [Of_eq s (by omega)]
  simp only [Option.bind_some]
  have hz := sealB_size s
  unfold sealB at hz
  rw [ByteArray.size_append] at hz
  rw [if_pos (by omega)]
  rfl
theorem toList_eq (s : ByteArray) : s.toList = s.data.toList := ByteArray.toList_eq s
theorem cut_data (s : ByteArray) (n : Nat) : (s.extract 0 n).data.toList = s.data.toList.take n := by
  rw [ByteArray.data_extract, Array.toList_extract, List.extract_eq_take_drop]
  simp
theorem rest_data (s : ByteArray) (n : Nat) : (s.extract n s.size).data.toList = s.data.toList.drop n := by
  rw [ByteArray.data_extract, Array.toList_extract, List.extract_eq_take_drop, size_data]
  apply List.take_of_length_le
  simp
theorem Ok_eq (s : ByteArray) (h : s.size ≤ 4611686018427387000) : crc_Ok.f s = some (decide (4 ≤ s.size ∧ F ones s.data.toList = halfB 32 ones)) := by
  have hw : wrap64 ((s.size : Int) - 4) = (s.size : Int) - 4 := by unfold wrap64; omega
  unfold crc_Ok.f
  rw [hw]
  by_cases h4 : 4 ≤ s.size
  · have hn : ((s.size : Int) - 4).toNat = s.size - 4 := by omega
    rw [if_pos (by omega), if_pos (by omega), if_pos (by omega), hn]
    have hz : (s.extract 0 (s.size - 4)).size ≤ 4611686018427387000 := by
      rw [size_data, cut_data, List.length_take]
      omega
    rw [Seal_eq _ hz]
    simp only [Option.bind_some, Option.some.injEq]
    rw [toList_eq, toList_eq, sealB_data, cut_data]
    have hd : (s.data.toList.drop (s.size - 4)).length = 4 := by rw [List.length_drop, ← size_data]; omega
    have iff := sealed_iff (s.data.toList.take (s.size - 4)) (s.data.toList.drop (s.size - 4)) hd
    rw [List.take_append_drop] at iff
    rw [Bool.eq_iff_iff, beq_iff_eq, decide_eq_true_iff]
    have sp := List.take_append_drop (s.size - 4) s.data.toList
    constructor
    · intro e
      refine ⟨h4, iff.mpr ?_⟩
      have e2 := e.trans sp.symm
      exact (List.append_cancel_left e2).symm
    · intro e
      rw [← iff.mp e.2, sp]
  · rw [if_neg (by omega)]
    simp [h4]
theorem F_a : F ones [97] = (ones ^^^ 3904355907#32) := by decide +kernel
theorem F_9 : F ones [49, 50, 51, 52, 53, 54, 55, 56, 57] = (ones ^^^ 3421780262#32) := by decide +kernel
theorem F_good : F ones [0, 0, 0, 0] = halfB 32 ones := by decide +kernel
theorem F_bad : ¬ F ones [0, 0, 0, 1] = halfB 32 ones := by decide +kernel
theorem fixed_true : congresslaw01_fixed.f = some true := by
  have o0 : ofB ⟨#[]⟩ = 0 := by rw [ofB_N]; rfl
  have o1 : ofB ⟨#[97]⟩ = 3904355907 := by
    rw [ofB_N]
    show N (ones ^^^ F ones [97]) = _
    rw [F_a, xxa]; rfl
  have o2 : ofB ⟨#[49, 50, 51, 52, 53, 54, 55, 56, 57]⟩ = 3421780262 := by
    rw [ofB_N]
    show N (ones ^^^ F ones [49, 50, 51, 52, 53, 54, 55, 56, 57]) = _
    rw [F_9, xxa]; rfl
  have o3 : (sealB ⟨#[]⟩).toList = [0, 0, 0, 0] := by
    rw [toList_eq, sealB_data]
    have : F ones [] = ones := rfl
    show [] ++ B4 (ones ^^^ F ones []) = _
    rw [this, BitVec.xor_self]; rfl
  have o4 : decide (4 ≤ (⟨#[0, 0, 0, 0]⟩ : ByteArray).size ∧ F ones (⟨#[0, 0, 0, 0]⟩ : ByteArray).data.toList = halfB 32 ones) = true := decide_eq_true ⟨by decide, F_good⟩
  have o5 : decide (4 ≤ (⟨#[0, 0, 0, 1]⟩ : ByteArray).size ∧ F ones (⟨#[0, 0, 0, 1]⟩ : ByteArray).data.toList = halfB 32 ones) = false := decide_eq_false fun h => F_bad h.2
  have o6 : decide (4 ≤ (⟨#[]⟩ : ByteArray).size ∧ F ones (⟨#[]⟩ : ByteArray).data.toList = halfB 32 ones) = false := decide_eq_false fun h => absurd h.1 (by decide)
  unfold congresslaw01_fixed.f
  rw [Of_eq ⟨#[]⟩ (by decide), o0, Of_eq ⟨#[97]⟩ (by decide), o1, Of_eq ⟨#[49, 50, 51, 52, 53, 54, 55, 56, 57]⟩ (by decide), o2, Seal_eq ⟨#[]⟩ (by decide), Ok_eq ⟨#[0, 0, 0, 0]⟩ (by decide), o4, Ok_eq ⟨#[0, 0, 0, 1]⟩ (by decide), o5, Ok_eq ⟨#[]⟩ (by decide), o6]
  simp only [Option.bind_some, if_true, o3, Bool.false_eq_true, if_false, Bool.not_false]
end Go.Proofs.Ytnlecbngkemllaa.Crc
