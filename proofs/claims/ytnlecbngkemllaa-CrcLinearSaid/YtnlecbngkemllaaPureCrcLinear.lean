/- The one plain statement of CrcLinear, out of the sum's laws over bit vectors. -/
import Derived.Test.YtnlecbngkemllaaB1
import Derived.Test.YtnlecbngkemllaaSealed
namespace Go.Proofs.Ytnlecbngkemllaa.Pure
open Go.RowKit Go.Proofs.Ytnlecbngkemllaa.B Go.Proofs.Ytnlecbngkemllaa.Crc Go.Proofs.YtnlecbngkemllaaW.PrintWords Go.Proofs.YtnlecbngkemllaaW.PrintLast

open Go.Proofs.Ytnlecbngkemllaa.P
theorem xor_byte (x y z : UInt8) : UInt8.ofNat (Go.bits .xor .u8 (Go.bits .xor .u8 (x.toNat : Int) (y.toNat : Int)) (z.toNat : Int)).toNat = (x ^^^ y) ^^^ z := by
  have one : ∀ a b : UInt8, Go.bits .xor .u8 (a.toNat : Int) (b.toNat : Int) = ((a ^^^ b).toNat : Int) := by
    intro a b
    have h : Go.bits .xor .u8 (a.toNat : Int) (b.toNat : Int) = IntKind.u8.wrap (((BitVec.ofInt 8 (a.toNat : Int) ^^^ BitVec.ofInt 8 (b.toNat : Int)).toNat : Nat) : Int) := rfl
    rw [h, BitVec.ofInt_natCast, BitVec.ofInt_natCast, BitVec.toNat_xor, BitVec.toNat_ofNat, BitVec.toNat_ofNat, UInt8.toNat_xor, IntKind.wrap_u8]
    have h1 := a.toNat_lt
    have h2 := b.toNat_lt
    have h3 : a.toNat ^^^ b.toNat < 2 ^ 8 := Nat.xor_lt_two_pow h1 h2
    rw [Nat.mod_eq_of_lt h1, Nat.mod_eq_of_lt h2]
    omega
  rw [one, one, Int.toNat_natCast]
  exact UInt8.ofNat_toNat
theorem xor_data (a b c : ByteArray) (h1 : a.size = b.size) (h2 : a.size = c.size) :
    (strOfNums (xorL a b c a.size)).data.toList = List.zipWith (· ^^^ ·) (List.zipWith (· ^^^ ·) a.data.toList b.data.toList) c.data.toList := by
  rw [strOfNums_data]
  apply List.ext_getElem?
  intro i
  by_cases hi : i < a.size
  · have ha : i < a.data.toList.length := by rw [← size_data]; exact hi
    have hb : i < b.data.toList.length := by rw [← size_data]; omega
    have hc : i < c.data.toList.length := by rw [← size_data]; omega
    have bta : bt a i = (a.data.toList[i].toNat : Int) := (bt_nat a i hi).symm
    have btb : bt b i = (b.data.toList[i].toNat : Int) := (bt_nat b i (by omega)).symm
    have btc : bt c i = (c.data.toList[i].toNat : Int) := (bt_nat c i (by omega)).symm
    unfold xorL
    rw [List.getElem?_map, List.getElem?_map, List.getElem?_range hi]
    simp only [Option.map_some, if_pos hi, xorAt]
    rw [bta, btb, btc, xor_byte]
    rw [List.getElem?_zipWith, List.getElem?_zipWith, List.getElem?_eq_getElem ha, List.getElem?_eq_getElem hb, List.getElem?_eq_getElem hc]
  · rw [List.getElem?_eq_none, List.getElem?_eq_none]
    · simp only [List.length_zipWith, ← size_data]; omega
    · simp [xorL]; omega
theorem CrcLinear : congresslaw01_CrcLinear.Pure := by
  intro a b c ha hb hc
  refine ⟨1, ?_⟩
  have j0 : ∀ q : Bool, (q = true ∨ (a.size = b.size ∧ a.size = c.size)) → congresslaw01_CrcLinear.j0 1 a b c q = some true := by
    intro q hq
    simp only [congresslaw01_CrcLinear.j0]
    by_cases k : q = true
    · rw [if_pos k, fixed_true]; rfl
    · obtain ⟨h1, h2⟩ := hq.resolve_left k
      have hx : congressref01_Xor.f a b c = some (strOfNums (xorL a b c a.size)) := by
        unfold congressref01_Xor.f
        rw [if_pos ⟨by omega, by omega, by omega⟩]
      have hz : (strOfNums (xorL a b c a.size)).size ≤ 4611686018427387904 := by rw [strOfNums_size, xorL_length]; omega
      rw [if_neg k, Of_eq a (by omega), Of_eq b (by omega), Of_eq c (by omega), hx]
      simp only [Option.bind_some]
      rw [Of_eq _ hz]
      simp only [Option.bind_some, Option.some.injEq]
      rw [ofB_N, ofB_N, ofB_N, ofB_N, bits_xor, bits_xor, xor_data a b c h1 h2, beq_iff_eq]
      congr 1
      have la : a.data.toList.length = b.data.toList.length := by rw [← size_data, ← size_data, h1]
      have lc : (List.zipWith (· ^^^ ·) a.data.toList b.data.toList).length = c.data.toList.length := by rw [List.length_zipWith, ← size_data, ← size_data, ← size_data]; omega
      have e1 := F_xor a.data.toList b.data.toList ones ones la
      have e2 := F_xor (List.zipWith (· ^^^ ·) a.data.toList b.data.toList) c.data.toList (ones ^^^ ones) ones lc
      rw [e1, BitVec.xor_self, BitVec.zero_xor] at e2
      rw [e2]
      generalize F ones a.data.toList = x
      generalize F ones b.data.toList = y
      generalize F ones c.data.toList = z
      rw [BitVec.xor_assoc, BitVec.xor_assoc, BitVec.xor_assoc ones y, xlc y ones, xxa, BitVec.xor_assoc x y z]
  unfold congresslaw01_CrcLinear.f
  rw [fixed_true]
  simp only [Option.bind_some, if_true]
  by_cases h : (a.size : Int) = (b.size : Int)
  · rw [if_pos h]
    apply j0
    by_cases h4 : (a.size : Int) = (c.size : Int)
    · right; exact ⟨by omega, by omega⟩
    · left; exact bne_iff_ne.mpr h4
  · rw [if_neg h]
    exact j0 true (Or.inl rfl)

end Go.Proofs.Ytnlecbngkemllaa.Pure
