/- One step of the program and of the reference, over bit vectors. -/
import Derived.Test.YtnlecbngkemllaaFour
namespace Go.Proofs.Ytnlecbngkemllaa.Crc
open Go.RowKit Go.Proofs.Ytnlecbngkemllaa.P Go.Proofs.YtnlecbngkemllaaW.PrintWords Go.Proofs.YtnlecbngkemllaaW.PrintLast

theorem wrap_one (n : Int) (h0 : 0 ≤ n) (h1 : n ≤ 4611686018427387904) : wrap64 (n + 1) = n + 1 := by unfold wrap64; omega
theorem step_loop (d : Nat) : ∀ (k : Nat) (b : BitVec 32) (i : Int), 0 ≤ i → i + d = 8 → d < k → crc_Step.l0 k (N b) i = some (N (halfB d b)) := by
  induction d with
  | zero =>
    intro k b i h0 h1 hk
    obtain ⟨k, rfl⟩ : ∃ m, k = m + 1 := ⟨k - 1, by omega⟩
    simp only [crc_Step.l0]
    rw [if_neg (by omega)]
    rfl
  | succ d ih =>
    intro k b i h0 h1 hk
    obtain ⟨k, rfl⟩ : ∃ m, k = m + 1 := ⟨k - 1, by omega⟩
    have e := hs_N b
    unfold hs at e
    simp only [crc_Step.l0]
    rw [if_pos (by omega), wrap_one i h0 (by omega)]
    have c : halfB (d + 1) b = halfB d (hsB b) := by rw [halfB_add d 1]; rfl
    rw [c, ← ih k (hsB b) (i + 1) (by omega) (by omega) (by omega), ← e]
    split <;> rfl
theorem Step_eq (k : Nat) (hk : 8 < k) (b : BitVec 32) (c : UInt8) : crc_Step.f k (N b) (c.toNat : Int) = some (N (stepB b c)) := by
  unfold crc_Step.f stepB
  rw [by8_N, bits_xor]
  exact step_loop 8 k _ 0 (by omega) (by omega) hk
theorem rstep_loop (d : Nat) : ∀ (k : Nat) (b : BitVec 32) (i : Int), 0 ≤ i → i + d = 8 → d < k → congressref01_Step.l0 k (N b) i = some (N (halfB d b)) := by
  induction d with
  | zero =>
    intro k b i h0 h1 hk
    obtain ⟨k, rfl⟩ : ∃ m, k = m + 1 := ⟨k - 1, by omega⟩
    simp only [congressref01_Step.l0]
    rw [if_neg (by omega)]
    rfl
  | succ d ih =>
    intro k b i h0 h1 hk
    obtain ⟨k, rfl⟩ : ∃ m, k = m + 1 := ⟨k - 1, by omega⟩
    have hb := N_range b
    have e := hs_N b
    unfold hs at e
    have m1 : (Int.tmod (N b) 2 = 1) ↔ Go.bits .and .u32 (N b) 1 = 1 := by
      have e1 : (1 : Int) = N 1#32 := rfl
      have e3 : Go.bits .and .u32 (N b) 1 = N (b &&& 1#32) := by rw [e1, bits_and]
      rw [e3, and_one, lsb_iff, Int.tmod_eq_emod_of_nonneg hb.1]
      unfold N
      omega
    have d1 : (Int.tdiv (N b) 2) % 4294967296 = N b / 2 := by
      rw [Int.tdiv_eq_ediv_of_nonneg hb.1]; omega
    simp only [congressref01_Step.l0]
    rw [if_pos (by omega), wrap_one i h0 (by omega), d1]
    have c : halfB (d + 1) b = halfB d (hsB b) := by rw [halfB_add d 1]; rfl
    rw [c, ← ih k (hsB b) (i + 1) (by omega) (by omega) (by omega), ← e]
    by_cases q : Go.bits .and .u32 (N b) 1 = 1
    · rw [if_pos (m1.mpr q), if_pos q]
    · rw [if_neg (fun h => q (m1.mp h)), if_neg q]
theorem RStep_eq (k : Nat) (hk : 8 < k) (b : BitVec 32) (c : UInt8) : congressref01_Step.f k (N b) (c.toNat : Int) = some (N (stepB b c)) := by
  unfold congressref01_Step.f stepB
  rw [by8_N, bits_xor]
  exact rstep_loop 8 k _ 0 (by omega) (by omega) hk
theorem bt_list (s : ByteArray) (i : Nat) (h : i < s.data.toList.length) : bt s i = (s.data.toList[i].toNat : Int) := by
  have h2 : i < s.size := by rw [size_data]; exact h
  have e : ((s[i]'h2).toNat : Int) = bt s i := by simp [bt, h2]
  exact e.symm
theorem compl (b : BitVec 32) : (4294967295 - N b) % 4294967296 = N (ones ^^^ b) := by
  have e : ones ^^^ b = ~~~b := by rw [← BitVec.allOnes_xor]; rfl
  have hb := N_range b
  rw [e]
  unfold N at *
  rw [BitVec.toNat_not]
  omega
theorem rof_loop (s : ByteArray) (hs : s.size ≤ 4611686018427387000) (d : Nat) : ∀ (k : Nat) (b : BitVec 32) (i : Nat), i + d = s.size → d + 9 < k →
    congressref01_Of.l0 k s (N b) i = some (N (ones ^^^ F b (s.data.toList.drop i))) := by
  induction d with
  | zero =>
    intro k b i h1 hk
    obtain ⟨k, rfl⟩ : ∃ m, k = m + 1 := ⟨k - 1, by omega⟩
    simp only [congressref01_Of.l0]
    rw [if_neg (by omega), compl, List.drop_eq_nil_of_le (by rw [← size_data]; omega)]
    rfl
  | succ d ih =>
    intro k b i h1 hk
    obtain ⟨k, rfl⟩ : ∃ m, k = m + 1 := ⟨k - 1, by omega⟩
    have hi : i < s.data.toList.length := by rw [← size_data]; omega
    simp only [congressref01_Of.l0]
    rw [if_pos (by omega), if_pos (by omega), wrap_one i (by omega) (by omega), bt_list s i hi, RStep_eq k (by omega)]
    simp only [Option.bind_some]
    have := ih k (stepB b s.data.toList[i]) (i + 1) (by omega) (by omega)
    rw [Int.natCast_add] at this
    have e1 : ((1 : Nat) : Int) = 1 := rfl
    rw [e1] at this
    rw [this, List.drop_eq_getElem_cons hi]
    rfl
theorem ROf_eq (s : ByteArray) (hs : s.size ≤ 4611686018427387000) (k : Nat) (hk : s.size + 9 < k) : congressref01_Of.f k s = some (ofB s) := by
  unfold congressref01_Of.f
  have := rof_loop s hs s.size k ones 0 (by omega) hk
  rw [ofB_N]
  exact this
theorem RFour_eq (k : Nat) (hk : 5 ≤ k) (v : BitVec 32) : congressref01_Four.f k (N v) = some (strOfNums [N v % 256, (N v / 256) % 256, (N v / 65536) % 256, (N v / 16777216) % 256]) :=
  at_rounds (g := fun k => congressref01_Four.f k (N v)) (congressref01_Four.mono _) hk (Four_eq v)
end Go.Proofs.Ytnlecbngkemllaa.Crc
