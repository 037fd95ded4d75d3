/- What the reference's Xor answers. -/
import Derived.Test.YtnlecbngkemllaaBRow
import Derived.StillTailTactics
import Derived.BigRegion
namespace Go.Proofs.Ytnlecbngkemllaa.P
open Go.RowKit Go.Proofs.YtnlecbngkemllaaW.PrintWords Go.Proofs.YtnlecbngkemllaaW.PrintLast Go.Proofs.YtnlecbngkemllaaW.PrintMore

def xorAt (a b c : ByteArray) (i : Nat) : Int := Go.bits .xor .u8 (Go.bits .xor .u8 (bt a i) (bt b i)) (bt c i)
def xorL (a b c : ByteArray) (k : Nat) : List Int := (List.range a.size).map fun i => if i < k then xorAt a b c i else bt a i
theorem xorL_length (a b c : ByteArray) (k : Nat) : (xorL a b c k).length = a.size := by simp [xorL]
theorem xorL_zero (a b c : ByteArray) : xorL a b c 0 = bytesOf a := by
  apply List.ext_getElem?
  intro i
  unfold xorL
  rw [List.getElem?_map]
  by_cases h : i < a.size
  · rw [List.getElem?_range h]
    have e := rd_bytesOf a i
    unfold rd at e
    rw [Int.toNat_natCast, List.getD_eq_getElem?_getD, List.getElem?_eq_getElem (by rw [bytesOf_length]; exact h)] at e
    rw [List.getElem?_eq_getElem (by rw [bytesOf_length]; exact h)]
    simp only [Option.map_some, Nat.not_lt_zero, if_false, Option.some.injEq]
    exact e.symm
  · rw [List.getElem?_eq_none (by simp; omega), List.getElem?_eq_none (by rw [bytesOf_length]; omega)]
    rfl
theorem xorL_at (a b c : ByteArray) (k : Nat) (h : k < a.size) : (xorL a b c k).getD k 0 = bt a k := by
  unfold xorL
  rw [List.getD_eq_getElem?_getD, List.getElem?_map, List.getElem?_range h]
  simp
theorem xorL_set (a b c : ByteArray) (k : Nat) : (xorL a b c k).set k (xorAt a b c k) = xorL a b c (k + 1) := by
  apply List.ext_getElem?
  intro i
  rw [List.getElem?_set, xorL_length]
  unfold xorL
  rw [List.getElem?_map, List.getElem?_map]
  by_cases hi : i < a.size
  · simp only [List.getElem?_range hi, Option.map_some]
    by_cases e : k = i
    · subst e; simp [hi]
    · simp only [e, if_false]
      by_cases e2 : i < k
      · simp [e2, show i < k + 1 by omega]
      · simp [e2, show ¬ i < k + 1 by omega]
  · have : (List.range a.size)[i]? = none := by simp; omega
    simp [this]; omega
theorem bt_nat (s : ByteArray) (k : Nat) (h : k < s.size) : ((s[k]'h).toNat : Int) = bt s k := by simp [bt, h]
set_option maxHeartbeats 800000 in
theorem xor_any (a b c : ByteArray) (ha : a.size ≤ 4611686018427387904) (hb : a.size ≤ b.size) (hc : a.size ≤ c.size) (w : World) :
    Calls Try.prog 10 #[.string a, .string b, .string c] w fun e w' => e = .returned (.string (strOfNums (xorL a b c a.size))) ∧ Below w.heap.size w w' := by
  have hcv := fun W => Lib.run_convert_string_bytes (P := Try.prog) W 9 35 5 a Try.underlying9 Try.underlying35 Try.underlying5
  go_enter Try.func10, Try.ntmps10
  go_wp2
  have HB0 := Aside0.mk (BRow.made w a)
  have HL0 := Aside0.mk (bytes_below (Below.refl w.heap.size w) (Nat.le_refl _) 5 a)
  go_loopw [8] (fun i wr => ∃ k : Nat, k ≤ a.size ∧ i = .int .i64 k ∧ Aside0 (BRow wr w.heap.size (xorL a b c k)) ∧ Aside0 (Below w.heap.size w wr)) (fun i _ => a.size - (intOf i).toNat)
  case atStart => exact ⟨0, by omega, rfl, ⟨by rw [xorL_zero]; exact HB0.out⟩, HL0⟩
  case round =>
    obtain ⟨k, hk, rfl, HR, HL⟩ := hrel
    by_cases hlt : k < a.size
    · have hcell := HR.out.cell k (by rw [xorL_length]; exact hlt)
      rw [xorL_at a b c k hlt] at hcell
      have hfr := HR.out.frozen k (by rw [xorL_length]; exact hlt)
      have hkb : k < b.size := by omega
      have hkc : k < c.size := by omega
      go_wp2
      go_still_tail 15, (by kernel_rfl)
      change wpList _ _ _ _ _ wr.drew
      have hcell2 : wr.drew.cell? ⟨w.heap.size, k, none⟩ = some (.int .u8 (bt a k)) := hcell
      have hfr2 : wr.drew.frozen? ⟨w.heap.size, k, none⟩ = false := hfr
      have HR2 : Aside0 (BRow wr.drew w.heap.size (xorL a b c k)) := ⟨HR.out.drew⟩
      have HL2 : Aside0 (Below w.heap.size w wr.drew) := ⟨HL.out.drew⟩
      generalize wr.drew = w2 at hcell2 hfr2 HR2 HL2
      have HE : Aside0 (Go.bits .xor .u8 (Go.bits .xor .u8 (bt a k) ((b[k]'hkb).toNat : Int)) ((c[k]'hkc).toNat : Int) = xorAt a b c k) := ⟨by rw [bt_nat b k hkb, bt_nat c k hkc]; rfl⟩
      clear hcell hfr
      go_wp2
      go_roundw
      case rel => exact ⟨k + 1, by omega, by go_num, ⟨by rw [HE.out, ← xorL_set]; exact HR2.out.set k _⟩, ⟨HL2.out.setCell (Nat.le_refl _) _⟩⟩
      case measure => simp [intOf]; omega
    · obtain rfl : k = a.size := by omega
      have hs1 := HR.out.str (grownCap w a.size 0 5)
      rw [xorL_length] at hs1
      go_wp2
      go_ret
      exact ⟨rfl, HL.out⟩
def congressref01_Xor.f (a0 a1 a2 : ByteArray) : Option ByteArray :=
  if a0.size ≤ 4611686018427387904 ∧ a0.size ≤ a1.size ∧ a0.size ≤ a2.size then some (strOfNums (xorL a0 a1 a2 a0.size)) else none
theorem congressref01_Xor.calls (a0 a1 a2 : ByteArray) (r : ByteArray) (w : World) (h : congressref01_Xor.f a0 a1 a2 = some r) :
    Calls Try.prog 10 #[.string a0, .string a1, .string a2] w fun e w' => e = .returned (.string r) ∧ Below w.heap.size w w' := by
  unfold congressref01_Xor.f at h
  split at h
  · rename_i hs
    obtain rfl := Option.some.inj h
    exact xor_any a0 a1 a2 hs.1 hs.2.1 hs.2.2 w
  · cases h
end Go.Proofs.Ytnlecbngkemllaa.P
