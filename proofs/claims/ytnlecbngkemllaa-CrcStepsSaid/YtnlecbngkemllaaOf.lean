/- What crc's Of answers: the sum by the table of half bytes. -/
import Derived.Test.YtnlecbngkemllaaNib
namespace Go.Proofs.Ytnlecbngkemllaa.P
open Go.RowKit Go.Proofs.YtnlecbngkemllaaW.PrintWords Go.Proofs.YtnlecbngkemllaaW.PrintLast Go.Proofs.YtnlecbngkemllaaW.PrintMore

/-- A register and half a byte more, by the table. -/
def nib (x : Int) : Int := Go.bits .xor .u32 (x / 16) (half 4 (Go.bits .and .u32 x 15))
def byt (x : Int) (c : UInt8) : Int := nib (nib (Go.bits .xor .u32 x ((c.toNat : Int) % 4294967296)))
theorem tabL_in (n : Nat) (h : n < 16) : (tabL 16)[n]? = some (.int .u32 (half 4 n)) := by
  unfold tabL; simp [h]
theorem and15 (x : Int) : 0 ≤ Go.bits .and .u32 x 15 ∧ Go.bits .and .u32 x 15 < 16 := by
  unfold Go.bits
  simp only [IntKind.wrap_u32]
  have h : (BitVec.ofInt (IntKind.bits .u32) x &&& BitVec.ofInt (IntKind.bits .u32) 15).toNat < 16 := by
    rw [BitVec.toNat_and]
    exact Nat.lt_of_le_of_lt Nat.and_le_right (by decide)
  omega
theorem tab_at (y : Int) : (tabL 16)[(Go.bits .and .u32 y 15).toNat]? = some (.int .u32 (half 4 (Go.bits .and .u32 y 15))) := by
  have h := and15 y
  rw [tabL_in _ (by omega), Int.toNat_of_nonneg h.1]
theorem take_snoc (s : ByteArray) (k : Nat) (h : k < s.size) : s.data.toList.take (k + 1) = s.data.toList.take k ++ [s[k]] := by
  rw [List.take_succ_eq_append_getElem (by simpa using h)]; rfl
/-- The sum of a text. -/
def ofB (s : ByteArray) : Int := Go.bits .xor .u32 IntKind.u32.max (s.data.toList.foldl byt 4294967295)
set_option maxHeartbeats 800000 in
theorem of_any (s : ByteArray) (hs : s.size ≤ 4611686018427387904) (w : World) : Calls Try.prog 9 #[.string s] w fun e w' => e = .returned (.int .u32 (ofB s)) ∧ Below w.heap.size w w' := by
  go_enter Try.func9, Try.ntmps9
  go_wp2_with (first | (go_at_call 19; refine (nib_any _).mono ?_; rintro e w1 ⟨rfl, hb1⟩; rw [tab16]))
  rw [← tab16]
  go_loop [4, 9] (fun x c => ∃ k : Nat, k ≤ s.size ∧ c = .int .i64 k ∧ x = .int .u32 ((s.data.toList.take k).foldl byt 4294967295)) (fun _ c => s.size - (intOf c).toNat)
  case atStart => exact ⟨0, by omega, rfl, rfl⟩
  case round =>
    obtain ⟨k, hk, rfl, rfl⟩ := hrel
    obtain ⟨x, hx⟩ : ∃ x, (s.data.toList.take k).foldl byt 4294967295 = x := ⟨_, rfl⟩
    rw [hx]
    by_cases hlt : k < s.size
    · have HX : Aside0 ((s.data.toList.take (k + 1)).foldl byt 4294967295 = byt x s[k]) := Aside0.mk (by rw [take_snoc s k hlt, List.foldl_append, hx]; rfl)
      clear hx
      have p1 := and15 (Go.bits .xor .u32 x ((s[k].toNat : Int) % 4294967296))
      have e1 := tab_at (Go.bits .xor .u32 x ((s[k].toNat : Int) % 4294967296))
      have p2 := and15 (Go.bits .xor .u32 (Go.bits .xor .u32 x ((s[k].toNat : Int) % 4294967296) / 16) (half 4 (Go.bits .and .u32 (Go.bits .xor .u32 x ((s[k].toNat : Int) % 4294967296)) 15)))
      have e2 := tab_at (Go.bits .xor .u32 (Go.bits .xor .u32 x ((s[k].toNat : Int) % 4294967296) / 16) (half 4 (Go.bits .and .u32 (Go.bits .xor .u32 x ((s[k].toNat : Int) % 4294967296)) 15)))
      go_wp2
      go_round
      case rel => exact ⟨k + 1, by omega, by go_num, by rw [HX.out]; rfl⟩
      case measure => simp [intOf]; omega
    · have HX : Aside0 (ofB s = Go.bits .xor .u32 IntKind.u32.max x) := Aside0.mk (by rw [← hx, List.take_of_length_le (by simp; omega)]; rfl)
      clear hx
      go_wp2
      go_ret
      exact ⟨by rw [HX.out]; rfl, hb1.alloc hb1.size _⟩
def crc_Of.f (a0 : ByteArray) : Option Int := if a0.size ≤ 4611686018427387904 then some (ofB a0) else none
theorem crc_Of.calls (a0 : ByteArray) (r : Int) (w : World) (h : crc_Of.f a0 = some r) :
    Calls Try.prog 9 #[.string a0] w fun e w' => e = .returned (.int .u32 r) ∧ Below w.heap.size w w' := by
  unfold crc_Of.f at h
  split at h
  · rename_i hs
    obtain rfl := Option.some.inj h
    exact of_any a0 hs w
  · cases h
end Go.Proofs.Ytnlecbngkemllaa.P
