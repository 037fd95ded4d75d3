/- Part of the proof of TopEntries: crc.Of: its contract. -/
import Derived.Test.YtcmohdedlclcgaaGreatDoorProg
import Derived.Below
import Derived.Deep.Draws
import Derived.Deep.AppendLies
import Derived.Maps.AppendAt
import Derived.OwnWalk
import Derived.Laws.BytesArg
import Derived.Laws.MakeOwn
import Derived.Laws.OwnMore
import Derived.Deep.OwnRows
import Derived.Tactics
import Derived.Lib.ConvBytes
import Derived.Laws.Slices
import Derived.WalkKit
import Derived.KernelRfl
import Derived.RowKit3
import Derived.Deep.LoopGhost
import Derived.Deep.QuietTactic
import Derived.BigQuiet
import Derived.WideLaws
import Derived.Deep.DeepCutAuto
import Derived.Deep.CutBlock
import Derived.Deep.RegionHeld3
import Derived.Laws.Rows
import Derived.Lib.AppendStr
import Derived.ArgAppend
import Derived.Laws.IdiomCopy
import Derived.OrdersHeld
import Derived.Laws.BitsLemmas
import Derived.RowKit
set_option linter.unusedVariables false
set_option linter.unusedSimpArgs false
set_option linter.unusedSectionVars false
/- What crc's nibbles answer: the table of the sixteen half bytes. -/
open Go.Proofs
namespace Go.Ex.Crc
open Go.RowKit
/-- a fact that is laid aside -/
structure Aside0 (p : Prop) : Prop where
  out : p

/-- One bit's step of a register. -/
def hs (r : Int) : Int := if (Go.bits .and .u32 r 1) = 1 then Go.bits .xor .u32 (r / 2) 3988292384 else r / 2
def half : Nat → Int → Int
  | 0, r => r
  | j + 1, r => hs (half j r)
def tabL (k : Nat) : List Value := (List.range 16).map fun i => if i < k then .int .u32 (half 4 i) else .int .u32 0
theorem tabL_at (k : Nat) (h : k < 16) : (tabL k)[k]? = some (.int .u32 0) := by
  unfold tabL; simp [h]
theorem tabL_set (k : Nat) (h : k < 16) : (tabL k).set k (.int .u32 (half 4 k)) = tabL (k + 1) := by
  apply List.ext_getElem?
  intro i
  rw [List.getElem?_set]
  unfold tabL
  simp only [List.length_map, List.length_range, List.getElem?_map]
  by_cases hi : i < 16
  · simp only [List.getElem?_range hi, Option.map_some]
    by_cases e : k = i
    · subst e; simp [h]
    · simp only [e, if_false]
      by_cases e2 : i < k
      · simp [e2, show i < k + 1 by omega]
      · simp [e2, show ¬ i < k + 1 by omega]
  · have : (List.range 16)[i]? = none := by simp; omega
    simp [this]; omega
theorem tab16 : (tabL 16).toArray = #[.int .u32 0, .int .u32 498536548, .int .u32 997073096, .int .u32 651767980, .int .u32 1994146192, .int .u32 1802195444, .int .u32 1303535960, .int .u32 1342533948, .int .u32 3988292384, .int .u32 4027552580, .int .u32 3604390888, .int .u32 3412177804, .int .u32 2607071920, .int .u32 2262029012, .int .u32 2685067896, .int .u32 3183342108] := by kernel_rfl
theorem tab0 : (tabL 0).toArray = #[.int .u32 0, .int .u32 0, .int .u32 0, .int .u32 0, .int .u32 0, .int .u32 0, .int .u32 0, .int .u32 0, .int .u32 0, .int .u32 0, .int .u32 0, .int .u32 0, .int .u32 0, .int .u32 0, .int .u32 0, .int .u32 0] := by kernel_rfl
set_option maxHeartbeats 800000 in
theorem nib_any (w : World) : Calls Tryz.prog 61 #[] w fun e w' => e = .returned (.agg (tabL 16).toArray) ∧ Below w.heap.size w w' := by
  go_enter Tryz.func61, Tryz.ntmps61
  go_wp2
  go_loopw [2, 5] (fun _ c wr => ∃ k : Nat, k ≤ 16 ∧ c = .int .i64 k ∧ wr = (w.alloc (.cells (tabL 0).toArray 171)).alloc (.cells (tabL k).toArray 171)) (fun _ c _ => 16 - (intOf c).toNat)
  case atStart => exact ⟨0, by omega, rfl, rfl⟩
  case round =>
    obtain ⟨k, hk, rfl, rfl⟩ := hrel
    by_cases hlt : k < 16
    · have HT := tabL_at k hlt
      go_wp2
      go_loop [3, 10] (fun r c => ∃ j : Nat, j ≤ 4 ∧ c = .int .i64 j ∧ r = .int .u32 (half j k)) (fun _ c => 4 - (intOf c).toNat)
      case atStart => exact ⟨0, by omega, rfl, rfl⟩
      case round =>
        obtain ⟨j, hj, rfl, rfl⟩ := hrel
        by_cases hlt2 : j < 4
        · by_cases hb : (Go.bits .and .u32 (half j k) 1) = 1
          · have hb1 : (Go.bits .and .u32 (half j k) 1 == 1) = true := beq_iff_eq.mpr hb
            have HE : Aside0 (half (j + 1) k = Go.bits .xor .u32 (half j k / 2) 3988292384) := Aside0.mk (by simp only [half, hs]; rw [if_pos hb])
            clear hb
            go_wp2
            go_round
            case rel => exact ⟨j + 1, by omega, by go_num, by rw [HE.out]⟩
            case measure => simp [intOf]; omega
          · have hb1 : (Go.bits .and .u32 (half j k) 1 == 1) = false := beq_eq_false_iff_ne.mpr hb
            have HE : Aside0 (half (j + 1) k = half j k / 2) := Aside0.mk (by simp only [half, hs]; rw [if_neg hb])
            clear hb
            go_wp2
            go_round
            case rel => exact ⟨j + 1, by omega, by go_num, by rw [HE.out]⟩
            case measure => simp [intOf]; omega
        · obtain rfl : j = 4 := by omega
          go_wp2
          go_roundw
          case rel => exact ⟨k + 1, by omega, by go_num, by rw [tabL_set k hlt]⟩
          case measure => simp [intOf]; omega
    · obtain rfl : k = 16 := by omega
      rw [tab16, tab0]
      go_wp2
      refine bodyPost_ret (v := .agg (tabL 16).toArray) (by rw [tab16]; simp [results, Tryz.results61, go_sem]) rfl ⟨rfl, ?_⟩
      exact ((Below.refl _ _).alloc (Nat.le_refl _) _).alloc (by simp) _
/-- A register and half a byte more, by the table. -/
def nib (x : Int) : Int := Go.bits .xor .u32 (x / 16) (half 4 (Go.bits .and .u32 x 15))
def byt (x : Int) (c : UInt8) : Int := nib (nib (Go.bits .xor .u32 x ((c.toNat : Int) % 4294967296)))
theorem tabL_in (n : Nat) (h : n < 16) : (tabL 16)[n]? = some (.int .u32 (half 4 n)) := by
  unfold tabL; simp [h]
theorem and15 (x : Int) : 0 ≤ Go.bits .and .u32 x 15 ∧ Go.bits .and .u32 x 15 < 16 := by
  unfold Go.bits
  simp only [IntKind.wrap_u32]
  have h : (BitVec.ofInt (IntKind.bits .u32) x &&& BitVec.ofInt (IntKind.bits .u32) 15).toNat < 16 := by
    rw [BitVec.toNat_and]
    exact Nat.lt_of_le_of_lt Nat.and_le_right (by decide)
  omega
theorem tab_at (y : Int) : (tabL 16)[(Go.bits .and .u32 y 15).toNat]? = some (.int .u32 (half 4 (Go.bits .and .u32 y 15))) := by
  have h := and15 y
  rw [tabL_in _ (by omega), Int.toNat_of_nonneg h.1]
theorem take_snoc (s : ByteArray) (k : Nat) (h : k < s.size) : s.data.toList.take (k + 1) = s.data.toList.take k ++ [s[k]] := by
  rw [List.take_succ_eq_append_getElem (by simpa using h)]; rfl
/-- The sum of a text. -/
def ofB (s : ByteArray) : Int := Go.bits .xor .u32 IntKind.u32.max (s.data.toList.foldl byt 4294967295)
set_option maxHeartbeats 800000 in
theorem of_any (s : ByteArray) (hs : s.size ≤ 4611686018427387904) (w : World) : Calls Tryz.prog 48 #[.string s] w fun e w' => e = .returned (.int .u32 (ofB s)) ∧ Below w.heap.size w w' := by
  go_enter Tryz.func48, Tryz.ntmps48
  go_wp2_with (first | (go_at_call 61; refine (nib_any _).mono ?_; rintro e w1 ⟨rfl, hb1⟩; rw [tab16]))
  rw [← tab16]
  go_loop [4, 9] (fun x c => ∃ k : Nat, k ≤ s.size ∧ c = .int .i64 k ∧ x = .int .u32 ((s.data.toList.take k).foldl byt 4294967295)) (fun _ c => s.size - (intOf c).toNat)
  case atStart => exact ⟨0, by omega, rfl, rfl⟩
  case round =>
    obtain ⟨k, hk, rfl, rfl⟩ := hrel
    obtain ⟨x, hx⟩ : ∃ x, (s.data.toList.take k).foldl byt 4294967295 = x := ⟨_, rfl⟩
    rw [hx]
    by_cases hlt : k < s.size
    · have HX : Aside0 ((s.data.toList.take (k + 1)).foldl byt 4294967295 = byt x s[k]) := Aside0.mk (by rw [take_snoc s k hlt, List.foldl_append, hx]; rfl)
      clear hx
      have p1 := and15 (Go.bits .xor .u32 x ((s[k].toNat : Int) % 4294967296))
      have e1 := tab_at (Go.bits .xor .u32 x ((s[k].toNat : Int) % 4294967296))
      have p2 := and15 (Go.bits .xor .u32 (Go.bits .xor .u32 x ((s[k].toNat : Int) % 4294967296) / 16) (half 4 (Go.bits .and .u32 (Go.bits .xor .u32 x ((s[k].toNat : Int) % 4294967296)) 15)))
      have e2 := tab_at (Go.bits .xor .u32 (Go.bits .xor .u32 x ((s[k].toNat : Int) % 4294967296) / 16) (half 4 (Go.bits .and .u32 (Go.bits .xor .u32 x ((s[k].toNat : Int) % 4294967296)) 15)))
      go_wp2
      go_round
      case rel => exact ⟨k + 1, by omega, by go_num, by rw [HX.out]; rfl⟩
      case measure => simp [intOf]; omega
    · have HX : Aside0 (ofB s = Go.bits .xor .u32 IntKind.u32.max x) := Aside0.mk (by rw [← hx, List.take_of_length_le (by simp; omega)]; rfl)
      clear hx
      go_wp2
      go_ret
      exact ⟨by rw [HX.out]; rfl, hb1.alloc hb1.size _⟩
end Go.Ex.Crc
