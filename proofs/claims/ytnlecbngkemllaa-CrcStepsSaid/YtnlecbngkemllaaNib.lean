/- What crc's nibbles answer: the table of the sixteen half bytes. -/
import Derived.Test.YtnlecbngkemllaaProg
import Derived.Below
import Derived.Deep.Draws
import Derived.Deep.AppendLies
import Derived.Maps.AppendAt
import Derived.OwnWalk
import Derived.Laws.BytesArg
import Derived.Laws.MakeOwn
import Derived.Laws.OwnMore
import Derived.Deep.OwnRows
import Derived.Tactics
import Derived.Lib.ConvBytes
import Derived.Laws.Slices
import Derived.WalkKit
import Derived.KernelRfl
import Derived.RowKit3
import Derived.Deep.LoopGhost
import Derived.Deep.QuietTactic
import Derived.BigQuiet
import Derived.WideLaws
import Derived.Deep.DeepCutAuto
import Derived.Deep.CutBlock
import Derived.Deep.RegionHeld3
import Derived.Laws.Rows
import Derived.Lib.AppendStr
import Derived.ArgAppend
import Derived.Laws.IdiomCopy
import Derived.OrdersHeld
import Derived.Laws.BitsLemmas
import Derived.RowKit
import Derived.Test.YtnlecbngkemllaaWWords
import Derived.Test.YtnlecbngkemllaaWLast
import Derived.Test.YtnlecbngkemllaaWTab
import Derived.Test.YtnlecbngkemllaaWFour
import Derived.Test.YtnlecbngkemllaaWQPut
import Derived.Test.YtnlecbngkemllaaWApart
import Derived.Test.YtnlecbngkemllaaWArr
import Derived.Test.YtnlecbngkemllaaWZeros
import Derived.Test.YtnlecbngkemllaaWFoot
import Derived.Test.YtnlecbngkemllaaWKept
import Derived.Test.YtnlecbngkemllaaWShare
import Derived.Test.YtnlecbngkemllaaWN
import Derived.Test.YtnlecbngkemllaaWFootNe
import Derived.Test.YtnlecbngkemllaaWAt
import Derived.Test.YtnlecbngkemllaaWEqStruct
import Derived.Test.YtnlecbngkemllaaWRepsOne
import Derived.Test.YtnlecbngkemllaaWInv
import Derived.Test.YtnlecbngkemllaaWInvWords
import Derived.Test.YtnlecbngkemllaaWGuard
import Derived.Test.YtnlecbngkemllaaWNEv
import Derived.Test.YtnlecbngkemllaaWMore
namespace Go.Proofs.Ytnlecbngkemllaa.P
open Go.RowKit Go.Proofs.YtnlecbngkemllaaW.PrintWords Go.Proofs.YtnlecbngkemllaaW.PrintLast Go.Proofs.YtnlecbngkemllaaW.PrintMore

/-- One bit's step of a register. -/
def hs (r : Int) : Int := if (Go.bits .and .u32 r 1) = 1 then Go.bits .xor .u32 (r / 2) 3988292384 else r / 2
def half : Nat → Int → Int
  | 0, r => r
  | j + 1, r => hs (half j r)
def tabL (k : Nat) : List Value := (List.range 16).map fun i => if i < k then .int .u32 (half 4 i) else .int .u32 0
theorem tabL_at (k : Nat) (h : k < 16) : (tabL k)[k]? = some (.int .u32 0) := by
  unfold tabL; simp [h]
theorem tabL_set (k : Nat) (h : k < 16) : (tabL k).set k (.int .u32 (half 4 k)) = tabL (k + 1) := by
  apply List.ext_getElem?
  intro i
  rw [List.getElem?_set]
  unfold tabL
  simp only [List.length_map, List.length_range, List.getElem?_map]
  by_cases hi : i < 16
  · simp only [List.getElem?_range hi, Option.map_some]
    by_cases e : k = i
    · subst e; simp [h]
    · simp only [e, if_false]
      by_cases e2 : i < k
      · simp [e2, show i < k + 1 by omega]
      · simp [e2, show ¬ i < k + 1 by omega]
  · have : (List.range 16)[i]? = none := by simp; omega
    simp [this]; omega
theorem tab16 : (tabL 16).toArray = #[.int .u32 0, .int .u32 498536548, .int .u32 997073096, .int .u32 651767980, .int .u32 1994146192, .int .u32 1802195444, .int .u32 1303535960, .int .u32 1342533948, .int .u32 3988292384, .int .u32 4027552580, .int .u32 3604390888, .int .u32 3412177804, .int .u32 2607071920, .int .u32 2262029012, .int .u32 2685067896, .int .u32 3183342108] := by kernel_rfl
theorem tab0 : (tabL 0).toArray = #[.int .u32 0, .int .u32 0, .int .u32 0, .int .u32 0, .int .u32 0, .int .u32 0, .int .u32 0, .int .u32 0, .int .u32 0, .int .u32 0, .int .u32 0, .int .u32 0, .int .u32 0, .int .u32 0, .int .u32 0, .int .u32 0] := by kernel_rfl
set_option maxHeartbeats 800000 in
theorem nib_any (w : World) : Calls Try.prog 19 #[] w fun e w' => e = .returned (.agg (tabL 16).toArray) ∧ Below w.heap.size w w' := by
  go_enter Try.func19, Try.ntmps19
  go_wp2
  go_loopw [2, 5] (fun _ c wr => ∃ k : Nat, k ≤ 16 ∧ c = .int .i64 k ∧ wr = (w.alloc (.cells (tabL 0).toArray 37)).alloc (.cells (tabL k).toArray 37)) (fun _ c _ => 16 - (intOf c).toNat)
  case atStart => exact ⟨0, by omega, rfl, rfl⟩
  case round =>
    obtain ⟨k, hk, rfl, rfl⟩ := hrel
    by_cases hlt : k < 16
    · have HT := tabL_at k hlt
      go_wp2
      go_loop [3, 10] (fun r c => ∃ j : Nat, j ≤ 4 ∧ c = .int .i64 j ∧ r = .int .u32 (half j k)) (fun _ c => 4 - (intOf c).toNat)
      case atStart => exact ⟨0, by omega, rfl, rfl⟩
      case round =>
        obtain ⟨j, hj, rfl, rfl⟩ := hrel
        by_cases hlt2 : j < 4
        · by_cases hb : (Go.bits .and .u32 (half j k) 1) = 1
          · have hb1 : (Go.bits .and .u32 (half j k) 1 == 1) = true := beq_iff_eq.mpr hb
            have HE : Aside0 (half (j + 1) k = Go.bits .xor .u32 (half j k / 2) 3988292384) := Aside0.mk (by simp only [half, hs]; rw [if_pos hb])
            clear hb
            go_wp2
            go_round
            case rel => exact ⟨j + 1, by omega, by go_num, by rw [HE.out]⟩
            case measure => simp [intOf]; omega
          · have hb1 : (Go.bits .and .u32 (half j k) 1 == 1) = false := beq_eq_false_iff_ne.mpr hb
            have HE : Aside0 (half (j + 1) k = half j k / 2) := Aside0.mk (by simp only [half, hs]; rw [if_neg hb])
            clear hb
            go_wp2
            go_round
            case rel => exact ⟨j + 1, by omega, by go_num, by rw [HE.out]⟩
            case measure => simp [intOf]; omega
        · obtain rfl : j = 4 := by omega
          go_wp2
          go_roundw
          case rel => exact ⟨k + 1, by omega, by go_num, by rw [tabL_set k hlt]⟩
          case measure => simp [intOf]; omega
    · obtain rfl : k = 16 := by omega
      rw [tab16, tab0]
      go_wp2
      refine bodyPost_ret (v := .agg (tabL 16).toArray) (by rw [tab16]; simp [results, Try.results19, go_sem]) rfl ⟨rfl, ?_⟩
      exact ((Below.refl _ _).alloc (Nat.le_refl _) _).alloc (by simp) _
end Go.Proofs.Ytnlecbngkemllaa.P
