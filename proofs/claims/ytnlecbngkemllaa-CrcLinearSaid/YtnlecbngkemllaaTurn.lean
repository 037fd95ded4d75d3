/- What the reference's Turn answers. -/
import Derived.Test.YtnlecbngkemllaaXor
import Derived.Test.YtnlecbngkemllaaP1
namespace Go.Proofs.Ytnlecbngkemllaa.P
open Go.RowKit Go.Proofs.YtnlecbngkemllaaW.PrintWords Go.Proofs.YtnlecbngkemllaaW.PrintLast Go.Proofs.YtnlecbngkemllaaW.PrintMore

/-- The bytes of s, k bytes from n on turned by m. -/
def turnL (s m : ByteArray) (n k : Nat) : List Int := (List.range s.size).map fun j => if n ≤ j ∧ j < n + k then Go.bits .xor .u8 (bt s j) (bt m ((j - n : Nat) : Int)) else bt s j
theorem turnL_length (s m : ByteArray) (n k : Nat) : (turnL s m n k).length = s.size := by simp [turnL]
theorem turnL_zero (s m : ByteArray) (n : Nat) : turnL s m n 0 = bytesOf s := by
  rw [← xorL_zero s s s]
  unfold turnL xorL
  refine List.map_congr_left fun j _ => ?_
  rw [if_neg (by omega), if_neg (by omega)]
theorem turnL_at (s m : ByteArray) (n k : Nat) (h : n + k < s.size) : (turnL s m n k).getD (n + k) 0 = bt s ((n : Int) + k) := by
  unfold turnL
  rw [List.getD_eq_getElem?_getD, List.getElem?_map, List.getElem?_range h]
  simp
theorem turnL_set (s m : ByteArray) (n k : Nat) (h : n + k < s.size) : (turnL s m n k).set (n + k) (Go.bits .xor .u8 (bt s ((n : Int) + k)) (bt m k)) = turnL s m n (k + 1) := by
  apply List.ext_getElem?
  intro i
  rw [List.getElem?_set, turnL_length]
  unfold turnL
  rw [List.getElem?_map, List.getElem?_map]
  by_cases hi : i < s.size
  · simp only [List.getElem?_range hi, Option.map_some]
    by_cases e : n + k = i
    · subst e
      rw [if_pos rfl, if_pos h, if_pos (by omega), show n + k - n = k by omega]
      simp
    · rw [if_neg e]
      by_cases e2 : n ≤ i ∧ i < n + k
      · rw [if_pos e2, if_pos (by omega)]
      · rw [if_neg e2, if_neg (by omega)]
  · have : (List.range s.size)[i]? = none := by simp; omega
    simp [this]; omega
theorem turnL_past (s m : ByteArray) (n k : Nat) (h : s.size ≤ n + k) : turnL s m n (k + 1) = turnL s m n k := by
  unfold turnL
  refine List.map_congr_left fun j hj => ?_
  have := List.mem_range.mp hj
  by_cases e2 : n ≤ j ∧ j < n + k
  · rw [if_pos e2, if_pos (by omega)]
  · rw [if_neg e2, if_neg (by omega)]
set_option maxHeartbeats 1600000 in
theorem turn_any (s m : ByteArray) (n : Nat) (mask : Int) (q : Nat) (hm : congressref01_Four.f q mask = some m) (hm4 : m.size = 4) (hs : s.size ≤ 4611686018427387904) (w : World) :
    Calls Try.prog 12 #[.string s, .int .i64 n, .int .u32 mask] w fun e w' => e = .returned (.string (strOfNums (turnL s m n 4))) ∧ Below w.heap.size w w' := by
  have hcv := fun W => Lib.run_convert_string_bytes (P := Try.prog) W 9 35 5 s Try.underlying9 Try.underlying35 Try.underlying5
  have HM := Aside0.mk hm
  clear hm
  have HM4 := Aside0.mk hm4
  clear hm4
  go_enter Try.func12, Try.ntmps12
  go_wp2_with fail
  have HB0 := Aside0.mk (BRow.made w s)
  have HL0 := Aside0.mk (bytes_below (Below.refl w.heap.size w) (Nat.le_refl _) 5 s)
  have HS0 := Aside0.mk (Lib.bytesWorld_size w 5 s)
  refine (congressref01_Four.calls q mask m _ HM.out).mono ?_
  rintro e w1 ⟨rfl, hb1⟩
  have HB1 := Aside0.mk (HB0.out.below hb1)
  have HL1 := Aside0.mk (below_then HL0.out (by rw [HS0.out]; omega) hb1)
  clear HB0 HL0 HS0 hb1
  go_wp2
  go_loopw [9] (fun i wr => ∃ k : Nat, k ≤ 4 ∧ i = .int .i64 k ∧ Aside0 (BRow wr w.heap.size (turnL s m n k)) ∧ Aside0 (Below w.heap.size w wr)) (fun i _ => 4 - (intOf i).toNat)
  case atStart => exact ⟨0, by omega, rfl, ⟨by rw [turnL_zero]; exact HB1.out⟩, HL1⟩
  case round =>
    obtain ⟨k, hk, rfl, HR, HL⟩ := hrel
    by_cases hlt : k < 4
    · have hkm : k < m.size := by rw [HM4.out]; exact hlt
      by_cases hin : n + k < s.size
      · have hcell := HR.out.cell (n + k) (by rw [turnL_length]; exact hin)
        rw [turnL_at s m n k hin] at hcell
        have hfr := HR.out.frozen (n + k) (by rw [turnL_length]; exact hin)
        have hnk : n + k < 4611686018427387904 := by omega
        go_wp2
        have hwr : IntKind.i64.wrap ((n : Int) + k) = (n : Int) + k := IntWalk.i64_in _ (by omega)
        have hnn : ((n : Int) + k).toNat = n + k := by omega
        have hp : (0 : Int) ≤ (n : Int) + k := by omega
        have hq : (n : Int) + k < s.size := by omega
        go_still_tail 15, (by kernel_rfl)
        change wpList _ _ _ _ _ wr.drew
        have hcell2 : wr.drew.cell? ⟨w.heap.size, n + k, none⟩ = some (.int .u8 (bt s ((n : Int) + k))) := hcell
        have hfr2 : wr.drew.frozen? ⟨w.heap.size, n + k, none⟩ = false := hfr
        have HR2 : Aside0 (BRow wr.drew w.heap.size (turnL s m n k)) := ⟨HR.out.drew⟩
        have HL2 : Aside0 (Below w.heap.size w wr.drew) := ⟨HL.out.drew⟩
        generalize wr.drew = w2 at hcell2 hfr2 HR2 HL2
        have HE : Aside0 (Go.bits .xor .u8 (bt s ((n : Int) + k)) ((m[k]'hkm).toNat : Int) = Go.bits .xor .u8 (bt s ((n : Int) + k)) (bt m k)) := ⟨by rw [bt_nat m k hkm]⟩
        have HN := Aside0.mk hin
        clear hcell hfr
        go_wp2
        go_roundw
        case rel => exact ⟨k + 1, by omega, by go_num, ⟨by rw [HE.out, ← turnL_set s m n k HN.out]; exact HR2.out.set _ _⟩, ⟨HL2.out.setCell (Nat.le_refl _) _⟩⟩
        case measure => simp [intOf]; omega
      · go_wp2
        go_roundw
        case rel => exact ⟨k + 1, by omega, by go_num, ⟨by rw [turnL_past s m n k (by omega)]; exact HR.out⟩, HL⟩
        case measure => simp [intOf]; omega
    · obtain rfl : k = 4 := by omega
      have hs1 := HR.out.str (grownCap w s.size 0 5)
      rw [turnL_length] at hs1
      go_wp2
      go_ret
      exact ⟨rfl, HL.out⟩
set_option maxHeartbeats 1600000 in
theorem turn_neg (s m : ByteArray) (n : Int) (mask : Int) (q : Nat) (hn : n < 0) (hm : congressref01_Four.f q mask = some m) (_hs : s.size ≤ 4611686018427387904) (w : World) :
    Calls Try.prog 12 #[.string s, .int .i64 n, .int .u32 mask] w fun e w' => e = .returned (.string (strOfNums (bytesOf s))) ∧ Below w.heap.size w w' := by
  have hcv := fun W => Lib.run_convert_string_bytes (P := Try.prog) W 9 35 5 s Try.underlying9 Try.underlying35 Try.underlying5
  have HM := Aside0.mk hm
  clear hm
  have hd : decide (0 ≤ n) = false := by simpa using hn
  go_enter Try.func12, Try.ntmps12
  go_wp2_with fail
  have HB0 := Aside0.mk (BRow.made w s)
  have HL0 := Aside0.mk (bytes_below (Below.refl w.heap.size w) (Nat.le_refl _) 5 s)
  have HS0 := Aside0.mk (Lib.bytesWorld_size w 5 s)
  refine (congressref01_Four.calls q mask m _ HM.out).mono ?_
  rintro e w1 ⟨rfl, hb1⟩
  have HB1 := Aside0.mk (HB0.out.below hb1)
  have HL1 := Aside0.mk (below_then HL0.out (by rw [HS0.out]; omega) hb1)
  clear HB0 HL0 HS0 hb1
  go_wp2
  go_loopw [9] (fun i wr => ∃ k : Nat, k ≤ 4 ∧ i = .int .i64 k ∧ Aside0 (BRow wr w.heap.size (bytesOf s)) ∧ Aside0 (Below w.heap.size w wr)) (fun i _ => 4 - (intOf i).toNat)
  case atStart => exact ⟨0, by omega, rfl, HB1, HL1⟩
  case round =>
    obtain ⟨k, hk, rfl, HR, HL⟩ := hrel
    by_cases hlt : k < 4
    · go_wp2
      go_roundw
      case rel => exact ⟨k + 1, by omega, by go_num, HR, HL⟩
      case measure => simp [intOf]; omega
    · obtain rfl : k = 4 := by omega
      have hs1 := HR.out.str (grownCap w s.size 0 5)
      rw [bytesOf_length] at hs1
      go_wp2
      go_ret
      exact ⟨rfl, HL.out⟩
def congressref01_Turn.f (k : Nat) (a0 : ByteArray) (a1 a2 : Int) : Option ByteArray :=
  (congressref01_Four.f k a2).bind fun m =>
    if m.size = 4 ∧ a0.size ≤ 4611686018427387904 then some (strOfNums (if 0 ≤ a1 then turnL a0 m a1.toNat 4 else bytesOf a0)) else none
theorem congressref01_Turn.mono : ∀ a0 a1 a2 k, LeO (congressref01_Turn.f k a0 a1 a2) (congressref01_Turn.f (k + 1) a0 a1 a2) := by
  intro a0 a1 a2 k
  unfold congressref01_Turn.f
  exact LeO.bind (congressref01_Four.mono _ _) (fun _ => LeO.refl _)
theorem congressref01_Turn.calls (k : Nat) (a0 : ByteArray) (a1 a2 : Int) (r : ByteArray) (w : World) (h : congressref01_Turn.f k a0 a1 a2 = some r) :
    Calls Try.prog 12 #[.string a0, .int .i64 a1, .int .u32 a2] w fun e w' => e = .returned (.string r) ∧ Below w.heap.size w w' := by
  unfold congressref01_Turn.f at h
  obtain ⟨m, hm, h⟩ := Option.bind_eq_some_iff.mp h
  split at h
  · rename_i hs
    obtain rfl := Option.some.inj h
    by_cases hn : 0 ≤ a1
    · rw [if_pos hn]
      obtain ⟨n, rfl⟩ := Int.eq_ofNat_of_zero_le hn
      exact turn_any a0 m n a2 k hm hs.1 hs.2 w
    · rw [if_neg hn]
      exact turn_neg a0 m a1 a2 k (by omega) hm hs.2 w
  · cases h
end Go.Proofs.Ytnlecbngkemllaa.P
