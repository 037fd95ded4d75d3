/- The walk of the law CrcSteps. -/
import Derived.Test.YtnlecbngkemllaaSteps
namespace Go.Proofs.Ytnlecbngkemllaa.Crc
open Go.RowKit Go.Proofs.Ytnlecbngkemllaa.P Go.Proofs.YtnlecbngkemllaaW.PrintWords Go.Proofs.YtnlecbngkemllaaW.PrintLast

theorem one_byte (W : World) (b : Int) : (convert 35 9 (.slice (some ⟨W.heap.size, 0, none⟩) 1 1)).run Try.prog (W.alloc (.cells #[.int .u8 b] 5)) = .ok (.string (strOfNums [b])) (W.alloc (.cells #[.int .u8 b] 5)) :=
  run_convert_bytes_arg (P := Try.prog) _ 35 5 Try.underlying35 Try.underlying5 W.heap.size 0 1 1 [b] rfl (fun i hi => by
    obtain rfl : i = 0 := by omega
    go_simp) 9 Try.underlying9
set_option maxHeartbeats 1600000 in
theorem steps_any (s : ByteArray) (b x y t u v : Int) (k : Nat) (w : World) (hs : s.size ≤ 140737488351232)
    (h0 : crc_Of.f (s ++ strOfNums [b]) = some t) (h1 : crc_Step.f k (Go.bits .xor .u32 IntKind.u32.max (ofB s)) b = some (Go.bits .xor .u32 IntKind.u32.max t)) (h2 : crc_Step.f k x b = some u) (h3 : crc_Step.f k y b = some v)
    (ht : Go.bits .xor .u32 IntKind.u32.max (Go.bits .xor .u32 IntKind.u32.max t) = t) (huv : ((u == v) == (x == y)) = true) :
    Calls Try.prog 7 #[.string s, .int .u8 b, .agg #[.int .u32 x, .int .u32 y]] w fun e w' => e = .returned (.bool true) ∧ Below w.heap.size w w' := by
  have H0 := Aside0.mk h0
  have H1 := Aside0.mk h1
  have H2 := Aside0.mk h2
  have H3 := Aside0.mk h3
  have HT := Aside0.mk ht
  have HUV := Aside0.mk huv
  have hcv := one_byte
  have hz : (strOfNums [b]).size = 1 := strOfNums_size [b]
  clear h0 h1 h2 h3 ht huv
  go_enter Try.func7, Try.ntmps7
  go_wp2
  go_quiet (fail)
  have HL0 := Aside0.mk (pw_below_drewN (below_alloc (Below.refl w.heap.size w) (.cells #[.int .u32 x, .int .u32 y] 34)) nq)
  go_wp2_with fail
  refine (congresslaw01_fixed.calls true _ fixed_true).mono ?_
  rintro e w1 ⟨rfl, hb1⟩
  have HL1 := Aside0.mk (below_then HL0.out HL0.out.size hb1)
  clear HL0 hb1
  go_wp2_with fail
  have HL2 := Aside0.mk (below_alloc HL1.out (.cells #[.int .u8 b] 5))
  clear HL1
  refine (crc_Of.calls _ t _ H0.out).mono ?_
  rintro e w2 ⟨rfl, hb2⟩
  have HL3 := Aside0.mk (below_then HL2.out HL2.out.size hb2)
  clear HL2 hb2
  go_wp2_with fail
  refine (crc_Of.calls s (ofB s) _ (Of_eq s (by omega))).mono ?_
  rintro e w3 ⟨rfl, hb3⟩
  have HL4 := Aside0.mk (below_then HL3.out HL3.out.size hb3)
  clear HL3 hb3
  go_wp2_with fail
  refine (crc_Step.calls k _ b _ _ H1.out).mono ?_
  rintro e w4 ⟨rfl, ⟨n4, rfl⟩⟩
  have hteq : (t == Go.bits .xor .u32 IntKind.u32.max (Go.bits .xor .u32 IntKind.u32.max t)) = true := beq_iff_eq.mpr HT.out.symm
  go_wp2_with fail
  refine (crc_Step.calls k x b _ _ H2.out).mono ?_
  rintro e w4 ⟨rfl, ⟨n5, rfl⟩⟩
  go_wp2_with fail
  refine (crc_Step.calls k y b _ _ H3.out).mono ?_
  rintro e w4 ⟨rfl, ⟨n6, rfl⟩⟩
  go_wp2_with fail
  go_ret
  exact ⟨congrArg (fun z => Ending.returned (Value.bool z)) HUV.out, pw_below_drewN HL4.out _⟩
theorem steps_law (s : ByteArray) (b x y : Int) (w : World) (hs : s.size ≤ 140737488351232) (hb : (Lit.int .u8 b).wf = true) (hx : (Lit.int .u32 x).wf = true) (hy : (Lit.int .u32 y).wf = true) :
    Calls Try.prog 7 #[.string s, .int .u8 b, .agg #[.int .u32 x, .int .u32 y]] w fun e w' => e = .returned (.bool true) ∧ Below w.heap.size w w' := by
  have reg : ∀ c : Int, (Lit.int .u32 c).wf = true → ∃ v : BitVec 32, c = N v := by
    intro c h
    have hb := bounds_u32 h
    refine ⟨BitVec.ofNat 32 c.toNat, ?_⟩
    unfold N
    rw [BitVec.toNat_ofNat]
    omega
  have byte : ∃ c : UInt8, b = (c.toNat : Int) := by
    have hb := bounds_u8 hb
    refine ⟨UInt8.ofNat b.toNat, ?_⟩
    rw [UInt8.toNat_ofNat']
    omega
  obtain ⟨x, rfl⟩ := reg x hx
  obtain ⟨y, rfl⟩ := reg y hy
  obtain ⟨c, rfl⟩ := byte
  have em : IntKind.u32.max = N ones := rfl
  have hd : (s ++ strOfNums [(c.toNat : Int)]).data.toList = s.data.toList ++ [c] := by
    rw [ByteArray.data_append, Array.toList_append, strOfNums_data]
    simp
  have hz : (s ++ strOfNums [(c.toNat : Int)]).size = s.size + 1 := by rw [size_data, hd, List.length_append, ← size_data]; rfl
  have h0 := Of_eq (s ++ strOfNums [(c.toNat : Int)]) (by omega)
  have e0 : ofB (s ++ strOfNums [(c.toNat : Int)]) = N (ones ^^^ stepB (F ones s.data.toList) c) := by
    rw [ofB_N, hd, F_append]; rfl
  rw [e0] at h0
  refine steps_any s c.toNat (N x) (N y) _ (N (stepB x c)) (N (stepB y c)) 9 w hs h0 ?_ (Step_eq 9 (by decide) x c) (Step_eq 9 (by decide) y c) ?_ ?_
  · rw [ofB_N, em, bits_xor, bits_xor, xxa, xxa]
    exact Step_eq 9 (by decide) _ c
  · rw [em, bits_xor, bits_xor, xxa]
  · have e : (N (stepB x c) == N (stepB y c)) = (N x == N y) := by
      rw [Bool.eq_iff_iff, beq_iff_eq, beq_iff_eq]
      exact ⟨fun h => by rw [stepB_inj (N_inj h)], fun h => by rw [N_inj h]⟩
    rw [e]
    exact beq_self_eq_true _
end Go.Proofs.Ytnlecbngkemllaa.Crc
