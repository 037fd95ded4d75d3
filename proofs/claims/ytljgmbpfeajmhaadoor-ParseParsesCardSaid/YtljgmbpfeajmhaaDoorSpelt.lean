/- A call's request: what the program spells. -/
import Derived.Test.YtljgmbpfeajmhaaDoorParse
import Derived.Lib.ItoaLen
set_option linter.unusedVariables false
set_option linter.unusedSimpArgs false
namespace Go.Proofs.YtljgmbpfeajmhaaDoor
open Go.Proofs Go.Shelf Go.RowKit Go.Proofs.YtljgmbpfeajmhaaDoorW.PrintWords Go.Proofs.YtljgmbpfeajmhaaDoorW.PrintLast

theorem size_arr (l : List UInt8) : (⟨l.toArray⟩ : ByteArray).size = l.length := by simp [ByteArray.size]
theorem dec_small (n : Nat) (hn : n < 18446744073709551616) : (Lib.decDigits n).length ≤ 64 := by
  have := Lib.nDigits_le20 n hn
  rw [Lib.decDigits_length]
  omega
theorem itoa_small (k : Int) (hk0 : -9223372036854775808 ≤ k) (hk1 : k ≤ 9223372036854775807) : (Lib.itoa k).length ≤ 65 := by
  unfold Lib.itoa
  split
  · have := Lib.nDigits_le20 k.natAbs (by omega)
    rw [List.length_cons, Lib.decDigits_length]
    omega
  · have := Lib.nDigits_le20 k.toNat (by omega)
    rw [Lib.decDigits_length]
    omega
/-- The numbers of a call fit their kinds; its text is not too long. -/
structure Call7.Fits (c : Call7) : Prop where
  kind0 : -9223372036854775808 ≤ c.kind
  kind1 : c.kind ≤ 9223372036854775807
  handle0 : 0 ≤ c.handle
  handle1 : c.handle < 18446744073709551616
  other0 : 0 ≤ c.other
  other1 : c.other < 18446744073709551616
  give0 : -9223372036854775808 ≤ c.give
  give1 : c.give ≤ 9223372036854775807
  grp0 : -9223372036854775808 ≤ c.grp
  grp1 : c.grp ≤ 9223372036854775807
  svc0 : -9223372036854775808 ≤ c.svc
  svc1 : c.svc ≤ 9223372036854775807
  txt : c.txt.length ≤ 140737488351232
theorem ret_str {a b : ByteArray} (h : a = b) : Ending.returned (.string a) = .returned (.string b) := by rw [h]
/-- The word of a service. -/
def svcName (k : Int) : List UInt8 := if k = 0 then [102, 105, 102, 111] else if k = 1 then [99, 97, 117, 115, 97, 108] else if k = 2 then [97, 103, 114, 101, 101, 100] else [115, 97, 102, 101]
/-- A call's request, if there is one; else nothing. -/
def speltL (c : Call7) : List UInt8 :=
  if c.kind = 0 then [111, 112, 101, 110]
  else if c.kind = 1 then [99, 108, 111, 115, 101, 32] ++ Lib.decDigits c.handle.toNat
  else if c.kind = 2 then [109, 105, 110, 116, 32] ++ Lib.decDigits c.handle.toNat ++ [32] ++ Lib.itoa c.give
  else if c.kind = 3 then [114, 101, 118, 111, 107, 101, 32] ++ Lib.decDigits c.handle.toNat ++ [32] ++ Lib.decDigits c.other.toNat
  else if c.kind = 4 then [106, 111, 105, 110, 32] ++ Lib.decDigits c.handle.toNat ++ [32] ++ Lib.itoa c.grp
  else if c.kind = 5 then [108, 101, 97, 118, 101, 32] ++ Lib.decDigits c.handle.toNat ++ [32] ++ Lib.itoa c.grp
  else if c.kind = 6 then (if 0 ≤ c.svc ∧ c.svc < 4 then [115, 101, 110, 100, 32] ++ Lib.decDigits c.handle.toNat ++ [32] ++ Lib.itoa c.grp ++ [32] ++ svcName c.svc ++ [32, 61] ++ c.txt else [])
  else []
set_option maxRecDepth 100000 in
set_option maxHeartbeats 4000000 in
theorem spelt_simple (c : Call7) (hf : c.Fits) (w : World) (ht : Tens w) (h6 : c.kind ≠ 6) :
    Calls Tryd.prog 23 #[.agg c.cells] w fun e w' => e = .returned (.string ⟨(speltL c).toArray⟩) ∧ Below w.heap.size w w' := by
  obtain ⟨k, h, o, g, gr, sv, tx⟩ := c
  obtain ⟨a0, a1, a2, a3, a4, a5, a6, a7, a8, a9, b0, b1, b2⟩ := hf
  simp only at a0 a1 a2 a3 a4 a5 a6 a7 a8 a9 b0 b1 b2 h6
  obtain ⟨hn, rfl⟩ := Int.eq_ofNat_of_zero_le a2
  obtain ⟨on, rfl⟩ := Int.eq_ofNat_of_zero_le a4
  have HT := Aside0.mk ht
  have DB := Aside0.mk (below_alloc (Below.refl w.heap.size w) (.cells #[.int .i64 k, .int .u64 (hn : Int), .int .u64 (on : Int), .int .i64 g, .int .i64 gr, .int .i64 sv, .string ⟨tx.toArray⟩] 24))
  have DX := Aside0.mk (blk_new w (.cells #[.int .i64 k, .int .u64 (hn : Int), .int .u64 (on : Int), .int .i64 g, .int .i64 gr, .int .i64 sv, .string ⟨tx.toArray⟩] 24))
  have F1 := fun (w1 : World) (hb : Below w.heap.size w w1) => fmtUint_b hn (by omega) ht hb
  have F2 := fun (w1 : World) (hb : Below w.heap.size w w1) => itoa_b gr a8 a9 ht hb
  have F3 := fun (w1 : World) (hb : Below w.heap.size w w1) => fmtUint_b on (by omega) ht hb
  have F4 := fun (w1 : World) (hb : Below w.heap.size w w1) => itoa_b g a6 a7 ht hb
  have F1 := Aside0.mk F1
  have F2 := Aside0.mk F2
  have F3 := Aside0.mk F3
  have F4 := Aside0.mk F4
  have Z1 := dec_small hn (by omega)
  have Z2 := itoa_small gr a8 a9
  have Z3 := dec_small on (by omega)
  have Z4 := itoa_small g a6 a7
  rw [← size_arr] at Z1 Z2 Z3 Z4
  obtain ⟨sh, hsh⟩ : ∃ sh : ByteArray, sh = ⟨(Lib.decDigits hn).toArray⟩ := ⟨_, rfl⟩
  obtain ⟨sg, hsg⟩ : ∃ sg : ByteArray, sg = ⟨(Lib.itoa gr).toArray⟩ := ⟨_, rfl⟩
  obtain ⟨so, hso⟩ : ∃ so : ByteArray, so = ⟨(Lib.decDigits on).toArray⟩ := ⟨_, rfl⟩
  obtain ⟨sv2, hsv⟩ : ∃ sv2 : ByteArray, sv2 = ⟨(Lib.itoa g).toArray⟩ := ⟨_, rfl⟩
  rw [← hsh] at F1 Z1
  rw [← hsg] at F2 Z2
  rw [← hso] at F3 Z3
  rw [← hsv] at F4 Z4
  have HSH := Aside0.mk hsh
  have HSG := Aside0.mk hsg
  have HSO := Aside0.mk hso
  have HSV := Aside0.mk hsv
  clear hsh hsg hso hsv ht a0 a1 a2 a3 a4 a5 a6 a7 a8 a9 b0 b1 b2
  change Calls Tryd.prog 23 #[.agg #[.int .i64 k, .int .u64 (hn : Int), .int .u64 (on : Int), .int .i64 g, .int .i64 gr, .int .i64 sv, .string ⟨tx.toArray⟩]] w _
  by_cases k0 : k = 0
  · subst k0
    have HR := Aside0.mk (show speltL ⟨0, hn, on, g, gr, sv, tx⟩ = [111, 112, 101, 110] from rfl)
    go_enter Tryd.func23, Tryd.ntmps23
    go_wp2_with fail
    refine (F1.out _ DB.out).mono ?_
    rintro e w1 ⟨rfl, hb⟩
    have D1 := Aside0.mk (below_then DB.out DB.out.size hb)
    have X1 := (hb.block _ (blk_lt DX.out)).trans DX.out
    have c4 : w1.cell? ⟨w.heap.size, 4, none⟩ = some (.int .i64 gr) := (blk_cell X1 4).trans rfl
    have X1 := Aside0.mk X1
    clear hb
    go_wp2_with fail
    refine (F2.out _ D1.out).mono ?_
    rintro e w2 ⟨rfl, hb⟩
    have D2 := Aside0.mk (below_then D1.out D1.out.size hb)
    have X2 := (hb.block _ (blk_lt X1.out)).trans X1.out
    have c0 : w2.cell? ⟨w.heap.size, 0, none⟩ = some (.int .i64 0) := (blk_cell X2 0).trans rfl
    have X2 := Aside0.mk X2
    clear hb c4
    go_wp2_with fail
    go_ret
    refine ⟨?_, D2.out⟩
    rw [HR.out]
    exact ret_str (by apply ByteArray.ext; simp [ByteArray.data_append])
  by_cases k1 : k = 1
  · subst k1
    have HR := Aside0.mk (show speltL ⟨1, hn, on, g, gr, sv, tx⟩ = [99, 108, 111, 115, 101, 32] ++ Lib.decDigits hn from rfl)
    clear k0
    go_enter Tryd.func23, Tryd.ntmps23
    go_wp2_with fail
    refine (F1.out _ DB.out).mono ?_
    rintro e w1 ⟨rfl, hb⟩
    have D1 := Aside0.mk (below_then DB.out DB.out.size hb)
    have X1 := (hb.block _ (blk_lt DX.out)).trans DX.out
    have c4 : w1.cell? ⟨w.heap.size, 4, none⟩ = some (.int .i64 gr) := (blk_cell X1 4).trans rfl
    have X1 := Aside0.mk X1
    clear hb
    go_wp2_with fail
    refine (F2.out _ D1.out).mono ?_
    rintro e w2 ⟨rfl, hb⟩
    have D2 := Aside0.mk (below_then D1.out D1.out.size hb)
    have X2 := (hb.block _ (blk_lt X1.out)).trans X1.out
    have c0 : w2.cell? ⟨w.heap.size, 0, none⟩ = some (.int .i64 1) := (blk_cell X2 0).trans rfl
    have X2 := Aside0.mk X2
    clear hb c4
    go_wp2_with fail
    go_ret
    refine ⟨?_, D2.out⟩
    rw [HR.out, HSH.out]
    exact ret_str (by apply ByteArray.ext; simp [ByteArray.data_append])
  by_cases k2 : k = 2
  · subst k2
    have HR := Aside0.mk (show speltL ⟨2, hn, on, g, gr, sv, tx⟩ = [109, 105, 110, 116, 32] ++ Lib.decDigits hn ++ [32] ++ Lib.itoa g from rfl)
    clear k0 k1
    go_enter Tryd.func23, Tryd.ntmps23
    go_wp2_with fail
    refine (F1.out _ DB.out).mono ?_
    rintro e w1 ⟨rfl, hb⟩
    have D1 := Aside0.mk (below_then DB.out DB.out.size hb)
    have X1 := (hb.block _ (blk_lt DX.out)).trans DX.out
    have c4 : w1.cell? ⟨w.heap.size, 4, none⟩ = some (.int .i64 gr) := (blk_cell X1 4).trans rfl
    have X1 := Aside0.mk X1
    clear hb
    go_wp2_with fail
    refine (F2.out _ D1.out).mono ?_
    rintro e w2 ⟨rfl, hb⟩
    have D2 := Aside0.mk (below_then D1.out D1.out.size hb)
    have X2 := (hb.block _ (blk_lt X1.out)).trans X1.out
    have c0 : w2.cell? ⟨w.heap.size, 0, none⟩ = some (.int .i64 2) := (blk_cell X2 0).trans rfl
    have c3 : w2.cell? ⟨w.heap.size, 3, none⟩ = some (.int .i64 g) := (blk_cell X2 3).trans rfl
    have X2 := Aside0.mk X2
    clear hb c4
    go_wp2_with fail
    refine (F4.out _ D2.out).mono ?_
    rintro e w3 ⟨rfl, hb⟩
    have D3 := Aside0.mk (below_then D2.out D2.out.size hb)
    clear hb
    go_wp2_with fail
    go_ret
    refine ⟨?_, D3.out⟩
    rw [HR.out, HSH.out, HSV.out]
    exact ret_str (by apply ByteArray.ext; simp [ByteArray.data_append])
  by_cases k3 : k = 3
  · subst k3
    have HR := Aside0.mk (show speltL ⟨3, hn, on, g, gr, sv, tx⟩ = [114, 101, 118, 111, 107, 101, 32] ++ Lib.decDigits hn ++ [32] ++ Lib.decDigits on from rfl)
    clear k0 k1 k2
    go_enter Tryd.func23, Tryd.ntmps23
    go_wp2_with fail
    refine (F1.out _ DB.out).mono ?_
    rintro e w1 ⟨rfl, hb⟩
    have D1 := Aside0.mk (below_then DB.out DB.out.size hb)
    have X1 := (hb.block _ (blk_lt DX.out)).trans DX.out
    have c4 : w1.cell? ⟨w.heap.size, 4, none⟩ = some (.int .i64 gr) := (blk_cell X1 4).trans rfl
    have X1 := Aside0.mk X1
    clear hb
    go_wp2_with fail
    refine (F2.out _ D1.out).mono ?_
    rintro e w2 ⟨rfl, hb⟩
    have D2 := Aside0.mk (below_then D1.out D1.out.size hb)
    have X2 := (hb.block _ (blk_lt X1.out)).trans X1.out
    have c0 : w2.cell? ⟨w.heap.size, 0, none⟩ = some (.int .i64 3) := (blk_cell X2 0).trans rfl
    have c2 : w2.cell? ⟨w.heap.size, 2, none⟩ = some (.int .u64 (on : Int)) := (blk_cell X2 2).trans rfl
    have X2 := Aside0.mk X2
    clear hb c4
    go_wp2_with fail
    refine (F3.out _ D2.out).mono ?_
    rintro e w3 ⟨rfl, hb⟩
    have D3 := Aside0.mk (below_then D2.out D2.out.size hb)
    clear hb
    go_wp2_with fail
    go_ret
    refine ⟨?_, D3.out⟩
    rw [HR.out, HSH.out, HSO.out]
    exact ret_str (by apply ByteArray.ext; simp [ByteArray.data_append])
  by_cases k4 : k = 4
  · subst k4
    have HR := Aside0.mk (show speltL ⟨4, hn, on, g, gr, sv, tx⟩ = [106, 111, 105, 110, 32] ++ Lib.decDigits hn ++ [32] ++ Lib.itoa gr from rfl)
    clear k0 k1 k2 k3
    go_enter Tryd.func23, Tryd.ntmps23
    go_wp2_with fail
    refine (F1.out _ DB.out).mono ?_
    rintro e w1 ⟨rfl, hb⟩
    have D1 := Aside0.mk (below_then DB.out DB.out.size hb)
    have X1 := (hb.block _ (blk_lt DX.out)).trans DX.out
    have c4 : w1.cell? ⟨w.heap.size, 4, none⟩ = some (.int .i64 gr) := (blk_cell X1 4).trans rfl
    have X1 := Aside0.mk X1
    clear hb
    go_wp2_with fail
    refine (F2.out _ D1.out).mono ?_
    rintro e w2 ⟨rfl, hb⟩
    have D2 := Aside0.mk (below_then D1.out D1.out.size hb)
    have X2 := (hb.block _ (blk_lt X1.out)).trans X1.out
    have c0 : w2.cell? ⟨w.heap.size, 0, none⟩ = some (.int .i64 4) := (blk_cell X2 0).trans rfl
    have X2 := Aside0.mk X2
    clear hb c4
    go_wp2_with fail
    go_ret
    refine ⟨?_, D2.out⟩
    rw [HR.out, HSH.out, HSG.out]
    exact ret_str (by apply ByteArray.ext; simp [ByteArray.data_append])
  by_cases k5 : k = 5
  · subst k5
    have HR := Aside0.mk (show speltL ⟨5, hn, on, g, gr, sv, tx⟩ = [108, 101, 97, 118, 101, 32] ++ Lib.decDigits hn ++ [32] ++ Lib.itoa gr from rfl)
    clear k0 k1 k2 k3 k4
    go_enter Tryd.func23, Tryd.ntmps23
    go_wp2_with fail
    refine (F1.out _ DB.out).mono ?_
    rintro e w1 ⟨rfl, hb⟩
    have D1 := Aside0.mk (below_then DB.out DB.out.size hb)
    have X1 := (hb.block _ (blk_lt DX.out)).trans DX.out
    have c4 : w1.cell? ⟨w.heap.size, 4, none⟩ = some (.int .i64 gr) := (blk_cell X1 4).trans rfl
    have X1 := Aside0.mk X1
    clear hb
    go_wp2_with fail
    refine (F2.out _ D1.out).mono ?_
    rintro e w2 ⟨rfl, hb⟩
    have D2 := Aside0.mk (below_then D1.out D1.out.size hb)
    have X2 := (hb.block _ (blk_lt X1.out)).trans X1.out
    have c0 : w2.cell? ⟨w.heap.size, 0, none⟩ = some (.int .i64 5) := (blk_cell X2 0).trans rfl
    have X2 := Aside0.mk X2
    clear hb c4
    go_wp2_with fail
    go_ret
    refine ⟨?_, D2.out⟩
    rw [HR.out, HSH.out, HSG.out]
    exact ret_str (by apply ByteArray.ext; simp [ByteArray.data_append])
  have HR := Aside0.mk (show speltL ⟨k, hn, on, g, gr, sv, tx⟩ = [] from by unfold speltL; simp only; rw [if_neg k0, if_neg k1, if_neg k2, if_neg k3, if_neg k4, if_neg k5, if_neg h6])
  have q0 : (k == 0) = false := beq_eq_false_iff_ne.2 k0
  have q1 : (k == 1) = false := beq_eq_false_iff_ne.2 k1
  have q2 : (k == 2) = false := beq_eq_false_iff_ne.2 k2
  have q3 : (k == 3) = false := beq_eq_false_iff_ne.2 k3
  have q4 : (k == 4) = false := beq_eq_false_iff_ne.2 k4
  have q5 : (k == 5) = false := beq_eq_false_iff_ne.2 k5
  have q6 : (k == 6) = false := beq_eq_false_iff_ne.2 h6
  clear k0 k1 k2 k3 k4 k5 h6
  go_enter Tryd.func23, Tryd.ntmps23
  go_wp2_with fail
  refine (F1.out _ DB.out).mono ?_
  rintro e w1 ⟨rfl, hb⟩
  have D1 := Aside0.mk (below_then DB.out DB.out.size hb)
  have X1 := (hb.block _ (blk_lt DX.out)).trans DX.out
  have c4 : w1.cell? ⟨w.heap.size, 4, none⟩ = some (.int .i64 gr) := (blk_cell X1 4).trans rfl
  have X1 := Aside0.mk X1
  clear hb
  go_wp2_with fail
  refine (F2.out _ D1.out).mono ?_
  rintro e w2 ⟨rfl, hb⟩
  have D2 := Aside0.mk (below_then D1.out D1.out.size hb)
  have X2 := (hb.block _ (blk_lt X1.out)).trans X1.out
  have c0 : w2.cell? ⟨w.heap.size, 0, none⟩ = some (.int .i64 k) := (blk_cell X2 0).trans rfl
  have X2 := Aside0.mk X2
  clear hb c4
  go_wp2_with fail
  go_ret
  refine ⟨?_, D2.out⟩
  rw [HR.out]
  exact ret_str (by apply ByteArray.ext; simp [ByteArray.data_append])
set_option maxRecDepth 100000 in
set_option maxHeartbeats 4000000 in
theorem spelt_send_no (c : Call7) (hf : c.Fits) (w : World) (ht : Tens w) (h6 : c.kind = 6) (hs : ¬ (0 ≤ c.svc ∧ c.svc < 4)) :
    Calls Tryd.prog 23 #[.agg c.cells] w fun e w' => e = .returned (.string ⟨(speltL c).toArray⟩) ∧ Below w.heap.size w w' := by
  obtain ⟨k, h, o, g, gr, sv, tx⟩ := c
  obtain ⟨a0, a1, a2, a3, a4, a5, a6, a7, a8, a9, b0, b1, b2⟩ := hf
  simp only at a0 a1 a2 a3 a4 a5 a6 a7 a8 a9 b0 b1 b2
  obtain ⟨hn, rfl⟩ := Int.eq_ofNat_of_zero_le a2
  obtain ⟨on, rfl⟩ := Int.eq_ofNat_of_zero_le a4
  have HT := Aside0.mk ht
  have DB := Aside0.mk (below_alloc (Below.refl w.heap.size w) (.cells #[.int .i64 k, .int .u64 (hn : Int), .int .u64 (on : Int), .int .i64 g, .int .i64 gr, .int .i64 sv, .string ⟨tx.toArray⟩] 24))
  have DX := Aside0.mk (blk_new w (.cells #[.int .i64 k, .int .u64 (hn : Int), .int .u64 (on : Int), .int .i64 g, .int .i64 gr, .int .i64 sv, .string ⟨tx.toArray⟩] 24))
  have F1 := fun (w1 : World) (hb : Below w.heap.size w w1) => fmtUint_b hn (by omega) ht hb
  have F2 := fun (w1 : World) (hb : Below w.heap.size w w1) => itoa_b gr a8 a9 ht hb
  have F3 := fun (w1 : World) (hb : Below w.heap.size w w1) => fmtUint_b on (by omega) ht hb
  have F4 := fun (w1 : World) (hb : Below w.heap.size w w1) => itoa_b g a6 a7 ht hb
  have F1 := Aside0.mk F1
  have F2 := Aside0.mk F2
  have F3 := Aside0.mk F3
  have F4 := Aside0.mk F4
  have Z1 := dec_small hn (by omega)
  have Z2 := itoa_small gr a8 a9
  have Z3 := dec_small on (by omega)
  have Z4 := itoa_small g a6 a7
  rw [← size_arr] at Z1 Z2 Z3 Z4
  obtain ⟨sh, hsh⟩ : ∃ sh : ByteArray, sh = ⟨(Lib.decDigits hn).toArray⟩ := ⟨_, rfl⟩
  obtain ⟨sg, hsg⟩ : ∃ sg : ByteArray, sg = ⟨(Lib.itoa gr).toArray⟩ := ⟨_, rfl⟩
  obtain ⟨so, hso⟩ : ∃ so : ByteArray, so = ⟨(Lib.decDigits on).toArray⟩ := ⟨_, rfl⟩
  obtain ⟨sv2, hsv⟩ : ∃ sv2 : ByteArray, sv2 = ⟨(Lib.itoa g).toArray⟩ := ⟨_, rfl⟩
  rw [← hsh] at F1 Z1
  rw [← hsg] at F2 Z2
  rw [← hso] at F3 Z3
  rw [← hsv] at F4 Z4
  have HSH := Aside0.mk hsh
  have HSG := Aside0.mk hsg
  have HSO := Aside0.mk hso
  have HSV := Aside0.mk hsv
  clear hsh hsg hso hsv ht a0 a1 a2 a3 a4 a5 a6 a7 a8 a9 b0 b1
  subst h6
  simp only at hs
  have ZT : (⟨tx.toArray⟩ : ByteArray).size ≤ 140737488351232 := by rw [size_arr]; exact b2
  obtain ⟨st, hst⟩ : ∃ st : ByteArray, st = ⟨tx.toArray⟩ := ⟨_, rfl⟩
  rw [← hst] at ZT DX DB
  change Calls Tryd.prog 23 #[.agg #[.int .i64 6, .int .u64 (hn : Int), .int .u64 (on : Int), .int .i64 g, .int .i64 gr, .int .i64 sv, .string ⟨tx.toArray⟩]] w _
  rw [← hst]
  have HST := Aside0.mk hst
  clear hst b2
  have HR := Aside0.mk (show speltL ⟨6, hn, on, g, gr, sv, tx⟩ = [] from by unfold speltL; simp only; simp [hs])
  by_cases s0 : 0 ≤ sv
  · have s1 : 4 ≤ sv := by omega
    clear hs
    go_enter Tryd.func23, Tryd.ntmps23
    go_wp2_with fail
    refine (F1.out _ DB.out).mono ?_
    rintro e w1 ⟨rfl, hb⟩
    have D1 := Aside0.mk (below_then DB.out DB.out.size hb)
    have X1 := (hb.block _ (blk_lt DX.out)).trans DX.out
    have c4 : w1.cell? ⟨w.heap.size, 4, none⟩ = some (.int .i64 gr) := (blk_cell X1 4).trans rfl
    have X1 := Aside0.mk X1
    clear hb
    go_wp2_with fail
    refine (F2.out _ D1.out).mono ?_
    rintro e w2 ⟨rfl, hb⟩
    have D2 := Aside0.mk (below_then D1.out D1.out.size hb)
    have X2 := (hb.block _ (blk_lt X1.out)).trans X1.out
    have c0 : w2.cell? ⟨w.heap.size, 0, none⟩ = some (.int .i64 6) := (blk_cell X2 0).trans rfl
    have c5 : w2.cell? ⟨w.heap.size, 5, none⟩ = some (.int .i64 sv) := (blk_cell X2 5).trans rfl
    have X2 := Aside0.mk X2
    clear hb c4
    go_wp2_with fail
    go_ret
    refine ⟨?_, D2.out⟩
    rw [HR.out]
    rfl
  · have s1 : sv < 0 := by omega
    clear hs
    go_enter Tryd.func23, Tryd.ntmps23
    go_wp2_with fail
    refine (F1.out _ DB.out).mono ?_
    rintro e w1 ⟨rfl, hb⟩
    have D1 := Aside0.mk (below_then DB.out DB.out.size hb)
    have X1 := (hb.block _ (blk_lt DX.out)).trans DX.out
    have c4 : w1.cell? ⟨w.heap.size, 4, none⟩ = some (.int .i64 gr) := (blk_cell X1 4).trans rfl
    have X1 := Aside0.mk X1
    clear hb
    go_wp2_with fail
    refine (F2.out _ D1.out).mono ?_
    rintro e w2 ⟨rfl, hb⟩
    have D2 := Aside0.mk (below_then D1.out D1.out.size hb)
    have X2 := (hb.block _ (blk_lt X1.out)).trans X1.out
    have c0 : w2.cell? ⟨w.heap.size, 0, none⟩ = some (.int .i64 6) := (blk_cell X2 0).trans rfl
    have c5 : w2.cell? ⟨w.heap.size, 5, none⟩ = some (.int .i64 sv) := (blk_cell X2 5).trans rfl
    have X2 := Aside0.mk X2
    clear hb c4
    go_wp2_with fail
    go_ret
    refine ⟨?_, D2.out⟩
    rw [HR.out]
    rfl
theorem svc_ix0 (w : World) : (Instr.index 59 svcW (.int .i64 0)).run Tryd.prog w = .ok (.string ⟨#[102, 105, 102, 111]⟩) w := by kernel_rfl
theorem svc_ix1 (w : World) : (Instr.index 59 svcW (.int .i64 1)).run Tryd.prog w = .ok (.string ⟨#[99, 97, 117, 115, 97, 108]⟩) w := by kernel_rfl
theorem svc_ix2 (w : World) : (Instr.index 59 svcW (.int .i64 2)).run Tryd.prog w = .ok (.string ⟨#[97, 103, 114, 101, 101, 100]⟩) w := by kernel_rfl
theorem svc_ix3 (w : World) : (Instr.index 59 svcW (.int .i64 3)).run Tryd.prog w = .ok (.string ⟨#[115, 97, 102, 101]⟩) w := by kernel_rfl
set_option maxRecDepth 100000 in
set_option maxHeartbeats 4000000 in
theorem spelt_send0 (c : Call7) (hf : c.Fits) (w : World) (ht : Tens w) (h6 : c.kind = 6) (hs : c.svc = 0) :
    Calls Tryd.prog 23 #[.agg c.cells] w fun e w' => e = .returned (.string ⟨(speltL c).toArray⟩) ∧ Below w.heap.size w w' := by
  obtain ⟨k, h, o, g, gr, sv, tx⟩ := c
  obtain ⟨a0, a1, a2, a3, a4, a5, a6, a7, a8, a9, b0, b1, b2⟩ := hf
  simp only at a0 a1 a2 a3 a4 a5 a6 a7 a8 a9 b0 b1 b2
  obtain ⟨hn, rfl⟩ := Int.eq_ofNat_of_zero_le a2
  obtain ⟨on, rfl⟩ := Int.eq_ofNat_of_zero_le a4
  have HT := Aside0.mk ht
  have DB := Aside0.mk (below_alloc (Below.refl w.heap.size w) (.cells #[.int .i64 k, .int .u64 (hn : Int), .int .u64 (on : Int), .int .i64 g, .int .i64 gr, .int .i64 sv, .string ⟨tx.toArray⟩] 24))
  have DX := Aside0.mk (blk_new w (.cells #[.int .i64 k, .int .u64 (hn : Int), .int .u64 (on : Int), .int .i64 g, .int .i64 gr, .int .i64 sv, .string ⟨tx.toArray⟩] 24))
  have F1 := fun (w1 : World) (hb : Below w.heap.size w w1) => fmtUint_b hn (by omega) ht hb
  have F2 := fun (w1 : World) (hb : Below w.heap.size w w1) => itoa_b gr a8 a9 ht hb
  have F3 := fun (w1 : World) (hb : Below w.heap.size w w1) => fmtUint_b on (by omega) ht hb
  have F4 := fun (w1 : World) (hb : Below w.heap.size w w1) => itoa_b g a6 a7 ht hb
  have F1 := Aside0.mk F1
  have F2 := Aside0.mk F2
  have F3 := Aside0.mk F3
  have F4 := Aside0.mk F4
  have Z1 := dec_small hn (by omega)
  have Z2 := itoa_small gr a8 a9
  have Z3 := dec_small on (by omega)
  have Z4 := itoa_small g a6 a7
  rw [← size_arr] at Z1 Z2 Z3 Z4
  obtain ⟨sh, hsh⟩ : ∃ sh : ByteArray, sh = ⟨(Lib.decDigits hn).toArray⟩ := ⟨_, rfl⟩
  obtain ⟨sg, hsg⟩ : ∃ sg : ByteArray, sg = ⟨(Lib.itoa gr).toArray⟩ := ⟨_, rfl⟩
  obtain ⟨so, hso⟩ : ∃ so : ByteArray, so = ⟨(Lib.decDigits on).toArray⟩ := ⟨_, rfl⟩
  obtain ⟨sv2, hsv⟩ : ∃ sv2 : ByteArray, sv2 = ⟨(Lib.itoa g).toArray⟩ := ⟨_, rfl⟩
  rw [← hsh] at F1 Z1
  rw [← hsg] at F2 Z2
  rw [← hso] at F3 Z3
  rw [← hsv] at F4 Z4
  have HSH := Aside0.mk hsh
  have HSG := Aside0.mk hsg
  have HSO := Aside0.mk hso
  have HSV := Aside0.mk hsv
  clear hsh hsg hso hsv ht a0 a1 a2 a3 a4 a5 a6 a7 a8 a9 b0 b1
  subst h6
  subst hs
  have ZT : (⟨tx.toArray⟩ : ByteArray).size ≤ 140737488351232 := by rw [size_arr]; exact b2
  obtain ⟨st, hst⟩ : ∃ st : ByteArray, st = ⟨tx.toArray⟩ := ⟨_, rfl⟩
  rw [← hst] at ZT DX DB
  change Calls Tryd.prog 23 #[.agg #[.int .i64 6, .int .u64 (hn : Int), .int .u64 (on : Int), .int .i64 g, .int .i64 gr, .int .i64 0, .string ⟨tx.toArray⟩]] w _
  rw [← hst]
  have HST := Aside0.mk hst
  clear hst b2
  have HR := Aside0.mk (show speltL ⟨6, hn, on, g, gr, 0, tx⟩ = [115, 101, 110, 100, 32] ++ Lib.decDigits hn ++ [32] ++ Lib.itoa gr ++ [32] ++ [102, 105, 102, 111] ++ [32, 61] ++ tx from rfl)
  have hix := svc_ix0
  go_enter Tryd.func23, Tryd.ntmps23
  go_wp2_with fail
  refine (F1.out _ DB.out).mono ?_
  rintro e w1 ⟨rfl, hb⟩
  have D1 := Aside0.mk (below_then DB.out DB.out.size hb)
  have X1 := (hb.block _ (blk_lt DX.out)).trans DX.out
  have c4 : w1.cell? ⟨w.heap.size, 4, none⟩ = some (.int .i64 gr) := (blk_cell X1 4).trans rfl
  have X1 := Aside0.mk X1
  clear hb
  go_wp2_with fail
  refine (F2.out _ D1.out).mono ?_
  rintro e w2 ⟨rfl, hb⟩
  have D2 := Aside0.mk (below_then D1.out D1.out.size hb)
  have X2 := (hb.block _ (blk_lt X1.out)).trans X1.out
  have c0 : w2.cell? ⟨w.heap.size, 0, none⟩ = some (.int .i64 6) := (blk_cell X2 0).trans rfl
  have c5 : w2.cell? ⟨w.heap.size, 5, none⟩ = some (.int .i64 0) := (blk_cell X2 5).trans rfl
  have X2 := Aside0.mk X2
  clear hb c4
  go_wp2_with fail
  have E5 : w2.drew.cell? ⟨w.heap.size, 5, none⟩ = some (.int .i64 0) := c5
  have E6 : w2.drew.cell? ⟨w.heap.size, 6, none⟩ = some (.string st) := (blk_cell X2.out 6).trans rfl
  clear c0 c5
  have z0 : (9223372036854775807 < 5 + sh.size) = False := eq_false (by omega)
  have z1 : (9223372036854775807 < 5 + sh.size + 1) = False := eq_false (by omega)
  have z2 : (9223372036854775807 < 5 + sh.size + 1 + sg.size) = False := eq_false (by omega)
  have z3 : (9223372036854775807 < 5 + sh.size + 1 + sg.size + 1) = False := eq_false (by omega)
  have z4 : (9223372036854775807 < 5 + sh.size + 1 + sg.size + 1 + 4) = False := eq_false (by omega)
  have z5 : (9223372036854775807 < 5 + sh.size + 1 + sg.size + 1 + 4 + 2) = False := eq_false (by omega)
  have z6 : (9223372036854775807 < 5 + sh.size + 1 + sg.size + 1 + 4 + 2 + st.size) = False := eq_false (by omega)
  refine start_ (n := 16) (S := fun w' => w'.cell? ⟨w.heap.size, 5, none⟩ = some (.int .i64 0) ∧ w'.cell? ⟨w.heap.size, 6, none⟩ = some (.string st) ∧ Below w.heap.size w w') (ds := []) #[false, false, false, false, false, false, false, false, false, false, false, false, false, false, false, false] (by kernel_rfl) rfl rfl ⟨E5, E6, below_drew D2.out⟩ (fun hHeld => ?_)
  refine pure_ (i := 0) (N := some 61) (v := ?_) (a' := ?_) #[true, false, false, false, false, false, false, false, false, false, false, false, false, false, false, false] rfl rfl (by kernel_rfl) (fun _ _ _ h => h) (Or.inl ⟨by rfl, ?_⟩) ?_ ?_
  rotate_left
  · intro w'
    go_simp
    with_reducible rfl
  rotate_left
  · simp only [Act.put, List.setIfInBounds_toArray, List.set_cons_zero, List.set_cons_succ, i64_w, i32_w]
    rfl
  refine pure_ (i := 1) (N := some 62) (v := ?_) (a' := ?_) #[true, true, false, false, false, false, false, false, false, false, false, false, false, false, false, false] rfl rfl (by kernel_rfl) (fun _ _ _ h => h) (Or.inl ⟨by rfl, ?_⟩) ?_ ?_
  rotate_left
  · intro w'
    go_simp
    with_reducible rfl
  rotate_left
  · simp only [Act.put, List.setIfInBounds_toArray, List.set_cons_zero, List.set_cons_succ, i64_w, i32_w]
    rfl
  refine pure_ (i := 2) (N := some 63) (v := ?_) (a' := ?_) #[true, true, true, false, false, false, false, false, false, false, false, false, false, false, false, false] rfl rfl (by kernel_rfl) (fun _ _ _ h => h) (Or.inl ⟨by rfl, ?_⟩) ?_ ?_
  rotate_left
  · intro w'
    go_simp
    with_reducible rfl
  rotate_left
  · simp only [Act.put, List.setIfInBounds_toArray, List.set_cons_zero, List.set_cons_succ, i64_w, i32_w]
    rfl
  refine pure_ (i := 3) (N := some 64) (v := ?_) (a' := ?_) #[true, true, true, true, false, false, false, false, false, false, false, false, false, false, false, false] rfl rfl (by kernel_rfl) (fun _ _ _ h => h) (Or.inl ⟨by rfl, ?_⟩) ?_ ?_
  rotate_left
  · intro w'
    go_simp
    with_reducible rfl
  rotate_left
  · simp only [Act.put, List.setIfInBounds_toArray, List.set_cons_zero, List.set_cons_succ, i64_w, i32_w]
    rfl
  refine pure_ (i := 4) (N := some 65) (v := ?_) (a' := ?_) #[true, true, true, true, true, false, false, false, false, false, false, false, false, false, false, false] rfl rfl (by kernel_rfl) (fun _ _ _ h => h) (Or.inl ⟨by rfl, ?_⟩) ?_ ?_
  rotate_left
  · intro w'
    go_simp
    with_reducible rfl
  rotate_left
  · simp only [Act.put, List.setIfInBounds_toArray, List.set_cons_zero, List.set_cons_succ, i64_w, i32_w]
    rfl
  refine pure_ (i := 5) (N := some 66) (v := ?_) (a' := ?_) #[true, true, true, true, true, true, false, false, false, false, false, false, false, false, false, false] rfl rfl (by kernel_rfl) (fun _ _ _ h => h) (Or.inl ⟨by rfl, ?_⟩) ?_ ?_
  rotate_left
  · intro w'
    go_simp
    with_reducible rfl
  rotate_left
  · simp only [Act.put, List.setIfInBounds_toArray, List.set_cons_zero, List.set_cons_succ, i64_w, i32_w]
    rfl
  refine pure_ (i := 7) (N := some 68) (v := ?_) (a' := ?_) #[true, true, true, true, true, true, false, true, false, false, false, false, false, false, false, false] rfl rfl (by kernel_rfl) (fun _ _ _ h => h) (Or.inl ⟨by rfl, ?_⟩) ?_ ?_
  rotate_left
  · intro w'
    go_simp
    with_reducible rfl
  rotate_left
  · simp only [Act.put, List.setIfInBounds_toArray, List.set_cons_zero, List.set_cons_succ, i64_w, i32_w]
    rfl
  refine pure_ (i := 12) (N := some 73) (v := ?_) (a' := ?_) #[true, true, true, true, true, true, false, true, false, false, false, false, true, false, false, false] rfl rfl (by kernel_rfl) (fun _ _ _ h => h) (Or.inl ⟨by rfl, ?_⟩) ?_ ?_
  rotate_left
  · intro w'
    go_simp
    with_reducible rfl
  rotate_left
  · simp only [Act.put, List.setIfInBounds_toArray, List.set_cons_zero, List.set_cons_succ, i64_w, i32_w]
    rfl
  refine take_ (i := 8) (N := some 69) (v := ?_) (a' := ?_) #[true, true, true, true, true, true, false, true, true, false, false, false, true, false, false, false] rfl rfl (by kernel_rfl) (fun _ _ _ h => h) (Or.inl ⟨by rfl, ?_⟩) hHeld ?_ ?_
  rotate_left
  · rintro w' ⟨s0, s1, s2⟩
    go_simp
    with_reducible rfl
  rotate_left
  · simp only [Act.put, List.setIfInBounds_toArray, List.set_cons_zero, List.set_cons_succ, i64_w, i32_w]
    rfl
  refine take_ (i := 13) (N := some 74) (v := ?_) (a' := ?_) #[true, true, true, true, true, true, false, true, true, false, false, false, true, true, false, false] rfl rfl (by kernel_rfl) (fun _ _ _ h => h) (Or.inl ⟨by rfl, ?_⟩) hHeld ?_ ?_
  rotate_left
  · rintro w' ⟨s0, s1, s2⟩
    go_simp
    with_reducible rfl
  rotate_left
  · simp only [Act.put, List.setIfInBounds_toArray, List.set_cons_zero, List.set_cons_succ, i64_w, i32_w]
    rfl
  refine one_ (i := 6) (N := some 67) #[true, true, true, true, true, true, true, true, true, false, false, false, true, true, false, false] rfl rfl (by kernel_rfl) (by decide) (fun K hK => ?_)
  refine goes_ Tryd.func34 (by kernel_rfl) rfl #[] (by rfl) rfl rfl (by simp only [List.map_toArray, List.map_cons, List.map_nil]) ?_
  with_reducible refine (services_q _).mono ?_
  rintro e w3 ⟨rfl, hb3⟩
  refine ⟨_, rfl, ?_⟩
  refine hK.out _ _ ⟨pw_cell_below hb3 (hHeld.1), pw_cell_below hb3 (hHeld.2.1), below_then (hHeld.2.2) (hHeld.2.2).size hb3⟩ (fun hHeld => ?_)
  clear hK K
  refine norm_ (a' := ?_) ?_ ?_
  rotate_left
  · show Act.put _ (some 67) _ = _
    simp only [Act.put, List.setIfInBounds_toArray, List.set_cons_zero, List.set_cons_succ, i64_w, i32_w]
    rfl
  refine take_ (i := 9) (N := some 70) (v := ?_) (a' := ?_) #[true, true, true, true, true, true, true, true, true, true, false, false, true, true, false, false] rfl rfl (by kernel_rfl) (fun _ _ _ h => h) (Or.inl ⟨by rfl, ?_⟩) hHeld ?_ ?_
  rotate_left
  · rintro w' ⟨s0, s1, s2⟩
    go_simp
    with_reducible rfl
  rotate_left
  · simp only [Act.put, List.setIfInBounds_toArray, List.set_cons_zero, List.set_cons_succ, i64_w, i32_w]
    rfl
  refine pure_ (i := 10) (N := some 71) (v := ?_) (a' := ?_) #[true, true, true, true, true, true, true, true, true, true, true, false, true, true, false, false] rfl rfl (by kernel_rfl) (fun _ _ _ h => h) (Or.inl ⟨by rfl, ?_⟩) ?_ ?_
  rotate_left
  · intro w'
    go_simp
    with_reducible rfl
  rotate_left
  · simp only [Act.put, List.setIfInBounds_toArray, List.set_cons_zero, List.set_cons_succ, i64_w, i32_w]
    rfl
  refine pure_ (i := 11) (N := some 72) (v := ?_) (a' := ?_) #[true, true, true, true, true, true, true, true, true, true, true, true, true, true, false, false] rfl rfl (by kernel_rfl) (fun _ _ _ h => h) (Or.inl ⟨by rfl, ?_⟩) ?_ ?_
  rotate_left
  · intro w'
    go_simp
    with_reducible rfl
  rotate_left
  · simp only [Act.put, List.setIfInBounds_toArray, List.set_cons_zero, List.set_cons_succ, i64_w, i32_w]
    rfl
  refine pure_ (i := 14) (N := some 75) (v := ?_) (a' := ?_) #[true, true, true, true, true, true, true, true, true, true, true, true, true, true, true, false] rfl rfl (by kernel_rfl) (fun _ _ _ h => h) (Or.inl ⟨by rfl, ?_⟩) ?_ ?_
  rotate_left
  · intro w'
    go_simp
    with_reducible rfl
  rotate_left
  · simp only [Act.put, List.setIfInBounds_toArray, List.set_cons_zero, List.set_cons_succ, i64_w, i32_w]
    rfl
  refine pure_ (i := 15) (N := some 2) (v := ?_) (a' := ?_) #[true, true, true, true, true, true, true, true, true, true, true, true, true, true, true, true] rfl rfl (by kernel_rfl) (fun _ _ _ h => h) (Or.inl ⟨by rfl, ?_⟩) ?_ ?_
  rotate_left
  · intro w'
    go_simp
    with_reducible rfl
  rotate_left
  · simp only [Act.put, List.setIfInBounds_toArray, List.set_cons_zero, List.set_cons_succ, i64_w, i32_w]
    rfl
  refine done_ (by kernel_rfl) ?_
  go_wp2
  go_ret
  refine ⟨?_, hHeld.2.2⟩
  rw [HR.out, HSH.out, HSG.out, HST.out]
  exact ret_str (by apply ByteArray.ext; simp [ByteArray.data_append])
set_option maxRecDepth 100000 in
set_option maxHeartbeats 4000000 in
theorem spelt_send1 (c : Call7) (hf : c.Fits) (w : World) (ht : Tens w) (h6 : c.kind = 6) (hs : c.svc = 1) :
    Calls Tryd.prog 23 #[.agg c.cells] w fun e w' => e = .returned (.string ⟨(speltL c).toArray⟩) ∧ Below w.heap.size w w' := by
  obtain ⟨k, h, o, g, gr, sv, tx⟩ := c
  obtain ⟨a0, a1, a2, a3, a4, a5, a6, a7, a8, a9, b0, b1, b2⟩ := hf
  simp only at a0 a1 a2 a3 a4 a5 a6 a7 a8 a9 b0 b1 b2
  obtain ⟨hn, rfl⟩ := Int.eq_ofNat_of_zero_le a2
  obtain ⟨on, rfl⟩ := Int.eq_ofNat_of_zero_le a4
  have HT := Aside0.mk ht
  have DB := Aside0.mk (below_alloc (Below.refl w.heap.size w) (.cells #[.int .i64 k, .int .u64 (hn : Int), .int .u64 (on : Int), .int .i64 g, .int .i64 gr, .int .i64 sv, .string ⟨tx.toArray⟩] 24))
  have DX := Aside0.mk (blk_new w (.cells #[.int .i64 k, .int .u64 (hn : Int), .int .u64 (on : Int), .int .i64 g, .int .i64 gr, .int .i64 sv, .string ⟨tx.toArray⟩] 24))
  have F1 := fun (w1 : World) (hb : Below w.heap.size w w1) => fmtUint_b hn (by omega) ht hb
  have F2 := fun (w1 : World) (hb : Below w.heap.size w w1) => itoa_b gr a8 a9 ht hb
  have F3 := fun (w1 : World) (hb : Below w.heap.size w w1) => fmtUint_b on (by omega) ht hb
  have F4 := fun (w1 : World) (hb : Below w.heap.size w w1) => itoa_b g a6 a7 ht hb
  have F1 := Aside0.mk F1
  have F2 := Aside0.mk F2
  have F3 := Aside0.mk F3
  have F4 := Aside0.mk F4
  have Z1 := dec_small hn (by omega)
  have Z2 := itoa_small gr a8 a9
  have Z3 := dec_small on (by omega)
  have Z4 := itoa_small g a6 a7
  rw [← size_arr] at Z1 Z2 Z3 Z4
  obtain ⟨sh, hsh⟩ : ∃ sh : ByteArray, sh = ⟨(Lib.decDigits hn).toArray⟩ := ⟨_, rfl⟩
  obtain ⟨sg, hsg⟩ : ∃ sg : ByteArray, sg = ⟨(Lib.itoa gr).toArray⟩ := ⟨_, rfl⟩
  obtain ⟨so, hso⟩ : ∃ so : ByteArray, so = ⟨(Lib.decDigits on).toArray⟩ := ⟨_, rfl⟩
  obtain ⟨sv2, hsv⟩ : ∃ sv2 : ByteArray, sv2 = ⟨(Lib.itoa g).toArray⟩ := ⟨_, rfl⟩
  rw [← hsh] at F1 Z1
  rw [← hsg] at F2 Z2
  rw [← hso] at F3 Z3
  rw [← hsv] at F4 Z4
  have HSH := Aside0.mk hsh
  have HSG := Aside0.mk hsg
  have HSO := Aside0.mk hso
  have HSV := Aside0.mk hsv
  clear hsh hsg hso hsv ht a0 a1 a2 a3 a4 a5 a6 a7 a8 a9 b0 b1
  subst h6
  subst hs
  have ZT : (⟨tx.toArray⟩ : ByteArray).size ≤ 140737488351232 := by rw [size_arr]; exact b2
  obtain ⟨st, hst⟩ : ∃ st : ByteArray, st = ⟨tx.toArray⟩ := ⟨_, rfl⟩
  rw [← hst] at ZT DX DB
  change Calls Tryd.prog 23 #[.agg #[.int .i64 6, .int .u64 (hn : Int), .int .u64 (on : Int), .int .i64 g, .int .i64 gr, .int .i64 1, .string ⟨tx.toArray⟩]] w _
  rw [← hst]
  have HST := Aside0.mk hst
  clear hst b2
  have HR := Aside0.mk (show speltL ⟨6, hn, on, g, gr, 1, tx⟩ = [115, 101, 110, 100, 32] ++ Lib.decDigits hn ++ [32] ++ Lib.itoa gr ++ [32] ++ [99, 97, 117, 115, 97, 108] ++ [32, 61] ++ tx from rfl)
  have hix := svc_ix1
  go_enter Tryd.func23, Tryd.ntmps23
  go_wp2_with fail
  refine (F1.out _ DB.out).mono ?_
  rintro e w1 ⟨rfl, hb⟩
  have D1 := Aside0.mk (below_then DB.out DB.out.size hb)
  have X1 := (hb.block _ (blk_lt DX.out)).trans DX.out
  have c4 : w1.cell? ⟨w.heap.size, 4, none⟩ = some (.int .i64 gr) := (blk_cell X1 4).trans rfl
  have X1 := Aside0.mk X1
  clear hb
  go_wp2_with fail
  refine (F2.out _ D1.out).mono ?_
  rintro e w2 ⟨rfl, hb⟩
  have D2 := Aside0.mk (below_then D1.out D1.out.size hb)
  have X2 := (hb.block _ (blk_lt X1.out)).trans X1.out
  have c0 : w2.cell? ⟨w.heap.size, 0, none⟩ = some (.int .i64 6) := (blk_cell X2 0).trans rfl
  have c5 : w2.cell? ⟨w.heap.size, 5, none⟩ = some (.int .i64 1) := (blk_cell X2 5).trans rfl
  have X2 := Aside0.mk X2
  clear hb c4
  go_wp2_with fail
  have E5 : w2.drew.cell? ⟨w.heap.size, 5, none⟩ = some (.int .i64 1) := c5
  have E6 : w2.drew.cell? ⟨w.heap.size, 6, none⟩ = some (.string st) := (blk_cell X2.out 6).trans rfl
  clear c0 c5
  have z0 : (9223372036854775807 < 5 + sh.size) = False := eq_false (by omega)
  have z1 : (9223372036854775807 < 5 + sh.size + 1) = False := eq_false (by omega)
  have z2 : (9223372036854775807 < 5 + sh.size + 1 + sg.size) = False := eq_false (by omega)
  have z3 : (9223372036854775807 < 5 + sh.size + 1 + sg.size + 1) = False := eq_false (by omega)
  have z4 : (9223372036854775807 < 5 + sh.size + 1 + sg.size + 1 + 6) = False := eq_false (by omega)
  have z5 : (9223372036854775807 < 5 + sh.size + 1 + sg.size + 1 + 6 + 2) = False := eq_false (by omega)
  have z6 : (9223372036854775807 < 5 + sh.size + 1 + sg.size + 1 + 6 + 2 + st.size) = False := eq_false (by omega)
  refine start_ (n := 16) (S := fun w' => w'.cell? ⟨w.heap.size, 5, none⟩ = some (.int .i64 1) ∧ w'.cell? ⟨w.heap.size, 6, none⟩ = some (.string st) ∧ Below w.heap.size w w') (ds := []) #[false, false, false, false, false, false, false, false, false, false, false, false, false, false, false, false] (by kernel_rfl) rfl rfl ⟨E5, E6, below_drew D2.out⟩ (fun hHeld => ?_)
  refine pure_ (i := 0) (N := some 61) (v := ?_) (a' := ?_) #[true, false, false, false, false, false, false, false, false, false, false, false, false, false, false, false] rfl rfl (by kernel_rfl) (fun _ _ _ h => h) (Or.inl ⟨by rfl, ?_⟩) ?_ ?_
  rotate_left
  · intro w'
    go_simp
    with_reducible rfl
  rotate_left
  · simp only [Act.put, List.setIfInBounds_toArray, List.set_cons_zero, List.set_cons_succ, i64_w, i32_w]
    rfl
  refine pure_ (i := 1) (N := some 62) (v := ?_) (a' := ?_) #[true, true, false, false, false, false, false, false, false, false, false, false, false, false, false, false] rfl rfl (by kernel_rfl) (fun _ _ _ h => h) (Or.inl ⟨by rfl, ?_⟩) ?_ ?_
  rotate_left
  · intro w'
    go_simp
    with_reducible rfl
  rotate_left
  · simp only [Act.put, List.setIfInBounds_toArray, List.set_cons_zero, List.set_cons_succ, i64_w, i32_w]
    rfl
  refine pure_ (i := 2) (N := some 63) (v := ?_) (a' := ?_) #[true, true, true, false, false, false, false, false, false, false, false, false, false, false, false, false] rfl rfl (by kernel_rfl) (fun _ _ _ h => h) (Or.inl ⟨by rfl, ?_⟩) ?_ ?_
  rotate_left
  · intro w'
    go_simp
    with_reducible rfl
  rotate_left
  · simp only [Act.put, List.setIfInBounds_toArray, List.set_cons_zero, List.set_cons_succ, i64_w, i32_w]
    rfl
  refine pure_ (i := 3) (N := some 64) (v := ?_) (a' := ?_) #[true, true, true, true, false, false, false, false, false, false, false, false, false, false, false, false] rfl rfl (by kernel_rfl) (fun _ _ _ h => h) (Or.inl ⟨by rfl, ?_⟩) ?_ ?_
  rotate_left
  · intro w'
    go_simp
    with_reducible rfl
  rotate_left
  · simp only [Act.put, List.setIfInBounds_toArray, List.set_cons_zero, List.set_cons_succ, i64_w, i32_w]
    rfl
  refine pure_ (i := 4) (N := some 65) (v := ?_) (a' := ?_) #[true, true, true, true, true, false, false, false, false, false, false, false, false, false, false, false] rfl rfl (by kernel_rfl) (fun _ _ _ h => h) (Or.inl ⟨by rfl, ?_⟩) ?_ ?_
  rotate_left
  · intro w'
    go_simp
    with_reducible rfl
  rotate_left
  · simp only [Act.put, List.setIfInBounds_toArray, List.set_cons_zero, List.set_cons_succ, i64_w, i32_w]
    rfl
  refine pure_ (i := 5) (N := some 66) (v := ?_) (a' := ?_) #[true, true, true, true, true, true, false, false, false, false, false, false, false, false, false, false] rfl rfl (by kernel_rfl) (fun _ _ _ h => h) (Or.inl ⟨by rfl, ?_⟩) ?_ ?_
  rotate_left
  · intro w'
    go_simp
    with_reducible rfl
  rotate_left
  · simp only [Act.put, List.setIfInBounds_toArray, List.set_cons_zero, List.set_cons_succ, i64_w, i32_w]
    rfl
  refine pure_ (i := 7) (N := some 68) (v := ?_) (a' := ?_) #[true, true, true, true, true, true, false, true, false, false, false, false, false, false, false, false] rfl rfl (by kernel_rfl) (fun _ _ _ h => h) (Or.inl ⟨by rfl, ?_⟩) ?_ ?_
  rotate_left
  · intro w'
    go_simp
    with_reducible rfl
  rotate_left
  · simp only [Act.put, List.setIfInBounds_toArray, List.set_cons_zero, List.set_cons_succ, i64_w, i32_w]
    rfl
  refine pure_ (i := 12) (N := some 73) (v := ?_) (a' := ?_) #[true, true, true, true, true, true, false, true, false, false, false, false, true, false, false, false] rfl rfl (by kernel_rfl) (fun _ _ _ h => h) (Or.inl ⟨by rfl, ?_⟩) ?_ ?_
  rotate_left
  · intro w'
    go_simp
    with_reducible rfl
  rotate_left
  · simp only [Act.put, List.setIfInBounds_toArray, List.set_cons_zero, List.set_cons_succ, i64_w, i32_w]
    rfl
  refine take_ (i := 8) (N := some 69) (v := ?_) (a' := ?_) #[true, true, true, true, true, true, false, true, true, false, false, false, true, false, false, false] rfl rfl (by kernel_rfl) (fun _ _ _ h => h) (Or.inl ⟨by rfl, ?_⟩) hHeld ?_ ?_
  rotate_left
  · rintro w' ⟨s0, s1, s2⟩
    go_simp
    with_reducible rfl
  rotate_left
  · simp only [Act.put, List.setIfInBounds_toArray, List.set_cons_zero, List.set_cons_succ, i64_w, i32_w]
    rfl
  refine take_ (i := 13) (N := some 74) (v := ?_) (a' := ?_) #[true, true, true, true, true, true, false, true, true, false, false, false, true, true, false, false] rfl rfl (by kernel_rfl) (fun _ _ _ h => h) (Or.inl ⟨by rfl, ?_⟩) hHeld ?_ ?_
  rotate_left
  · rintro w' ⟨s0, s1, s2⟩
    go_simp
    with_reducible rfl
  rotate_left
  · simp only [Act.put, List.setIfInBounds_toArray, List.set_cons_zero, List.set_cons_succ, i64_w, i32_w]
    rfl
  refine one_ (i := 6) (N := some 67) #[true, true, true, true, true, true, true, true, true, false, false, false, true, true, false, false] rfl rfl (by kernel_rfl) (by decide) (fun K hK => ?_)
  refine goes_ Tryd.func34 (by kernel_rfl) rfl #[] (by rfl) rfl rfl (by simp only [List.map_toArray, List.map_cons, List.map_nil]) ?_
  with_reducible refine (services_q _).mono ?_
  rintro e w3 ⟨rfl, hb3⟩
  refine ⟨_, rfl, ?_⟩
  refine hK.out _ _ ⟨pw_cell_below hb3 (hHeld.1), pw_cell_below hb3 (hHeld.2.1), below_then (hHeld.2.2) (hHeld.2.2).size hb3⟩ (fun hHeld => ?_)
  clear hK K
  refine norm_ (a' := ?_) ?_ ?_
  rotate_left
  · show Act.put _ (some 67) _ = _
    simp only [Act.put, List.setIfInBounds_toArray, List.set_cons_zero, List.set_cons_succ, i64_w, i32_w]
    rfl
  refine take_ (i := 9) (N := some 70) (v := ?_) (a' := ?_) #[true, true, true, true, true, true, true, true, true, true, false, false, true, true, false, false] rfl rfl (by kernel_rfl) (fun _ _ _ h => h) (Or.inl ⟨by rfl, ?_⟩) hHeld ?_ ?_
  rotate_left
  · rintro w' ⟨s0, s1, s2⟩
    go_simp
    with_reducible rfl
  rotate_left
  · simp only [Act.put, List.setIfInBounds_toArray, List.set_cons_zero, List.set_cons_succ, i64_w, i32_w]
    rfl
  refine pure_ (i := 10) (N := some 71) (v := ?_) (a' := ?_) #[true, true, true, true, true, true, true, true, true, true, true, false, true, true, false, false] rfl rfl (by kernel_rfl) (fun _ _ _ h => h) (Or.inl ⟨by rfl, ?_⟩) ?_ ?_
  rotate_left
  · intro w'
    go_simp
    with_reducible rfl
  rotate_left
  · simp only [Act.put, List.setIfInBounds_toArray, List.set_cons_zero, List.set_cons_succ, i64_w, i32_w]
    rfl
  refine pure_ (i := 11) (N := some 72) (v := ?_) (a' := ?_) #[true, true, true, true, true, true, true, true, true, true, true, true, true, true, false, false] rfl rfl (by kernel_rfl) (fun _ _ _ h => h) (Or.inl ⟨by rfl, ?_⟩) ?_ ?_
  rotate_left
  · intro w'
    go_simp
    with_reducible rfl
  rotate_left
  · simp only [Act.put, List.setIfInBounds_toArray, List.set_cons_zero, List.set_cons_succ, i64_w, i32_w]
    rfl
  refine pure_ (i := 14) (N := some 75) (v := ?_) (a' := ?_) #[true, true, true, true, true, true, true, true, true, true, true, true, true, true, true, false] rfl rfl (by kernel_rfl) (fun _ _ _ h => h) (Or.inl ⟨by rfl, ?_⟩) ?_ ?_
  rotate_left
  · intro w'
    go_simp
    with_reducible rfl
  rotate_left
  · simp only [Act.put, List.setIfInBounds_toArray, List.set_cons_zero, List.set_cons_succ, i64_w, i32_w]
    rfl
  refine pure_ (i := 15) (N := some 2) (v := ?_) (a' := ?_) #[true, true, true, true, true, true, true, true, true, true, true, true, true, true, true, true] rfl rfl (by kernel_rfl) (fun _ _ _ h => h) (Or.inl ⟨by rfl, ?_⟩) ?_ ?_
  rotate_left
  · intro w'
    go_simp
    with_reducible rfl
  rotate_left
  · simp only [Act.put, List.setIfInBounds_toArray, List.set_cons_zero, List.set_cons_succ, i64_w, i32_w]
    rfl
  refine done_ (by kernel_rfl) ?_
  go_wp2
  go_ret
  refine ⟨?_, hHeld.2.2⟩
  rw [HR.out, HSH.out, HSG.out, HST.out]
  exact ret_str (by apply ByteArray.ext; simp [ByteArray.data_append])
set_option maxRecDepth 100000 in
set_option maxHeartbeats 4000000 in
theorem spelt_send2 (c : Call7) (hf : c.Fits) (w : World) (ht : Tens w) (h6 : c.kind = 6) (hs : c.svc = 2) :
    Calls Tryd.prog 23 #[.agg c.cells] w fun e w' => e = .returned (.string ⟨(speltL c).toArray⟩) ∧ Below w.heap.size w w' := by
  obtain ⟨k, h, o, g, gr, sv, tx⟩ := c
  obtain ⟨a0, a1, a2, a3, a4, a5, a6, a7, a8, a9, b0, b1, b2⟩ := hf
  simp only at a0 a1 a2 a3 a4 a5 a6 a7 a8 a9 b0 b1 b2
  obtain ⟨hn, rfl⟩ := Int.eq_ofNat_of_zero_le a2
  obtain ⟨on, rfl⟩ := Int.eq_ofNat_of_zero_le a4
  have HT := Aside0.mk ht
  have DB := Aside0.mk (below_alloc (Below.refl w.heap.size w) (.cells #[.int .i64 k, .int .u64 (hn : Int), .int .u64 (on : Int), .int .i64 g, .int .i64 gr, .int .i64 sv, .string ⟨tx.toArray⟩] 24))
  have DX := Aside0.mk (blk_new w (.cells #[.int .i64 k, .int .u64 (hn : Int), .int .u64 (on : Int), .int .i64 g, .int .i64 gr, .int .i64 sv, .string ⟨tx.toArray⟩] 24))
  have F1 := fun (w1 : World) (hb : Below w.heap.size w w1) => fmtUint_b hn (by omega) ht hb
  have F2 := fun (w1 : World) (hb : Below w.heap.size w w1) => itoa_b gr a8 a9 ht hb
  have F3 := fun (w1 : World) (hb : Below w.heap.size w w1) => fmtUint_b on (by omega) ht hb
  have F4 := fun (w1 : World) (hb : Below w.heap.size w w1) => itoa_b g a6 a7 ht hb
  have F1 := Aside0.mk F1
  have F2 := Aside0.mk F2
  have F3 := Aside0.mk F3
  have F4 := Aside0.mk F4
  have Z1 := dec_small hn (by omega)
  have Z2 := itoa_small gr a8 a9
  have Z3 := dec_small on (by omega)
  have Z4 := itoa_small g a6 a7
  rw [← size_arr] at Z1 Z2 Z3 Z4
  obtain ⟨sh, hsh⟩ : ∃ sh : ByteArray, sh = ⟨(Lib.decDigits hn).toArray⟩ := ⟨_, rfl⟩
  obtain ⟨sg, hsg⟩ : ∃ sg : ByteArray, sg = ⟨(Lib.itoa gr).toArray⟩ := ⟨_, rfl⟩
  obtain ⟨so, hso⟩ : ∃ so : ByteArray, so = ⟨(Lib.decDigits on).toArray⟩ := ⟨_, rfl⟩
  obtain ⟨sv2, hsv⟩ : ∃ sv2 : ByteArray, sv2 = ⟨(Lib.itoa g).toArray⟩ := ⟨_, rfl⟩
  rw [← hsh] at F1 Z1
  rw [← hsg] at F2 Z2
  rw [← hso] at F3 Z3
  rw [← hsv] at F4 Z4
  have HSH := Aside0.mk hsh
  have HSG := Aside0.mk hsg
  have HSO := Aside0.mk hso
  have HSV := Aside0.mk hsv
  clear hsh hsg hso hsv ht a0 a1 a2 a3 a4 a5 a6 a7 a8 a9 b0 b1
  subst h6
  subst hs
  have ZT : (⟨tx.toArray⟩ : ByteArray).size ≤ 140737488351232 := by rw [size_arr]; exact b2
  obtain ⟨st, hst⟩ : ∃ st : ByteArray, st = ⟨tx.toArray⟩ := ⟨_, rfl⟩
  rw [← hst] at ZT DX DB
  change Calls Tryd.prog 23 #[.agg #[.int .i64 6, .int .u64 (hn : Int), .int .u64 (on : Int), .int .i64 g, .int .i64 gr, .int .i64 2, .string ⟨tx.toArray⟩]] w _
  rw [← hst]
  have HST := Aside0.mk hst
  clear hst b2
  have HR := Aside0.mk (show speltL ⟨6, hn, on, g, gr, 2, tx⟩ = [115, 101, 110, 100, 32] ++ Lib.decDigits hn ++ [32] ++ Lib.itoa gr ++ [32] ++ [97, 103, 114, 101, 101, 100] ++ [32, 61] ++ tx from rfl)
  have hix := svc_ix2
  go_enter Tryd.func23, Tryd.ntmps23
  go_wp2_with fail
  refine (F1.out _ DB.out).mono ?_
  rintro e w1 ⟨rfl, hb⟩
  have D1 := Aside0.mk (below_then DB.out DB.out.size hb)
  have X1 := (hb.block _ (blk_lt DX.out)).trans DX.out
  have c4 : w1.cell? ⟨w.heap.size, 4, none⟩ = some (.int .i64 gr) := (blk_cell X1 4).trans rfl
  have X1 := Aside0.mk X1
  clear hb
  go_wp2_with fail
  refine (F2.out _ D1.out).mono ?_
  rintro e w2 ⟨rfl, hb⟩
  have D2 := Aside0.mk (below_then D1.out D1.out.size hb)
  have X2 := (hb.block _ (blk_lt X1.out)).trans X1.out
  have c0 : w2.cell? ⟨w.heap.size, 0, none⟩ = some (.int .i64 6) := (blk_cell X2 0).trans rfl
  have c5 : w2.cell? ⟨w.heap.size, 5, none⟩ = some (.int .i64 2) := (blk_cell X2 5).trans rfl
  have X2 := Aside0.mk X2
  clear hb c4
  go_wp2_with fail
  have E5 : w2.drew.cell? ⟨w.heap.size, 5, none⟩ = some (.int .i64 2) := c5
  have E6 : w2.drew.cell? ⟨w.heap.size, 6, none⟩ = some (.string st) := (blk_cell X2.out 6).trans rfl
  clear c0 c5
  have z0 : (9223372036854775807 < 5 + sh.size) = False := eq_false (by omega)
  have z1 : (9223372036854775807 < 5 + sh.size + 1) = False := eq_false (by omega)
  have z2 : (9223372036854775807 < 5 + sh.size + 1 + sg.size) = False := eq_false (by omega)
  have z3 : (9223372036854775807 < 5 + sh.size + 1 + sg.size + 1) = False := eq_false (by omega)
  have z4 : (9223372036854775807 < 5 + sh.size + 1 + sg.size + 1 + 6) = False := eq_false (by omega)
  have z5 : (9223372036854775807 < 5 + sh.size + 1 + sg.size + 1 + 6 + 2) = False := eq_false (by omega)
  have z6 : (9223372036854775807 < 5 + sh.size + 1 + sg.size + 1 + 6 + 2 + st.size) = False := eq_false (by omega)
  refine start_ (n := 16) (S := fun w' => w'.cell? ⟨w.heap.size, 5, none⟩ = some (.int .i64 2) ∧ w'.cell? ⟨w.heap.size, 6, none⟩ = some (.string st) ∧ Below w.heap.size w w') (ds := []) #[false, false, false, false, false, false, false, false, false, false, false, false, false, false, false, false] (by kernel_rfl) rfl rfl ⟨E5, E6, below_drew D2.out⟩ (fun hHeld => ?_)
  refine pure_ (i := 0) (N := some 61) (v := ?_) (a' := ?_) #[true, false, false, false, false, false, false, false, false, false, false, false, false, false, false, false] rfl rfl (by kernel_rfl) (fun _ _ _ h => h) (Or.inl ⟨by rfl, ?_⟩) ?_ ?_
  rotate_left
  · intro w'
    go_simp
    with_reducible rfl
  rotate_left
  · simp only [Act.put, List.setIfInBounds_toArray, List.set_cons_zero, List.set_cons_succ, i64_w, i32_w]
    rfl
  refine pure_ (i := 1) (N := some 62) (v := ?_) (a' := ?_) #[true, true, false, false, false, false, false, false, false, false, false, false, false, false, false, false] rfl rfl (by kernel_rfl) (fun _ _ _ h => h) (Or.inl ⟨by rfl, ?_⟩) ?_ ?_
  rotate_left
  · intro w'
    go_simp
    with_reducible rfl
  rotate_left
  · simp only [Act.put, List.setIfInBounds_toArray, List.set_cons_zero, List.set_cons_succ, i64_w, i32_w]
    rfl
  refine pure_ (i := 2) (N := some 63) (v := ?_) (a' := ?_) #[true, true, true, false, false, false, false, false, false, false, false, false, false, false, false, false] rfl rfl (by kernel_rfl) (fun _ _ _ h => h) (Or.inl ⟨by rfl, ?_⟩) ?_ ?_
  rotate_left
  · intro w'
    go_simp
    with_reducible rfl
  rotate_left
  · simp only [Act.put, List.setIfInBounds_toArray, List.set_cons_zero, List.set_cons_succ, i64_w, i32_w]
    rfl
  refine pure_ (i := 3) (N := some 64) (v := ?_) (a' := ?_) #[true, true, true, true, false, false, false, false, false, false, false, false, false, false, false, false] rfl rfl (by kernel_rfl) (fun _ _ _ h => h) (Or.inl ⟨by rfl, ?_⟩) ?_ ?_
  rotate_left
  · intro w'
    go_simp
    with_reducible rfl
  rotate_left
  · simp only [Act.put, List.setIfInBounds_toArray, List.set_cons_zero, List.set_cons_succ, i64_w, i32_w]
    rfl
  refine pure_ (i := 4) (N := some 65) (v := ?_) (a' := ?_) #[true, true, true, true, true, false, false, false, false, false, false, false, false, false, false, false] rfl rfl (by kernel_rfl) (fun _ _ _ h => h) (Or.inl ⟨by rfl, ?_⟩) ?_ ?_
  rotate_left
  · intro w'
    go_simp
    with_reducible rfl
  rotate_left
  · simp only [Act.put, List.setIfInBounds_toArray, List.set_cons_zero, List.set_cons_succ, i64_w, i32_w]
    rfl
  refine pure_ (i := 5) (N := some 66) (v := ?_) (a' := ?_) #[true, true, true, true, true, true, false, false, false, false, false, false, false, false, false, false] rfl rfl (by kernel_rfl) (fun _ _ _ h => h) (Or.inl ⟨by rfl, ?_⟩) ?_ ?_
  rotate_left
  · intro w'
    go_simp
    with_reducible rfl
  rotate_left
  · simp only [Act.put, List.setIfInBounds_toArray, List.set_cons_zero, List.set_cons_succ, i64_w, i32_w]
    rfl
  refine pure_ (i := 7) (N := some 68) (v := ?_) (a' := ?_) #[true, true, true, true, true, true, false, true, false, false, false, false, false, false, false, false] rfl rfl (by kernel_rfl) (fun _ _ _ h => h) (Or.inl ⟨by rfl, ?_⟩) ?_ ?_
  rotate_left
  · intro w'
    go_simp
    with_reducible rfl
  rotate_left
  · simp only [Act.put, List.setIfInBounds_toArray, List.set_cons_zero, List.set_cons_succ, i64_w, i32_w]
    rfl
  refine pure_ (i := 12) (N := some 73) (v := ?_) (a' := ?_) #[true, true, true, true, true, true, false, true, false, false, false, false, true, false, false, false] rfl rfl (by kernel_rfl) (fun _ _ _ h => h) (Or.inl ⟨by rfl, ?_⟩) ?_ ?_
  rotate_left
  · intro w'
    go_simp
    with_reducible rfl
  rotate_left
  · simp only [Act.put, List.setIfInBounds_toArray, List.set_cons_zero, List.set_cons_succ, i64_w, i32_w]
    rfl
  refine take_ (i := 8) (N := some 69) (v := ?_) (a' := ?_) #[true, true, true, true, true, true, false, true, true, false, false, false, true, false, false, false] rfl rfl (by kernel_rfl) (fun _ _ _ h => h) (Or.inl ⟨by rfl, ?_⟩) hHeld ?_ ?_
  rotate_left
  · rintro w' ⟨s0, s1, s2⟩
    go_simp
    with_reducible rfl
  rotate_left
  · simp only [Act.put, List.setIfInBounds_toArray, List.set_cons_zero, List.set_cons_succ, i64_w, i32_w]
    rfl
  refine take_ (i := 13) (N := some 74) (v := ?_) (a' := ?_) #[true, true, true, true, true, true, false, true, true, false, false, false, true, true, false, false] rfl rfl (by kernel_rfl) (fun _ _ _ h => h) (Or.inl ⟨by rfl, ?_⟩) hHeld ?_ ?_
  rotate_left
  · rintro w' ⟨s0, s1, s2⟩
    go_simp
    with_reducible rfl
  rotate_left
  · simp only [Act.put, List.setIfInBounds_toArray, List.set_cons_zero, List.set_cons_succ, i64_w, i32_w]
    rfl
  refine one_ (i := 6) (N := some 67) #[true, true, true, true, true, true, true, true, true, false, false, false, true, true, false, false] rfl rfl (by kernel_rfl) (by decide) (fun K hK => ?_)
  refine goes_ Tryd.func34 (by kernel_rfl) rfl #[] (by rfl) rfl rfl (by simp only [List.map_toArray, List.map_cons, List.map_nil]) ?_
  with_reducible refine (services_q _).mono ?_
  rintro e w3 ⟨rfl, hb3⟩
  refine ⟨_, rfl, ?_⟩
  refine hK.out _ _ ⟨pw_cell_below hb3 (hHeld.1), pw_cell_below hb3 (hHeld.2.1), below_then (hHeld.2.2) (hHeld.2.2).size hb3⟩ (fun hHeld => ?_)
  clear hK K
  refine norm_ (a' := ?_) ?_ ?_
  rotate_left
  · show Act.put _ (some 67) _ = _
    simp only [Act.put, List.setIfInBounds_toArray, List.set_cons_zero, List.set_cons_succ, i64_w, i32_w]
    rfl
  refine take_ (i := 9) (N := some 70) (v := ?_) (a' := ?_) #[true, true, true, true, true, true, true, true, true, true, false, false, true, true, false, false] rfl rfl (by kernel_rfl) (fun _ _ _ h => h) (Or.inl ⟨by rfl, ?_⟩) hHeld ?_ ?_
  rotate_left
  · rintro w' ⟨s0, s1, s2⟩
    go_simp
    with_reducible rfl
  rotate_left
  · simp only [Act.put, List.setIfInBounds_toArray, List.set_cons_zero, List.set_cons_succ, i64_w, i32_w]
    rfl
  refine pure_ (i := 10) (N := some 71) (v := ?_) (a' := ?_) #[true, true, true, true, true, true, true, true, true, true, true, false, true, true, false, false] rfl rfl (by kernel_rfl) (fun _ _ _ h => h) (Or.inl ⟨by rfl, ?_⟩) ?_ ?_
  rotate_left
  · intro w'
    go_simp
    with_reducible rfl
  rotate_left
  · simp only [Act.put, List.setIfInBounds_toArray, List.set_cons_zero, List.set_cons_succ, i64_w, i32_w]
    rfl
  refine pure_ (i := 11) (N := some 72) (v := ?_) (a' := ?_) #[true, true, true, true, true, true, true, true, true, true, true, true, true, true, false, false] rfl rfl (by kernel_rfl) (fun _ _ _ h => h) (Or.inl ⟨by rfl, ?_⟩) ?_ ?_
  rotate_left
  · intro w'
    go_simp
    with_reducible rfl
  rotate_left
  · simp only [Act.put, List.setIfInBounds_toArray, List.set_cons_zero, List.set_cons_succ, i64_w, i32_w]
    rfl
  refine pure_ (i := 14) (N := some 75) (v := ?_) (a' := ?_) #[true, true, true, true, true, true, true, true, true, true, true, true, true, true, true, false] rfl rfl (by kernel_rfl) (fun _ _ _ h => h) (Or.inl ⟨by rfl, ?_⟩) ?_ ?_
  rotate_left
  · intro w'
    go_simp
    with_reducible rfl
  rotate_left
  · simp only [Act.put, List.setIfInBounds_toArray, List.set_cons_zero, List.set_cons_succ, i64_w, i32_w]
    rfl
  refine pure_ (i := 15) (N := some 2) (v := ?_) (a' := ?_) #[true, true, true, true, true, true, true, true, true, true, true, true, true, true, true, true] rfl rfl (by kernel_rfl) (fun _ _ _ h => h) (Or.inl ⟨by rfl, ?_⟩) ?_ ?_
  rotate_left
  · intro w'
    go_simp
    with_reducible rfl
  rotate_left
  · simp only [Act.put, List.setIfInBounds_toArray, List.set_cons_zero, List.set_cons_succ, i64_w, i32_w]
    rfl
  refine done_ (by kernel_rfl) ?_
  go_wp2
  go_ret
  refine ⟨?_, hHeld.2.2⟩
  rw [HR.out, HSH.out, HSG.out, HST.out]
  exact ret_str (by apply ByteArray.ext; simp [ByteArray.data_append])
set_option maxRecDepth 100000 in
set_option maxHeartbeats 4000000 in
theorem spelt_send3 (c : Call7) (hf : c.Fits) (w : World) (ht : Tens w) (h6 : c.kind = 6) (hs : c.svc = 3) :
    Calls Tryd.prog 23 #[.agg c.cells] w fun e w' => e = .returned (.string ⟨(speltL c).toArray⟩) ∧ Below w.heap.size w w' := by
  obtain ⟨k, h, o, g, gr, sv, tx⟩ := c
  obtain ⟨a0, a1, a2, a3, a4, a5, a6, a7, a8, a9, b0, b1, b2⟩ := hf
  simp only at a0 a1 a2 a3 a4 a5 a6 a7 a8 a9 b0 b1 b2
  obtain ⟨hn, rfl⟩ := Int.eq_ofNat_of_zero_le a2
  obtain ⟨on, rfl⟩ := Int.eq_ofNat_of_zero_le a4
  have HT := Aside0.mk ht
  have DB := Aside0.mk (below_alloc (Below.refl w.heap.size w) (.cells #[.int .i64 k, .int .u64 (hn : Int), .int .u64 (on : Int), .int .i64 g, .int .i64 gr, .int .i64 sv, .string ⟨tx.toArray⟩] 24))
  have DX := Aside0.mk (blk_new w (.cells #[.int .i64 k, .int .u64 (hn : Int), .int .u64 (on : Int), .int .i64 g, .int .i64 gr, .int .i64 sv, .string ⟨tx.toArray⟩] 24))
  have F1 := fun (w1 : World) (hb : Below w.heap.size w w1) => fmtUint_b hn (by omega) ht hb
  have F2 := fun (w1 : World) (hb : Below w.heap.size w w1) => itoa_b gr a8 a9 ht hb
  have F3 := fun (w1 : World) (hb : Below w.heap.size w w1) => fmtUint_b on (by omega) ht hb
  have F4 := fun (w1 : World) (hb : Below w.heap.size w w1) => itoa_b g a6 a7 ht hb
  have F1 := Aside0.mk F1
  have F2 := Aside0.mk F2
  have F3 := Aside0.mk F3
  have F4 := Aside0.mk F4
  have Z1 := dec_small hn (by omega)
  have Z2 := itoa_small gr a8 a9
  have Z3 := dec_small on (by omega)
  have Z4 := itoa_small g a6 a7
  rw [← size_arr] at Z1 Z2 Z3 Z4
  obtain ⟨sh, hsh⟩ : ∃ sh : ByteArray, sh = ⟨(Lib.decDigits hn).toArray⟩ := ⟨_, rfl⟩
  obtain ⟨sg, hsg⟩ : ∃ sg : ByteArray, sg = ⟨(Lib.itoa gr).toArray⟩ := ⟨_, rfl⟩
  obtain ⟨so, hso⟩ : ∃ so : ByteArray, so = ⟨(Lib.decDigits on).toArray⟩ := ⟨_, rfl⟩
  obtain ⟨sv2, hsv⟩ : ∃ sv2 : ByteArray, sv2 = ⟨(Lib.itoa g).toArray⟩ := ⟨_, rfl⟩
  rw [← hsh] at F1 Z1
  rw [← hsg] at F2 Z2
  rw [← hso] at F3 Z3
  rw [← hsv] at F4 Z4
  have HSH := Aside0.mk hsh
  have HSG := Aside0.mk hsg
  have HSO := Aside0.mk hso
  have HSV := Aside0.mk hsv
  clear hsh hsg hso hsv ht a0 a1 a2 a3 a4 a5 a6 a7 a8 a9 b0 b1
  subst h6
  subst hs
  have ZT : (⟨tx.toArray⟩ : ByteArray).size ≤ 140737488351232 := by rw [size_arr]; exact b2
  obtain ⟨st, hst⟩ : ∃ st : ByteArray, st = ⟨tx.toArray⟩ := ⟨_, rfl⟩
  rw [← hst] at ZT DX DB
  change Calls Tryd.prog 23 #[.agg #[.int .i64 6, .int .u64 (hn : Int), .int .u64 (on : Int), .int .i64 g, .int .i64 gr, .int .i64 3, .string ⟨tx.toArray⟩]] w _
  rw [← hst]
  have HST := Aside0.mk hst
  clear hst b2
  have HR := Aside0.mk (show speltL ⟨6, hn, on, g, gr, 3, tx⟩ = [115, 101, 110, 100, 32] ++ Lib.decDigits hn ++ [32] ++ Lib.itoa gr ++ [32] ++ [115, 97, 102, 101] ++ [32, 61] ++ tx from rfl)
  have hix := svc_ix3
  go_enter Tryd.func23, Tryd.ntmps23
  go_wp2_with fail
  refine (F1.out _ DB.out).mono ?_
  rintro e w1 ⟨rfl, hb⟩
  have D1 := Aside0.mk (below_then DB.out DB.out.size hb)
  have X1 := (hb.block _ (blk_lt DX.out)).trans DX.out
  have c4 : w1.cell? ⟨w.heap.size, 4, none⟩ = some (.int .i64 gr) := (blk_cell X1 4).trans rfl
  have X1 := Aside0.mk X1
  clear hb
  go_wp2_with fail
  refine (F2.out _ D1.out).mono ?_
  rintro e w2 ⟨rfl, hb⟩
  have D2 := Aside0.mk (below_then D1.out D1.out.size hb)
  have X2 := (hb.block _ (blk_lt X1.out)).trans X1.out
  have c0 : w2.cell? ⟨w.heap.size, 0, none⟩ = some (.int .i64 6) := (blk_cell X2 0).trans rfl
  have c5 : w2.cell? ⟨w.heap.size, 5, none⟩ = some (.int .i64 3) := (blk_cell X2 5).trans rfl
  have X2 := Aside0.mk X2
  clear hb c4
  go_wp2_with fail
  have E5 : w2.drew.cell? ⟨w.heap.size, 5, none⟩ = some (.int .i64 3) := c5
  have E6 : w2.drew.cell? ⟨w.heap.size, 6, none⟩ = some (.string st) := (blk_cell X2.out 6).trans rfl
  clear c0 c5
  have z0 : (9223372036854775807 < 5 + sh.size) = False := eq_false (by omega)
  have z1 : (9223372036854775807 < 5 + sh.size + 1) = False := eq_false (by omega)
  have z2 : (9223372036854775807 < 5 + sh.size + 1 + sg.size) = False := eq_false (by omega)
  have z3 : (9223372036854775807 < 5 + sh.size + 1 + sg.size + 1) = False := eq_false (by omega)
  have z4 : (9223372036854775807 < 5 + sh.size + 1 + sg.size + 1 + 4) = False := eq_false (by omega)
  have z5 : (9223372036854775807 < 5 + sh.size + 1 + sg.size + 1 + 4 + 2) = False := eq_false (by omega)
  have z6 : (9223372036854775807 < 5 + sh.size + 1 + sg.size + 1 + 4 + 2 + st.size) = False := eq_false (by omega)
  refine start_ (n := 16) (S := fun w' => w'.cell? ⟨w.heap.size, 5, none⟩ = some (.int .i64 3) ∧ w'.cell? ⟨w.heap.size, 6, none⟩ = some (.string st) ∧ Below w.heap.size w w') (ds := []) #[false, false, false, false, false, false, false, false, false, false, false, false, false, false, false, false] (by kernel_rfl) rfl rfl ⟨E5, E6, below_drew D2.out⟩ (fun hHeld => ?_)
  refine pure_ (i := 0) (N := some 61) (v := ?_) (a' := ?_) #[true, false, false, false, false, false, false, false, false, false, false, false, false, false, false, false] rfl rfl (by kernel_rfl) (fun _ _ _ h => h) (Or.inl ⟨by rfl, ?_⟩) ?_ ?_
  rotate_left
  · intro w'
    go_simp
    with_reducible rfl
  rotate_left
  · simp only [Act.put, List.setIfInBounds_toArray, List.set_cons_zero, List.set_cons_succ, i64_w, i32_w]
    rfl
  refine pure_ (i := 1) (N := some 62) (v := ?_) (a' := ?_) #[true, true, false, false, false, false, false, false, false, false, false, false, false, false, false, false] rfl rfl (by kernel_rfl) (fun _ _ _ h => h) (Or.inl ⟨by rfl, ?_⟩) ?_ ?_
  rotate_left
  · intro w'
    go_simp
    with_reducible rfl
  rotate_left
  · simp only [Act.put, List.setIfInBounds_toArray, List.set_cons_zero, List.set_cons_succ, i64_w, i32_w]
    rfl
  refine pure_ (i := 2) (N := some 63) (v := ?_) (a' := ?_) #[true, true, true, false, false, false, false, false, false, false, false, false, false, false, false, false] rfl rfl (by kernel_rfl) (fun _ _ _ h => h) (Or.inl ⟨by rfl, ?_⟩) ?_ ?_
  rotate_left
  · intro w'
    go_simp
    with_reducible rfl
  rotate_left
  · simp only [Act.put, List.setIfInBounds_toArray, List.set_cons_zero, List.set_cons_succ, i64_w, i32_w]
    rfl
  refine pure_ (i := 3) (N := some 64) (v := ?_) (a' := ?_) #[true, true, true, true, false, false, false, false, false, false, false, false, false, false, false, false] rfl rfl (by kernel_rfl) (fun _ _ _ h => h) (Or.inl ⟨by rfl, ?_⟩) ?_ ?_
  rotate_left
  · intro w'
    go_simp
    with_reducible rfl
  rotate_left
  · simp only [Act.put, List.setIfInBounds_toArray, List.set_cons_zero, List.set_cons_succ, i64_w, i32_w]
    rfl
  refine pure_ (i := 4) (N := some 65) (v := ?_) (a' := ?_) #[true, true, true, true, true, false, false, false, false, false, false, false, false, false, false, false] rfl rfl (by kernel_rfl) (fun _ _ _ h => h) (Or.inl ⟨by rfl, ?_⟩) ?_ ?_
  rotate_left
  · intro w'
    go_simp
    with_reducible rfl
  rotate_left
  · simp only [Act.put, List.setIfInBounds_toArray, List.set_cons_zero, List.set_cons_succ, i64_w, i32_w]
    rfl
  refine pure_ (i := 5) (N := some 66) (v := ?_) (a' := ?_) #[true, true, true, true, true, true, false, false, false, false, false, false, false, false, false, false] rfl rfl (by kernel_rfl) (fun _ _ _ h => h) (Or.inl ⟨by rfl, ?_⟩) ?_ ?_
  rotate_left
  · intro w'
    go_simp
    with_reducible rfl
  rotate_left
  · simp only [Act.put, List.setIfInBounds_toArray, List.set_cons_zero, List.set_cons_succ, i64_w, i32_w]
    rfl
  refine pure_ (i := 7) (N := some 68) (v := ?_) (a' := ?_) #[true, true, true, true, true, true, false, true, false, false, false, false, false, false, false, false] rfl rfl (by kernel_rfl) (fun _ _ _ h => h) (Or.inl ⟨by rfl, ?_⟩) ?_ ?_
  rotate_left
  · intro w'
    go_simp
    with_reducible rfl
  rotate_left
  · simp only [Act.put, List.setIfInBounds_toArray, List.set_cons_zero, List.set_cons_succ, i64_w, i32_w]
    rfl
  refine pure_ (i := 12) (N := some 73) (v := ?_) (a' := ?_) #[true, true, true, true, true, true, false, true, false, false, false, false, true, false, false, false] rfl rfl (by kernel_rfl) (fun _ _ _ h => h) (Or.inl ⟨by rfl, ?_⟩) ?_ ?_
  rotate_left
  · intro w'
    go_simp
    with_reducible rfl
  rotate_left
  · simp only [Act.put, List.setIfInBounds_toArray, List.set_cons_zero, List.set_cons_succ, i64_w, i32_w]
    rfl
  refine take_ (i := 8) (N := some 69) (v := ?_) (a' := ?_) #[true, true, true, true, true, true, false, true, true, false, false, false, true, false, false, false] rfl rfl (by kernel_rfl) (fun _ _ _ h => h) (Or.inl ⟨by rfl, ?_⟩) hHeld ?_ ?_
  rotate_left
  · rintro w' ⟨s0, s1, s2⟩
    go_simp
    with_reducible rfl
  rotate_left
  · simp only [Act.put, List.setIfInBounds_toArray, List.set_cons_zero, List.set_cons_succ, i64_w, i32_w]
    rfl
  refine take_ (i := 13) (N := some 74) (v := ?_) (a' := ?_) #[true, true, true, true, true, true, false, true, true, false, false, false, true, true, false, false] rfl rfl (by kernel_rfl) (fun _ _ _ h => h) (Or.inl ⟨by rfl, ?_⟩) hHeld ?_ ?_
  rotate_left
  · rintro w' ⟨s0, s1, s2⟩
    go_simp
    with_reducible rfl
  rotate_left
  · simp only [Act.put, List.setIfInBounds_toArray, List.set_cons_zero, List.set_cons_succ, i64_w, i32_w]
    rfl
  refine one_ (i := 6) (N := some 67) #[true, true, true, true, true, true, true, true, true, false, false, false, true, true, false, false] rfl rfl (by kernel_rfl) (by decide) (fun K hK => ?_)
  refine goes_ Tryd.func34 (by kernel_rfl) rfl #[] (by rfl) rfl rfl (by simp only [List.map_toArray, List.map_cons, List.map_nil]) ?_
  with_reducible refine (services_q _).mono ?_
  rintro e w3 ⟨rfl, hb3⟩
  refine ⟨_, rfl, ?_⟩
  refine hK.out _ _ ⟨pw_cell_below hb3 (hHeld.1), pw_cell_below hb3 (hHeld.2.1), below_then (hHeld.2.2) (hHeld.2.2).size hb3⟩ (fun hHeld => ?_)
  clear hK K
  refine norm_ (a' := ?_) ?_ ?_
  rotate_left
  · show Act.put _ (some 67) _ = _
    simp only [Act.put, List.setIfInBounds_toArray, List.set_cons_zero, List.set_cons_succ, i64_w, i32_w]
    rfl
  refine take_ (i := 9) (N := some 70) (v := ?_) (a' := ?_) #[true, true, true, true, true, true, true, true, true, true, false, false, true, true, false, false] rfl rfl (by kernel_rfl) (fun _ _ _ h => h) (Or.inl ⟨by rfl, ?_⟩) hHeld ?_ ?_
  rotate_left
  · rintro w' ⟨s0, s1, s2⟩
    go_simp
    with_reducible rfl
  rotate_left
  · simp only [Act.put, List.setIfInBounds_toArray, List.set_cons_zero, List.set_cons_succ, i64_w, i32_w]
    rfl
  refine pure_ (i := 10) (N := some 71) (v := ?_) (a' := ?_) #[true, true, true, true, true, true, true, true, true, true, true, false, true, true, false, false] rfl rfl (by kernel_rfl) (fun _ _ _ h => h) (Or.inl ⟨by rfl, ?_⟩) ?_ ?_
  rotate_left
  · intro w'
    go_simp
    with_reducible rfl
  rotate_left
  · simp only [Act.put, List.setIfInBounds_toArray, List.set_cons_zero, List.set_cons_succ, i64_w, i32_w]
    rfl
  refine pure_ (i := 11) (N := some 72) (v := ?_) (a' := ?_) #[true, true, true, true, true, true, true, true, true, true, true, true, true, true, false, false] rfl rfl (by kernel_rfl) (fun _ _ _ h => h) (Or.inl ⟨by rfl, ?_⟩) ?_ ?_
  rotate_left
  · intro w'
    go_simp
    with_reducible rfl
  rotate_left
  · simp only [Act.put, List.setIfInBounds_toArray, List.set_cons_zero, List.set_cons_succ, i64_w, i32_w]
    rfl
  refine pure_ (i := 14) (N := some 75) (v := ?_) (a' := ?_) #[true, true, true, true, true, true, true, true, true, true, true, true, true, true, true, false] rfl rfl (by kernel_rfl) (fun _ _ _ h => h) (Or.inl ⟨by rfl, ?_⟩) ?_ ?_
  rotate_left
  · intro w'
    go_simp
    with_reducible rfl
  rotate_left
  · simp only [Act.put, List.setIfInBounds_toArray, List.set_cons_zero, List.set_cons_succ, i64_w, i32_w]
    rfl
  refine pure_ (i := 15) (N := some 2) (v := ?_) (a' := ?_) #[true, true, true, true, true, true, true, true, true, true, true, true, true, true, true, true] rfl rfl (by kernel_rfl) (fun _ _ _ h => h) (Or.inl ⟨by rfl, ?_⟩) ?_ ?_
  rotate_left
  · intro w'
    go_simp
    with_reducible rfl
  rotate_left
  · simp only [Act.put, List.setIfInBounds_toArray, List.set_cons_zero, List.set_cons_succ, i64_w, i32_w]
    rfl
  refine done_ (by kernel_rfl) ?_
  go_wp2
  go_ret
  refine ⟨?_, hHeld.2.2⟩
  rw [HR.out, HSH.out, HSG.out, HST.out]
  exact ret_str (by apply ByteArray.ext; simp [ByteArray.data_append])
theorem spelt_q (c : Call7) (hf : c.Fits) (w : World) (ht : Tens w) :
    Calls Tryd.prog 23 #[.agg c.cells] w fun e w' => e = .returned (.string ⟨(speltL c).toArray⟩) ∧ Below w.heap.size w w' := by
  by_cases h6 : c.kind = 6
  · by_cases hs : 0 ≤ c.svc ∧ c.svc < 4
    · by_cases s0 : c.svc = 0
      · exact spelt_send0 c hf w ht h6 s0
      · by_cases s1 : c.svc = 1
        · exact spelt_send1 c hf w ht h6 s1
        · by_cases s2 : c.svc = 2
          · exact spelt_send2 c hf w ht h6 s2
          · exact spelt_send3 c hf w ht h6 (by omega)
    · exact spelt_send_no c hf w ht h6 hs
  · exact spelt_simple c hf w ht h6
end Go.Proofs.YtljgmbpfeajmhaaDoor
