/- The walk of the law AuditTells. -/
import Derived.Test.YtoeioacgpildpaaDoorFixed
set_option linter.unusedVariables false
set_option linter.unusedSimpArgs false
namespace Go.Proofs.YtoeioacgpildpaaDoor
open Go.Proofs Go.Shelf Go.RowKit Go.Sort Go.Proofs.YtoeioacgpildpaaDoorW.PrintWords Go.Proofs.YtoeioacgpildpaaDoorW.PrintLast Go.Proofs.YtoeioacgpildpaaDoorW.PrintMore
open Go.Proofs.YtoeioacgpildpaaDoor.P (S27 k27 z27 rd_T27 at_T27 info27 k27_mkM k27_openM)

set_option maxHeartbeats 6400000 in
set_option maxRecDepth 100000 in
theorem tells_any (A : Option Addr) (n c : Nat) (l : List S27) (x0 x1 : Int) (x2 : ByteArray) (x3 : Int) (w : World) (hC : Kd.C k27 w A n l) (hnc : n ≤ c) (hl : n < 3518437208883) (h0 : 0 ≤ x1) (h1 : x1 < 4294967296) (htab : Tens w) :
    Calls Tryd.prog 3 #[.slice A n c, .agg #[.int .u64 x0, .int .u32 x1, .string x2, .int .i64 x3]] w fun e w' => e = .returned (.bool true) ∧ Below w.heap.size w w' := by
  obtain rfl := Kd.C_len hC
  have HC := Aside0.mk hC
  have HNC := Aside0.mk hnc
  have HL := Aside0.mk hl
  have H0 := Aside0.mk h0
  have H1 := Aside0.mk h1
  have HT := Aside0.mk htab
  have D27 := Aside0.mk (blk_new w (.cells #[.int .u64 x0, .int .u32 x1, .string x2, .int .i64 x3] 27))
  have DL := Aside0.mk (below_alloc (Below.refl w.heap.size w) (.cells #[.int .u64 x0, .int .u32 x1, .string x2, .int .i64 x3] 27))
  clear hC hnc hl h0 h1 htab
  go_enter Tryd.func3, Tryd.ntmps3
  go_wp2
  generalize w.alloc (.cells #[.int .u64 x0, .int .u32 x1, .string x2, .int .i64 x3] 27) = w2 at *
  have E27 : w2.drew.heap[w.heap.size]? = some (.cells #[.int .u64 x0, .int .u32 x1, .string x2, .int .i64 x3] 27 (0, 0)) := D27.out
  have d1 : w2.drew.cell? ⟨w.heap.size, 1, none⟩ = some (.int .u32 x1) := (blk_cell E27 1).trans rfl
  have d2 : w2.drew.cell? ⟨w.heap.size, 2, none⟩ = some (.string x2) := (blk_cell E27 2).trans rfl
  have d3 : w2.drew.cell? ⟨w.heap.size, 3, none⟩ = some (.int .i64 x3) := (blk_cell E27 3).trans rfl
  refine start_ (n := 18) (S := fun w' => w'.cell? ⟨w.heap.size, 1, none⟩ = some (.int .u32 x1) ∧ w'.cell? ⟨w.heap.size, 2, none⟩ = some (.string x2) ∧ w'.cell? ⟨w.heap.size, 3, none⟩ = some (.int .i64 x3) ∧ Below w.heap.size w w') (ds := []) #[false, false, false, false, false, false, false, false, false, false, false, false, false, false, false, false, false, false] (by kernel_rfl) rfl rfl ⟨d1, d2, d3, below_drew DL.out⟩ (fun hHeld => ?_)
  refine pure_ (i := 0) (N := some 7) (v := ?_) (a' := ?_) #[true, false, false, false, false, false, false, false, false, false, false, false, false, false, false, false, false, false] rfl rfl (by kernel_rfl) (fun _ _ _ h => h) (Or.inl ⟨by rfl, ?_⟩) ?_ ?_
  rotate_left
  · intro w'
    go_simp
    with_reducible rfl
  rotate_left
  · simp only [Act.put, List.setIfInBounds_toArray, List.set_cons_zero, List.set_cons_succ, i64_w, i32_w]
    rfl
  refine pure_ (i := 1) (N := some 8) (v := ?_) (a' := ?_) #[true, true, false, false, false, false, false, false, false, false, false, false, false, false, false, false, false, false] rfl rfl (by kernel_rfl) (fun _ _ _ h => h) (Or.inl ⟨by rfl, ?_⟩) ?_ ?_
  rotate_left
  · intro w'
    go_simp
    with_reducible rfl
  rotate_left
  · simp only [Act.put, List.setIfInBounds_toArray, List.set_cons_zero, List.set_cons_succ, i64_w, i32_w]
    rfl
  refine pure_ (i := 3) (N := some 10) (v := ?_) (a' := ?_) #[true, true, false, true, false, false, false, false, false, false, false, false, false, false, false, false, false, false] rfl rfl (by kernel_rfl) (fun _ _ _ h => h) (Or.inl ⟨by rfl, ?_⟩) ?_ ?_
  rotate_left
  · intro w'
    go_simp
    with_reducible rfl
  rotate_left
  · simp only [Act.put, List.setIfInBounds_toArray, List.set_cons_zero, List.set_cons_succ, i64_w, i32_w]
    rfl
  refine pure_ (i := 5) (N := some 12) (v := ?_) (a' := ?_) #[true, true, false, true, false, true, false, false, false, false, false, false, false, false, false, false, false, false] rfl rfl (by kernel_rfl) (fun _ _ _ h => h) (Or.inl ⟨by rfl, ?_⟩) ?_ ?_
  rotate_left
  · intro w'
    go_simp
    with_reducible rfl
  rotate_left
  · simp only [Act.put, List.setIfInBounds_toArray, List.set_cons_zero, List.set_cons_succ, i64_w, i32_w]
    rfl
  refine pure_ (i := 8) (N := some 15) (v := ?_) (a' := ?_) #[true, true, false, true, false, true, false, false, true, false, false, false, false, false, false, false, false, false] rfl rfl (by kernel_rfl) (fun _ _ _ h => h) (Or.inl ⟨by rfl, ?_⟩) ?_ ?_
  rotate_left
  · intro w'
    go_simp
    with_reducible rfl
  rotate_left
  · simp only [Act.put, List.setIfInBounds_toArray, List.set_cons_zero, List.set_cons_succ, i64_w, i32_w]
    rfl
  refine pure_ (i := 9) (N := some 16) (v := ?_) (a' := ?_) #[true, true, false, true, false, true, false, false, true, true, false, false, false, false, false, false, false, false] rfl rfl (by kernel_rfl) (fun _ _ _ h => h) (Or.inl ⟨by rfl, ?_⟩) ?_ ?_
  rotate_left
  · intro w'
    go_simp
    with_reducible rfl
  rotate_left
  · simp only [Act.put, List.setIfInBounds_toArray, List.set_cons_zero, List.set_cons_succ, i64_w, i32_w]
    rfl
  refine pure_ (i := 11) (N := some 18) (v := ?_) (a' := ?_) #[true, true, false, true, false, true, false, false, true, true, false, true, false, false, false, false, false, false] rfl rfl (by kernel_rfl) (fun _ _ _ h => h) (Or.inl ⟨by rfl, ?_⟩) ?_ ?_
  rotate_left
  · intro w'
    go_simp
    with_reducible rfl
  rotate_left
  · simp only [Act.put, List.setIfInBounds_toArray, List.set_cons_zero, List.set_cons_succ, i64_w, i32_w]
    rfl
  refine pure_ (i := 13) (N := some 20) (v := ?_) (a' := ?_) #[true, true, false, true, false, true, false, false, true, true, false, true, false, true, false, false, false, false] rfl rfl (by kernel_rfl) (fun _ _ _ h => h) (Or.inl ⟨by rfl, ?_⟩) ?_ ?_
  rotate_left
  · intro w'
    go_simp
    with_reducible rfl
  rotate_left
  · simp only [Act.put, List.setIfInBounds_toArray, List.set_cons_zero, List.set_cons_succ, i64_w, i32_w]
    rfl
  refine take_ (i := 2) (N := some 9) (v := ?_) (a' := ?_) #[true, true, true, true, false, true, false, false, true, true, false, true, false, true, false, false, false, false] rfl rfl (by kernel_rfl) (fun _ _ _ h => h) (Or.inl ⟨by rfl, ?_⟩) hHeld ?_ ?_
  rotate_left
  · rintro w' ⟨s0, s1, s2, s3⟩
    go_simp
    with_reducible rfl
  rotate_left
  · simp only [Act.put, List.setIfInBounds_toArray, List.set_cons_zero, List.set_cons_succ, i64_w, i32_w]
    rfl
  refine take_ (i := 4) (N := some 11) (v := ?_) (a' := ?_) #[true, true, true, true, true, true, false, false, true, true, false, true, false, true, false, false, false, false] rfl rfl (by kernel_rfl) (fun _ _ _ h => h) (Or.inl ⟨by rfl, ?_⟩) hHeld ?_ ?_
  rotate_left
  · rintro w' ⟨s0, s1, s2, s3⟩
    go_simp
    with_reducible rfl
  rotate_left
  · simp only [Act.put, List.setIfInBounds_toArray, List.set_cons_zero, List.set_cons_succ, i64_w, i32_w]
    rfl
  refine take_ (i := 6) (N := some 13) (v := ?_) (a' := ?_) #[true, true, true, true, true, true, true, false, true, true, false, true, false, true, false, false, false, false] rfl rfl (by kernel_rfl) (fun _ _ _ h => h) (Or.inl ⟨by rfl, ?_⟩) hHeld ?_ ?_
  rotate_left
  · rintro w' ⟨s0, s1, s2, s3⟩
    go_simp
    with_reducible rfl
  rotate_left
  · simp only [Act.put, List.setIfInBounds_toArray, List.set_cons_zero, List.set_cons_succ, i64_w, i32_w]
    rfl
  refine take_ (i := 10) (N := some 17) (v := ?_) (a' := ?_) #[true, true, true, true, true, true, true, false, true, true, true, true, false, true, false, false, false, false] rfl rfl (by kernel_rfl) (fun _ _ _ h => h) (Or.inl ⟨by rfl, ?_⟩) hHeld ?_ ?_
  rotate_left
  · rintro w' ⟨s0, s1, s2, s3⟩
    go_simp
    with_reducible rfl
  rotate_left
  · simp only [Act.put, List.setIfInBounds_toArray, List.set_cons_zero, List.set_cons_succ, i64_w, i32_w]
    rfl
  refine take_ (i := 12) (N := some 19) (v := ?_) (a' := ?_) #[true, true, true, true, true, true, true, false, true, true, true, true, true, true, false, false, false, false] rfl rfl (by kernel_rfl) (fun _ _ _ h => h) (Or.inl ⟨by rfl, ?_⟩) hHeld ?_ ?_
  rotate_left
  · rintro w' ⟨s0, s1, s2, s3⟩
    go_simp
    with_reducible rfl
  rotate_left
  · simp only [Act.put, List.setIfInBounds_toArray, List.set_cons_zero, List.set_cons_succ, i64_w, i32_w]
    rfl
  refine take_ (i := 14) (N := some 21) (v := ?_) (a' := ?_) #[true, true, true, true, true, true, true, false, true, true, true, true, true, true, true, false, false, false] rfl rfl (by kernel_rfl) (fun _ _ _ h => h) (Or.inl ⟨by rfl, ?_⟩) hHeld ?_ ?_
  rotate_left
  · rintro w' ⟨s0, s1, s2, s3⟩
    go_simp
    with_reducible rfl
  rotate_left
  · simp only [Act.put, List.setIfInBounds_toArray, List.set_cons_zero, List.set_cons_succ, i64_w, i32_w]
    rfl
  refine one_ (i := 7) (N := some 14) #[true, true, true, true, true, true, true, true, true, true, true, true, true, true, true, false, false, false] rfl rfl (by kernel_rfl) (by decide) (fun K hK => ?_)
  refine goes_ Tryd.func8 (by kernel_rfl) rfl #[.slice A l.length c, .int .u32 x1, .string x2, .int .i64 x3] (by rfl) rfl rfl (by simp only [List.map_toArray, List.map_cons, List.map_nil]; rfl) ?_
  with_reducible refine (add_q A l.length c l x1 x2 x3 _ (Kd.C_below HC.out (hHeld.2.2.2)) HL.out H0.out H1.out).mono ?_
  rintro e w3 ⟨v1, rfl, hr3, hb3⟩
  refine ⟨_, rfl, ?_⟩
  have R0 := Aside0.mk hr3
  refine hK.out _ _ ⟨pw_cell_below hb3 (hHeld.1), pw_cell_below hb3 (hHeld.2.1), pw_cell_below hb3 (hHeld.2.2.1), below_then (hHeld.2.2.2) (hHeld.2.2.2).size hb3⟩ (fun hHeld => ?_)
  clear hK K
  refine norm_ (a' := ?_) ?_ ?_
  rotate_left
  · show Act.put _ (some 14) _ = _
    simp only [Act.put, List.setIfInBounds_toArray, List.set_cons_zero, List.set_cons_succ, i64_w, i32_w]
    rfl
  refine one_ (i := 15) (N := some 22) #[true, true, true, true, true, true, true, true, true, true, true, true, true, true, true, true, false, false] rfl rfl (by kernel_rfl) (by decide) (fun K hK => ?_)
  refine goes_ Tryd.func9 (by kernel_rfl) rfl #[.slice A l.length c, .int .u32 x1, .string x2, .int .i64 x3] (by rfl) rfl rfl (by simp only [List.map_toArray, List.map_cons, List.map_nil]; rfl) ?_
  with_reducible refine (radd_q x1 x2 x3 (Kd.C_below HC.out (hHeld.2.2.2)) HNC.out HL.out).mono ?_
  rintro e w4 ⟨v2, rfl, hr4, hb4⟩
  refine ⟨_, rfl, ?_⟩
  have R1 := Aside0.mk (Kd.R_below R0.out hb4)
  have R2 := Aside0.mk hr4
  have L4 := Aside0.mk (below_then (hHeld.2.2.2) (hHeld.2.2.2).size hb4)
  clear hr4 R0
  refine hK.out _ _ ⟨pw_cell_below hb4 (hHeld.1), pw_cell_below hb4 (hHeld.2.1), pw_cell_below hb4 (hHeld.2.2.1), below_then (hHeld.2.2.2) (hHeld.2.2.2).size hb4⟩ (fun hHeld => ?_)
  clear hK K
  refine norm_ (a' := ?_) ?_ ?_
  rotate_left
  · show Act.put _ (some 22) _ = _
    simp only [Act.put, List.setIfInBounds_toArray, List.set_cons_zero, List.set_cons_succ, i64_w, i32_w]
    rfl
  refine pure_ (i := 16) (N := some 5) (v := ?_) (a' := ?_) #[true, true, true, true, true, true, true, true, true, true, true, true, true, true, true, true, true, false] rfl rfl (by kernel_rfl) (fun _ _ _ h => h) (Or.inl ⟨by rfl, ?_⟩) ?_ ?_
  rotate_left
  · intro w'
    go_simp
    with_reducible rfl
  rotate_left
  · simp only [Act.put, List.setIfInBounds_toArray, List.set_cons_zero, List.set_cons_succ, i64_w, i32_w]
    rfl
  refine pure_ (i := 17) (N := some 6) (v := ?_) (a' := ?_) #[true, true, true, true, true, true, true, true, true, true, true, true, true, true, true, true, true, true] rfl rfl (by kernel_rfl) (fun _ _ _ h => h) (Or.inl ⟨by rfl, ?_⟩) ?_ ?_
  rotate_left
  · intro w'
    go_simp
    with_reducible rfl
  rotate_left
  · simp only [Act.put, List.setIfInBounds_toArray, List.set_cons_zero, List.set_cons_succ, i64_w, i32_w]
    rfl
  refine done_ (by kernel_rfl) ?_
  obtain ⟨A1, c1, rfl⟩ := Kd.R_slice R1.out
  obtain ⟨A2, c2, rfl⟩ := Kd.R_slice R2.out
  obtain ⟨_, hc1, hC1⟩ := Kd.R_reads' R1.out
  obtain ⟨_, hc2, hC2⟩ := Kd.R_reads' R2.out
  have C1 := Aside0.mk hC1
  have C2 := Aside0.mk hC2
  have K1 := Aside0.mk hc1
  have K2 := Aside0.mk hc2
  clear hc1 hc2 hC1 hC2 R1 R2 D27 E27 DL d1 d2 d3
  have HLA := Aside0.mk (show (addL l x1 x2 x3).length < 2305843009213693952 from by
    unfold addL
    rw [List.length_append, List.length_singleton]
    have := HL.out
    omega)
  obtain ⟨la, hla⟩ : ∃ la, la = addL l x1 x2 x3 := ⟨_, rfl⟩
  rw [← hla] at C1 C2 K1 K2 HLA ⊢
  clear hla
  go_wp2_with fail
  refine (fixed_q w4 (HT.out.below L4.out)).mono ?_
  rintro e w5 ⟨rfl, hb⟩
  have C1' := Aside0.mk (Kd.C_below C1.out hb)
  have C2' := Aside0.mk (Kd.C_below C2.out hb)
  have L5 := Aside0.mk (below_then L4.out L4.out.size hb)
  clear hb C1 C2 L4
  go_wp2_with fail
  refine (same_q C1'.out K1.out C2'.out K2.out HLA.out).mono ?_
  rintro e w6 ⟨rfl, hb⟩
  have L6 := Aside0.mk (below_then L5.out L5.out.size hb)
  clear hb C1' C2' L5
  have HL2 := Aside0.mk (show l.length < 2305843009213693952 from by have := HL.out; omega)
  go_wp2_with fail
  refine (check_q (Kd.C_below HC.out L6.out) HNC.out HL2.out).mono ?_
  rintro e w7 ⟨rfl, hb⟩
  have L7 := Aside0.mk (below_then L6.out L6.out.size hb)
  clear hb L6
  go_wp2_with fail
  refine (rcheck_q (Kd.C_below HC.out L7.out) HNC.out HL2.out).mono ?_
  rintro e w8 ⟨rfl, hb⟩
  have L8 := Aside0.mk (below_then L7.out L7.out.size hb)
  clear hb L7
  go_wp2_with fail
  refine (failed_q (Kd.C_below HC.out L8.out) HNC.out HL2.out).mono ?_
  rintro e w9 ⟨rfl, hb⟩
  have L9 := Aside0.mk (below_then L8.out L8.out.size hb)
  clear hb L8
  go_wp2_with fail
  refine (rfailed_q (Kd.C_below HC.out L9.out) HNC.out HL2.out).mono ?_
  rintro e w10 ⟨rfl, hb⟩
  have L10 := Aside0.mk (below_then L9.out L9.out.size hb)
  clear hb L9
  go_wp2
  first | go_ret | go_ret2
  exact ⟨rfl, L10.out⟩
end Go.Proofs.YtoeioacgpildpaaDoor
