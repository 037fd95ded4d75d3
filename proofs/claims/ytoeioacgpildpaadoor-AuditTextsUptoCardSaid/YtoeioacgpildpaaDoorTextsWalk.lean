/- The walk of the law AuditTexts. -/
import Derived.Test.YtoeioacgpildpaaDoorRead
import Derived.Test.YtoeioacgpildpaaDoorRRead
import Derived.Test.YtoeioacgpildpaaDoorFixed
set_option linter.unusedVariables false
set_option linter.unusedSimpArgs false
namespace Go.Proofs.YtoeioacgpildpaaDoor
open Go.Proofs Go.Shelf Go.RowKit Go.Sort Go.Proofs.YtoeioacgpildpaaDoorW.PrintWords Go.Proofs.YtoeioacgpildpaaDoorW.PrintLast Go.Proofs.YtoeioacgpildpaaDoorW.PrintMore
open Go.Proofs.YtoeioacgpildpaaDoor.P (S27 k27 z27)
set_option maxRecDepth 100000 in
set_option maxHeartbeats 8000000 in
theorem texts_x (L : Option Addr) (n c : Nat) (l : List S27) (x0 x1 : Int) (x2 : ByteArray) (x3 : Int) (s ln tx : ByteArray) (a0 a1 : Int) (a2 : ByteArray) (a3 : Int) (ok yes : Bool) (ys : List S27) (hys : ys.length < 2305843009213693952) (w : World) (hC : Kd.C k27 w L n l) (ht : Tens w) (he : Errs w)
    (PX : ∀ w1 : World, Tens w1 → Errs w1 → Calls Tryd.prog 17 #[.string s] w1 fun e w' => e = .returned (.tuple #[.agg #[.int .u64 a0, .int .u32 a1, .string a2, .int .i64 a3], .bool ok]) ∧ Below w1.heap.size w1 w')
    (RPX : ∀ w1 : World, Calls Tryd.prog 18 #[.string s] w1 fun e w' => e = .returned (.tuple #[.agg #[.int .u64 a0, .int .u32 a1, .string a2, .int .i64 a3], .bool ok]) ∧ Below w1.heap.size w1 w')
    (RX : ∀ w1 : World, Tens w1 → Errs w1 → Calls Tryd.prog 19 #[.string s] w1 fun e w' => ∃ v, e = .returned (.tuple #[v, .bool yes]) ∧ Kd.R k27 27 w' w1.heap.size (fun _ => True) v ys ∧ Below w1.heap.size w1 w')
    (RRX : ∀ w1 : World, Calls Tryd.prog 20 #[.string s] w1 fun e w' => ∃ v, e = .returned (.tuple #[v, .bool yes]) ∧ Kd.R k27 27 w' w1.heap.size (fun _ => True) v ys ∧ Below w1.heap.size w1 w')
    (LX : ∀ w1 : World, Tens w1 → Calls Tryd.prog 21 #[.agg #[.int .u64 x0, .int .u32 x1, .string x2, .int .i64 x3]] w1 fun e w' => e = .returned (.string ln) ∧ Below w1.heap.size w1 w')
    (RLX : ∀ w1 : World, Calls Tryd.prog 22 #[.agg #[.int .u64 x0, .int .u32 x1, .string x2, .int .i64 x3]] w1 fun e w' => e = .returned (.string ln) ∧ Below w1.heap.size w1 w')
    (TX : ∀ w1 : World, Tens w1 → Kd.C k27 w1 L n l → Calls Tryd.prog 16 #[.slice L n c] w1 fun e w' => e = .returned (.string tx) ∧ Below w1.heap.size w1 w')
    (RTX : ∀ w1 : World, Kd.C k27 w1 L n l → Calls Tryd.prog 23 #[.slice L n c] w1 fun e w' => e = .returned (.string tx) ∧ Below w1.heap.size w1 w') :
    Calls Tryd.prog 6 #[.slice L n c, .agg #[.int .u64 x0, .int .u32 x1, .string x2, .int .i64 x3], .string s] w fun e w' => e = .returned (.bool true) ∧ Below w.heap.size w w' := by
  have PX := Aside0.mk PX
  have RPX := Aside0.mk RPX
  have RX := Aside0.mk RX
  have RRX := Aside0.mk RRX
  have LX := Aside0.mk LX
  have RLX := Aside0.mk RLX
  have TX := Aside0.mk TX
  have RTX := Aside0.mk RTX
  have HC := Aside0.mk hC
  have HT := Aside0.mk ht
  have HE := Aside0.mk he
  have HYS := Aside0.mk hys
  have D0 := Aside0.mk (below_alloc (Below.refl w.heap.size w) (.cells #[.int .u64 x0, .int .u32 x1, .string x2, .int .i64 x3] 27))
  have BX := Aside0.mk (blk_new w (.cells #[.int .u64 x0, .int .u32 x1, .string x2, .int .i64 x3] 27))
  clear hC ht he hys
  go_enter Tryd.func6, Tryd.ntmps6
  go_wp2_with fail
  obtain ⟨bx, hbx⟩ : ∃ b, b = w.heap.size := ⟨_, rfl⟩
  rw [← hbx] at BX ⊢
  clear hbx
  generalize w.alloc (.cells #[.int .u64 x0, .int .u32 x1, .string x2, .int .i64 x3] 27) = v0 at BX D0 ⊢
  refine (PX.out _ (HT.out.below D0.out) (HE.out.below D0.out)).mono ?_
  rintro e w1 ⟨rfl, hb⟩
  replace BX := Aside0.mk ((hb.block _ (blk_lt BX.out)).trans BX.out)
  have D1 := Aside0.mk (below_then D0.out D0.out.size hb)
  clear hb D0
  replace BX := Aside0.mk (blk_alloc BX.out (.cells #[.int .u64 a0, .int .u32 a1, .string a2, .int .i64 a3] 27))
  have BA := Aside0.mk (blk_new w1 (.cells #[.int .u64 a0, .int .u32 a1, .string a2, .int .i64 a3] 27))
  replace D1 := Aside0.mk (below_alloc D1.out (.cells #[.int .u64 a0, .int .u32 a1, .string a2, .int .i64 a3] 27))
  go_wp2_with fail
  obtain ⟨ba, hba⟩ : ∃ b, b = w1.heap.size := ⟨_, rfl⟩
  rw [← hba] at BA ⊢
  clear hba
  generalize w1.alloc (.cells #[.int .u64 a0, .int .u32 a1, .string a2, .int .i64 a3] 27) = v1 at BX BA D1 ⊢
  refine (RPX.out _).mono ?_
  rintro e w2 ⟨rfl, hb⟩
  replace BX := Aside0.mk ((hb.block _ (blk_lt BX.out)).trans BX.out)
  replace BA := Aside0.mk ((hb.block _ (blk_lt BA.out)).trans BA.out)
  have D2 := Aside0.mk (below_then D1.out D1.out.size hb)
  clear hb D1
  replace BX := Aside0.mk (blk_alloc BX.out (.cells #[.int .u64 a0, .int .u32 a1, .string a2, .int .i64 a3] 27))
  replace BA := Aside0.mk (blk_alloc BA.out (.cells #[.int .u64 a0, .int .u32 a1, .string a2, .int .i64 a3] 27))
  have BB := Aside0.mk (blk_new w2 (.cells #[.int .u64 a0, .int .u32 a1, .string a2, .int .i64 a3] 27))
  replace D2 := Aside0.mk (below_alloc D2.out (.cells #[.int .u64 a0, .int .u32 a1, .string a2, .int .i64 a3] 27))
  go_wp2_with fail
  obtain ⟨bb, hbb⟩ : ∃ b, b = w2.heap.size := ⟨_, rfl⟩
  rw [← hbb] at BB ⊢
  clear hbb
  generalize w2.alloc (.cells #[.int .u64 a0, .int .u32 a1, .string a2, .int .i64 a3] 27) = v2 at BX BA BB D2 ⊢
  refine (RX.out _ (HT.out.below D2.out) (HE.out.below D2.out)).mono ?_
  rintro e w3 ⟨v1, rfl, hr, hb⟩
  replace BX := Aside0.mk ((hb.block _ (blk_lt BX.out)).trans BX.out)
  replace BA := Aside0.mk ((hb.block _ (blk_lt BA.out)).trans BA.out)
  replace BB := Aside0.mk ((hb.block _ (blk_lt BB.out)).trans BB.out)
  have D3 := Aside0.mk (below_then D2.out D2.out.size hb)
  clear hb D2
  obtain ⟨A1, c1, rfl⟩ := Kd.R_slice hr
  obtain ⟨_, hc1, hC1⟩ := Kd.R_reads' hr
  have C1 := Aside0.mk hC1
  have K1 := Aside0.mk hc1
  clear hr hc1 hC1
  go_wp2_with fail
  refine (RRX.out _).mono ?_
  rintro e w4 ⟨v2, rfl, hr, hb⟩
  replace C1 := Aside0.mk (Kd.C_below C1.out hb)
  replace BX := Aside0.mk ((hb.block _ (blk_lt BX.out)).trans BX.out)
  replace BA := Aside0.mk ((hb.block _ (blk_lt BA.out)).trans BA.out)
  replace BB := Aside0.mk ((hb.block _ (blk_lt BB.out)).trans BB.out)
  have D4 := Aside0.mk (below_then D3.out D3.out.size hb)
  clear hb D3
  obtain ⟨A2, c2, rfl⟩ := Kd.R_slice hr
  obtain ⟨_, hc2, hC2⟩ := Kd.R_reads' hr
  have C2 := Aside0.mk hC2
  have K2 := Aside0.mk hc2
  clear hr hc2 hC2 PX RPX RX RRX
  obtain ⟨m, hm⟩ : ∃ m, m = ys.length := ⟨_, rfl⟩
  have HM := Aside0.mk hm
  rw [← hm]
  rw [← hm] at C1 C2 K1 K2
  clear hm
  go_wp2_with fail
  have pbx0 : w4.drew.cell? ⟨bx, 0, none⟩ = some (.int .u64 x0) := (blk_cell BX.out 0).trans rfl
  have pbx1 : w4.drew.cell? ⟨bx, 1, none⟩ = some (.int .u32 x1) := (blk_cell BX.out 1).trans rfl
  have pbx2 : w4.drew.cell? ⟨bx, 2, none⟩ = some (.string x2) := (blk_cell BX.out 2).trans rfl
  have pbx3 : w4.drew.cell? ⟨bx, 3, none⟩ = some (.int .i64 x3) := (blk_cell BX.out 3).trans rfl
  have pba0 : w4.drew.cell? ⟨ba, 0, none⟩ = some (.int .u64 a0) := (blk_cell BA.out 0).trans rfl
  have pba1 : w4.drew.cell? ⟨ba, 1, none⟩ = some (.int .u32 a1) := (blk_cell BA.out 1).trans rfl
  have pba2 : w4.drew.cell? ⟨ba, 2, none⟩ = some (.string a2) := (blk_cell BA.out 2).trans rfl
  have pba3 : w4.drew.cell? ⟨ba, 3, none⟩ = some (.int .i64 a3) := (blk_cell BA.out 3).trans rfl
  have pbb0 : w4.drew.cell? ⟨bb, 0, none⟩ = some (.int .u64 a0) := (blk_cell BB.out 0).trans rfl
  have pbb1 : w4.drew.cell? ⟨bb, 1, none⟩ = some (.int .u32 a1) := (blk_cell BB.out 1).trans rfl
  have pbb2 : w4.drew.cell? ⟨bb, 2, none⟩ = some (.string a2) := (blk_cell BB.out 2).trans rfl
  have pbb3 : w4.drew.cell? ⟨bb, 3, none⟩ = some (.int .i64 a3) := (blk_cell BB.out 3).trans rfl
  have pc1 : Kd.C k27 w4.drew A1 m ys := Kd.C_drew C1.out
  have pc2 : Kd.C k27 w4.drew A2 m ys := Kd.C_drew C2.out
  have pd := below_drew D4.out
  clear BX BA BB C1 C2 D4
  refine start_ (n := 36) (S := fun w' => w'.cell? ⟨bx, 0, none⟩ = some (.int .u64 x0) ∧ w'.cell? ⟨bx, 1, none⟩ = some (.int .u32 x1) ∧ w'.cell? ⟨bx, 2, none⟩ = some (.string x2) ∧ w'.cell? ⟨bx, 3, none⟩ = some (.int .i64 x3) ∧ w'.cell? ⟨ba, 0, none⟩ = some (.int .u64 a0) ∧ w'.cell? ⟨ba, 1, none⟩ = some (.int .u32 a1) ∧ w'.cell? ⟨ba, 2, none⟩ = some (.string a2) ∧ w'.cell? ⟨ba, 3, none⟩ = some (.int .i64 a3) ∧ w'.cell? ⟨bb, 0, none⟩ = some (.int .u64 a0) ∧ w'.cell? ⟨bb, 1, none⟩ = some (.int .u32 a1) ∧ w'.cell? ⟨bb, 2, none⟩ = some (.string a2) ∧ w'.cell? ⟨bb, 3, none⟩ = some (.int .i64 a3) ∧ Kd.C k27 w' A1 m ys ∧ Kd.C k27 w' A2 m ys ∧ Below w.heap.size w w') (ds := []) #[false, false, false, false, false, false, false, false, false, false, false, false, false, false, false, false, false, false, false, false, false, false, false, false, false, false, false, false, false, false, false, false, false, false, false, false] (by kernel_rfl) rfl rfl ⟨pbx0, pbx1, pbx2, pbx3, pba0, pba1, pba2, pba3, pbb0, pbb1, pbb2, pbb3, pc1, pc2, pd⟩ (fun hHeld => ?_)
  refine one_ (i := 0) (N := some 35) #[true, false, false, false, false, false, false, false, false, false, false, false, false, false, false, false, false, false, false, false, false, false, false, false, false, false, false, false, false, false, false, false, false, false, false, false] rfl rfl (by kernel_rfl) (by decide) (fun K hK => ?_)
  refine goes_ Tryd.func10 (by kernel_rfl) rfl #[] (by rfl) rfl rfl (by simp only [List.map_toArray, List.map_cons, List.map_nil]) ?_
  with_reducible refine (fixed_q _ (HT.out.below (hHeld.2.2.2.2.2.2.2.2.2.2.2.2.2.2))).mono ?_
  rintro e y1 ⟨rfl, hb⟩
  refine ⟨_, rfl, ?_⟩
  refine hK.out _ _ ⟨pw_cell_below hb (hHeld.1), pw_cell_below hb (hHeld.2.1), pw_cell_below hb (hHeld.2.2.1), pw_cell_below hb (hHeld.2.2.2.1), pw_cell_below hb (hHeld.2.2.2.2.1), pw_cell_below hb (hHeld.2.2.2.2.2.1), pw_cell_below hb (hHeld.2.2.2.2.2.2.1), pw_cell_below hb (hHeld.2.2.2.2.2.2.2.1), pw_cell_below hb (hHeld.2.2.2.2.2.2.2.2.1), pw_cell_below hb (hHeld.2.2.2.2.2.2.2.2.2.1), pw_cell_below hb (hHeld.2.2.2.2.2.2.2.2.2.2.1), pw_cell_below hb (hHeld.2.2.2.2.2.2.2.2.2.2.2.1), Kd.C_below (hHeld.2.2.2.2.2.2.2.2.2.2.2.2.1) hb, Kd.C_below (hHeld.2.2.2.2.2.2.2.2.2.2.2.2.2.1) hb, below_then (hHeld.2.2.2.2.2.2.2.2.2.2.2.2.2.2) (hHeld.2.2.2.2.2.2.2.2.2.2.2.2.2.2).size hb⟩ (fun hHeld => ?_)
  clear hK K
  refine norm_ (a' := ?_) ?_ ?_
  rotate_left
  · show Act.put _ (some 35) _ = _
    simp only [Act.put, List.setIfInBounds_toArray, List.set_cons_zero, List.set_cons_succ, i64_w, i32_w]
    rfl
  refine pure_ (i := 1) (N := some 36) (v := ?_) (a' := ?_) #[true, true, false, false, false, false, false, false, false, false, false, false, false, false, false, false, false, false, false, false, false, false, false, false, false, false, false, false, false, false, false, false, false, false, false, false] rfl rfl (by kernel_rfl) (fun _ _ _ h => h) (Or.inl ⟨by rfl, ?_⟩) ?_ ?_
  rotate_left
  · intro w'
    go_simp
    with_reducible rfl
  rotate_left
  · simp only [Act.put, List.setIfInBounds_toArray, List.set_cons_zero, List.set_cons_succ, i64_w, i32_w]
    rfl
  refine take_ (i := 2) (N := some 37) (v := ?_) (a' := ?_) #[true, true, true, false, false, false, false, false, false, false, false, false, false, false, false, false, false, false, false, false, false, false, false, false, false, false, false, false, false, false, false, false, false, false, false, false] rfl rfl (by kernel_rfl) (fun _ _ _ h => h) (Or.inl ⟨by rfl, ?_⟩) hHeld ?_ ?_
  rotate_left
  · rintro w' ⟨s0, s1, s2, s3, s4, s5, s6, s7, s8, s9, s10, s11, s12, s13, s14⟩
    go_simp
    with_reducible rfl
  rotate_left
  · simp only [Act.put, List.setIfInBounds_toArray, List.set_cons_zero, List.set_cons_succ, i64_w, i32_w]
    rfl
  refine take_ (i := 4) (N := some 39) (v := ?_) (a' := ?_) #[true, true, true, false, true, false, false, false, false, false, false, false, false, false, false, false, false, false, false, false, false, false, false, false, false, false, false, false, false, false, false, false, false, false, false, false] rfl rfl (by kernel_rfl) (fun _ _ _ h => h) (Or.inl ⟨by rfl, ?_⟩) hHeld ?_ ?_
  rotate_left
  · rintro w' ⟨s0, s1, s2, s3, s4, s5, s6, s7, s8, s9, s10, s11, s12, s13, s14⟩
    go_simp
    with_reducible rfl
  rotate_left
  · simp only [Act.put, List.setIfInBounds_toArray, List.set_cons_zero, List.set_cons_succ, i64_w, i32_w]
    rfl
  refine one_ (i := 3) (N := some 38) #[true, true, true, true, true, false, false, false, false, false, false, false, false, false, false, false, false, false, false, false, false, false, false, false, false, false, false, false, false, false, false, false, false, false, false, false] rfl rfl (by kernel_rfl) (by decide) (fun K hK => ?_)
  refine goes_ Tryd.func21 (by kernel_rfl) rfl #[.agg #[.int .u64 x0, .int .u32 x1, .string x2, .int .i64 x3]] (by rfl) rfl rfl (by simp only [List.map_toArray, List.map_cons, List.map_nil]; rfl) ?_
  with_reducible refine (LX.out _ (HT.out.below (hHeld.2.2.2.2.2.2.2.2.2.2.2.2.2.2))).mono ?_
  rintro e y1 ⟨rfl, hb⟩
  refine ⟨_, rfl, ?_⟩
  refine hK.out _ _ ⟨pw_cell_below hb (hHeld.1), pw_cell_below hb (hHeld.2.1), pw_cell_below hb (hHeld.2.2.1), pw_cell_below hb (hHeld.2.2.2.1), pw_cell_below hb (hHeld.2.2.2.2.1), pw_cell_below hb (hHeld.2.2.2.2.2.1), pw_cell_below hb (hHeld.2.2.2.2.2.2.1), pw_cell_below hb (hHeld.2.2.2.2.2.2.2.1), pw_cell_below hb (hHeld.2.2.2.2.2.2.2.2.1), pw_cell_below hb (hHeld.2.2.2.2.2.2.2.2.2.1), pw_cell_below hb (hHeld.2.2.2.2.2.2.2.2.2.2.1), pw_cell_below hb (hHeld.2.2.2.2.2.2.2.2.2.2.2.1), Kd.C_below (hHeld.2.2.2.2.2.2.2.2.2.2.2.2.1) hb, Kd.C_below (hHeld.2.2.2.2.2.2.2.2.2.2.2.2.2.1) hb, below_then (hHeld.2.2.2.2.2.2.2.2.2.2.2.2.2.2) (hHeld.2.2.2.2.2.2.2.2.2.2.2.2.2.2).size hb⟩ (fun hHeld => ?_)
  clear hK K
  refine norm_ (a' := ?_) ?_ ?_
  rotate_left
  · show Act.put _ (some 38) _ = _
    simp only [Act.put, List.setIfInBounds_toArray, List.set_cons_zero, List.set_cons_succ, i64_w, i32_w]
    rfl
  refine one_ (i := 5) (N := some 40) #[true, true, true, true, true, true, false, false, false, false, false, false, false, false, false, false, false, false, false, false, false, false, false, false, false, false, false, false, false, false, false, false, false, false, false, false] rfl rfl (by kernel_rfl) (by decide) (fun K hK => ?_)
  refine goes_ Tryd.func22 (by kernel_rfl) rfl #[.agg #[.int .u64 x0, .int .u32 x1, .string x2, .int .i64 x3]] (by rfl) rfl rfl (by simp only [List.map_toArray, List.map_cons, List.map_nil]; rfl) ?_
  with_reducible refine (RLX.out _).mono ?_
  rintro e y1 ⟨rfl, hb⟩
  refine ⟨_, rfl, ?_⟩
  refine hK.out _ _ ⟨pw_cell_below hb (hHeld.1), pw_cell_below hb (hHeld.2.1), pw_cell_below hb (hHeld.2.2.1), pw_cell_below hb (hHeld.2.2.2.1), pw_cell_below hb (hHeld.2.2.2.2.1), pw_cell_below hb (hHeld.2.2.2.2.2.1), pw_cell_below hb (hHeld.2.2.2.2.2.2.1), pw_cell_below hb (hHeld.2.2.2.2.2.2.2.1), pw_cell_below hb (hHeld.2.2.2.2.2.2.2.2.1), pw_cell_below hb (hHeld.2.2.2.2.2.2.2.2.2.1), pw_cell_below hb (hHeld.2.2.2.2.2.2.2.2.2.2.1), pw_cell_below hb (hHeld.2.2.2.2.2.2.2.2.2.2.2.1), Kd.C_below (hHeld.2.2.2.2.2.2.2.2.2.2.2.2.1) hb, Kd.C_below (hHeld.2.2.2.2.2.2.2.2.2.2.2.2.2.1) hb, below_then (hHeld.2.2.2.2.2.2.2.2.2.2.2.2.2.2) (hHeld.2.2.2.2.2.2.2.2.2.2.2.2.2.2).size hb⟩ (fun hHeld => ?_)
  clear hK K
  refine norm_ (a' := ?_) ?_ ?_
  rotate_left
  · show Act.put _ (some 40) _ = _
    simp only [Act.put, List.setIfInBounds_toArray, List.set_cons_zero, List.set_cons_succ, i64_w, i32_w]
    rfl
  refine pure_ (i := 6) (N := some 41) (v := ?_) (a' := ?_) #[true, true, true, true, true, true, true, false, false, false, false, false, false, false, false, false, false, false, false, false, false, false, false, false, false, false, false, false, false, false, false, false, false, false, false, false] rfl rfl (by kernel_rfl) (fun _ _ _ h => h) (Or.inl ⟨by rfl, ?_⟩) ?_ ?_
  rotate_left
  · intro w'
    go_simp
    with_reducible rfl
  rotate_left
  · simp only [Act.put, List.setIfInBounds_toArray, List.set_cons_zero, List.set_cons_succ, i64_w, i32_w]
    rfl
  refine pure_ (i := 7) (N := some 42) (v := ?_) (a' := ?_) #[true, true, true, true, true, true, true, true, false, false, false, false, false, false, false, false, false, false, false, false, false, false, false, false, false, false, false, false, false, false, false, false, false, false, false, false] rfl rfl (by kernel_rfl) (fun _ _ _ h => h) (Or.inl ⟨by rfl, ?_⟩) ?_ ?_
  rotate_left
  · intro w'
    go_simp
    with_reducible rfl
  rotate_left
  · simp only [Act.put, List.setIfInBounds_toArray, List.set_cons_zero, List.set_cons_succ, i64_w, i32_w]
    rfl
  refine pure_ (i := 8) (N := some 43) (v := ?_) (a' := ?_) #[true, true, true, true, true, true, true, true, true, false, false, false, false, false, false, false, false, false, false, false, false, false, false, false, false, false, false, false, false, false, false, false, false, false, false, false] rfl rfl (by kernel_rfl) (fun _ _ _ h => h) (Or.inl ⟨by rfl, ?_⟩) ?_ ?_
  rotate_left
  · intro w'
    go_simp
    with_reducible rfl
  rotate_left
  · simp only [Act.put, List.setIfInBounds_toArray, List.set_cons_zero, List.set_cons_succ, i64_w, i32_w]
    rfl
  refine pure_ (i := 9) (N := some 44) (v := ?_) (a' := ?_) #[true, true, true, true, true, true, true, true, true, true, false, false, false, false, false, false, false, false, false, false, false, false, false, false, false, false, false, false, false, false, false, false, false, false, false, false] rfl rfl (by kernel_rfl) (fun _ _ _ h => h) (Or.inl ⟨by rfl, ?_⟩) ?_ ?_
  rotate_left
  · intro w'
    go_simp
    with_reducible rfl
  rotate_left
  · simp only [Act.put, List.setIfInBounds_toArray, List.set_cons_zero, List.set_cons_succ, i64_w, i32_w]
    rfl
  refine pure_ (i := 11) (N := some 46) (v := ?_) (a' := ?_) #[true, true, true, true, true, true, true, true, true, true, false, true, false, false, false, false, false, false, false, false, false, false, false, false, false, false, false, false, false, false, false, false, false, false, false, false] rfl rfl (by kernel_rfl) (fun _ _ _ h => h) (Or.inl ⟨by rfl, ?_⟩) ?_ ?_
  rotate_left
  · intro w'
    go_simp
    with_reducible rfl
  rotate_left
  · simp only [Act.put, List.setIfInBounds_toArray, List.set_cons_zero, List.set_cons_succ, i64_w, i32_w]
    rfl
  refine one_ (i := 10) (N := some 45) #[true, true, true, true, true, true, true, true, true, true, true, true, false, false, false, false, false, false, false, false, false, false, false, false, false, false, false, false, false, false, false, false, false, false, false, false] rfl rfl (by kernel_rfl) (by decide) (fun K hK => ?_)
  refine goes_ Tryd.func16 (by kernel_rfl) rfl #[.slice L n c] (by rfl) rfl rfl (by simp only [List.map_toArray, List.map_cons, List.map_nil]; rfl) ?_
  with_reducible refine (TX.out _ (HT.out.below (hHeld.2.2.2.2.2.2.2.2.2.2.2.2.2.2)) (Kd.C_below HC.out (hHeld.2.2.2.2.2.2.2.2.2.2.2.2.2.2))).mono ?_
  rintro e y1 ⟨rfl, hb⟩
  refine ⟨_, rfl, ?_⟩
  refine hK.out _ _ ⟨pw_cell_below hb (hHeld.1), pw_cell_below hb (hHeld.2.1), pw_cell_below hb (hHeld.2.2.1), pw_cell_below hb (hHeld.2.2.2.1), pw_cell_below hb (hHeld.2.2.2.2.1), pw_cell_below hb (hHeld.2.2.2.2.2.1), pw_cell_below hb (hHeld.2.2.2.2.2.2.1), pw_cell_below hb (hHeld.2.2.2.2.2.2.2.1), pw_cell_below hb (hHeld.2.2.2.2.2.2.2.2.1), pw_cell_below hb (hHeld.2.2.2.2.2.2.2.2.2.1), pw_cell_below hb (hHeld.2.2.2.2.2.2.2.2.2.2.1), pw_cell_below hb (hHeld.2.2.2.2.2.2.2.2.2.2.2.1), Kd.C_below (hHeld.2.2.2.2.2.2.2.2.2.2.2.2.1) hb, Kd.C_below (hHeld.2.2.2.2.2.2.2.2.2.2.2.2.2.1) hb, below_then (hHeld.2.2.2.2.2.2.2.2.2.2.2.2.2.2) (hHeld.2.2.2.2.2.2.2.2.2.2.2.2.2.2).size hb⟩ (fun hHeld => ?_)
  clear hK K
  refine norm_ (a' := ?_) ?_ ?_
  rotate_left
  · show Act.put _ (some 45) _ = _
    simp only [Act.put, List.setIfInBounds_toArray, List.set_cons_zero, List.set_cons_succ, i64_w, i32_w]
    rfl
  refine one_ (i := 12) (N := some 47) #[true, true, true, true, true, true, true, true, true, true, true, true, true, false, false, false, false, false, false, false, false, false, false, false, false, false, false, false, false, false, false, false, false, false, false, false] rfl rfl (by kernel_rfl) (by decide) (fun K hK => ?_)
  refine goes_ Tryd.func23 (by kernel_rfl) rfl #[.slice L n c] (by rfl) rfl rfl (by simp only [List.map_toArray, List.map_cons, List.map_nil]; rfl) ?_
  with_reducible refine (RTX.out _ (Kd.C_below HC.out (hHeld.2.2.2.2.2.2.2.2.2.2.2.2.2.2))).mono ?_
  rintro e y1 ⟨rfl, hb⟩
  refine ⟨_, rfl, ?_⟩
  refine hK.out _ _ ⟨pw_cell_below hb (hHeld.1), pw_cell_below hb (hHeld.2.1), pw_cell_below hb (hHeld.2.2.1), pw_cell_below hb (hHeld.2.2.2.1), pw_cell_below hb (hHeld.2.2.2.2.1), pw_cell_below hb (hHeld.2.2.2.2.2.1), pw_cell_below hb (hHeld.2.2.2.2.2.2.1), pw_cell_below hb (hHeld.2.2.2.2.2.2.2.1), pw_cell_below hb (hHeld.2.2.2.2.2.2.2.2.1), pw_cell_below hb (hHeld.2.2.2.2.2.2.2.2.2.1), pw_cell_below hb (hHeld.2.2.2.2.2.2.2.2.2.2.1), pw_cell_below hb (hHeld.2.2.2.2.2.2.2.2.2.2.2.1), Kd.C_below (hHeld.2.2.2.2.2.2.2.2.2.2.2.2.1) hb, Kd.C_below (hHeld.2.2.2.2.2.2.2.2.2.2.2.2.2.1) hb, below_then (hHeld.2.2.2.2.2.2.2.2.2.2.2.2.2.2) (hHeld.2.2.2.2.2.2.2.2.2.2.2.2.2.2).size hb⟩ (fun hHeld => ?_)
  clear hK K
  refine norm_ (a' := ?_) ?_ ?_
  rotate_left
  · show Act.put _ (some 47) _ = _
    simp only [Act.put, List.setIfInBounds_toArray, List.set_cons_zero, List.set_cons_succ, i64_w, i32_w]
    rfl
  refine pure_ (i := 13) (N := some 48) (v := ?_) (a' := ?_) #[true, true, true, true, true, true, true, true, true, true, true, true, true, true, false, false, false, false, false, false, false, false, false, false, false, false, false, false, false, false, false, false, false, false, false, false] rfl rfl (by kernel_rfl) (fun _ _ _ h => h) (Or.inl ⟨by rfl, ?_⟩) ?_ ?_
  rotate_left
  · intro w'
    go_simp
    with_reducible rfl
  rotate_left
  · simp only [Act.put, List.setIfInBounds_toArray, List.set_cons_zero, List.set_cons_succ, i64_w, i32_w]
    rfl
  refine pure_ (i := 14) (N := some 49) (v := ?_) (a' := ?_) #[true, true, true, true, true, true, true, true, true, true, true, true, true, true, true, false, false, false, false, false, false, false, false, false, false, false, false, false, false, false, false, false, false, false, false, false] rfl rfl (by kernel_rfl) (fun _ _ _ h => h) (Or.inl ⟨by rfl, ?_⟩) ?_ ?_
  rotate_left
  · intro w'
    go_simp
    with_reducible rfl
  rotate_left
  · simp only [Act.put, List.setIfInBounds_toArray, List.set_cons_zero, List.set_cons_succ, i64_w, i32_w]
    rfl
  refine pure_ (i := 15) (N := some 50) (v := ?_) (a' := ?_) #[true, true, true, true, true, true, true, true, true, true, true, true, true, true, true, true, false, false, false, false, false, false, false, false, false, false, false, false, false, false, false, false, false, false, false, false] rfl rfl (by kernel_rfl) (fun _ _ _ h => h) (Or.inl ⟨by rfl, ?_⟩) ?_ ?_
  rotate_left
  · intro w'
    go_simp
    with_reducible rfl
  rotate_left
  · simp only [Act.put, List.setIfInBounds_toArray, List.set_cons_zero, List.set_cons_succ, i64_w, i32_w]
    rfl
  refine take_ (i := 16) (N := some 51) (v := ?_) (a' := ?_) #[true, true, true, true, true, true, true, true, true, true, true, true, true, true, true, true, true, false, false, false, false, false, false, false, false, false, false, false, false, false, false, false, false, false, false, false] rfl rfl (by kernel_rfl) (fun _ _ _ h => h) (Or.inl ⟨by rfl, ?_⟩) hHeld ?_ ?_
  rotate_left
  · rintro w' ⟨s0, s1, s2, s3, s4, s5, s6, s7, s8, s9, s10, s11, s12, s13, s14⟩
    go_simp
    with_reducible rfl
  rotate_left
  · simp only [Act.put, List.setIfInBounds_toArray, List.set_cons_zero, List.set_cons_succ, i64_w, i32_w]
    rfl
  refine take_ (i := 17) (N := some 52) (v := ?_) (a' := ?_) #[true, true, true, true, true, true, true, true, true, true, true, true, true, true, true, true, true, true, false, false, false, false, false, false, false, false, false, false, false, false, false, false, false, false, false, false] rfl rfl (by kernel_rfl) (fun _ _ _ h => h) (Or.inl ⟨by rfl, ?_⟩) hHeld ?_ ?_
  rotate_left
  · rintro w' ⟨s0, s1, s2, s3, s4, s5, s6, s7, s8, s9, s10, s11, s12, s13, s14⟩
    go_simp
    with_reducible rfl
  rotate_left
  · simp only [Act.put, List.setIfInBounds_toArray, List.set_cons_zero, List.set_cons_succ, i64_w, i32_w]
    rfl
  refine pure_ (i := 18) (N := some 53) (v := ?_) (a' := ?_) #[true, true, true, true, true, true, true, true, true, true, true, true, true, true, true, true, true, true, true, false, false, false, false, false, false, false, false, false, false, false, false, false, false, false, false, false] rfl rfl (by kernel_rfl) (fun _ _ _ h => h) (Or.inl ⟨by rfl, ?_⟩) ?_ ?_
  rotate_left
  · intro w'
    go_simp
    with_reducible rfl
  rotate_left
  · simp only [Act.put, List.setIfInBounds_toArray, List.set_cons_zero, List.set_cons_succ, i64_w, i32_w]
    rfl
  refine pure_ (i := 19) (N := some 54) (v := ?_) (a' := ?_) #[true, true, true, true, true, true, true, true, true, true, true, true, true, true, true, true, true, true, true, true, false, false, false, false, false, false, false, false, false, false, false, false, false, false, false, false] rfl rfl (by kernel_rfl) (fun _ _ _ h => h) (Or.inl ⟨by rfl, ?_⟩) ?_ ?_
  rotate_left
  · intro w'
    go_simp
    with_reducible rfl
  rotate_left
  · simp only [Act.put, List.setIfInBounds_toArray, List.set_cons_zero, List.set_cons_succ, i64_w, i32_w]
    rfl
  refine pure_ (i := 20) (N := some 55) (v := ?_) (a' := ?_) #[true, true, true, true, true, true, true, true, true, true, true, true, true, true, true, true, true, true, true, true, true, false, false, false, false, false, false, false, false, false, false, false, false, false, false, false] rfl rfl (by kernel_rfl) (fun _ _ _ h => h) (Or.inl ⟨by rfl, ?_⟩) ?_ ?_
  rotate_left
  · intro w'
    go_simp
    with_reducible rfl
  rotate_left
  · simp only [Act.put, List.setIfInBounds_toArray, List.set_cons_zero, List.set_cons_succ, i64_w, i32_w]
    rfl
  refine pure_ (i := 21) (N := some 56) (v := ?_) (a' := ?_) #[true, true, true, true, true, true, true, true, true, true, true, true, true, true, true, true, true, true, true, true, true, true, false, false, false, false, false, false, false, false, false, false, false, false, false, false] rfl rfl (by kernel_rfl) (fun _ _ _ h => h) (Or.inl ⟨by rfl, ?_⟩) ?_ ?_
  rotate_left
  · intro w'
    go_simp
    with_reducible rfl
  rotate_left
  · simp only [Act.put, List.setIfInBounds_toArray, List.set_cons_zero, List.set_cons_succ, i64_w, i32_w]
    rfl
  refine pure_ (i := 22) (N := some 57) (v := ?_) (a' := ?_) #[true, true, true, true, true, true, true, true, true, true, true, true, true, true, true, true, true, true, true, true, true, true, true, false, false, false, false, false, false, false, false, false, false, false, false, false] rfl rfl (by kernel_rfl) (fun _ _ _ h => h) (Or.inl ⟨by rfl, ?_⟩) ?_ ?_
  rotate_left
  · intro w'
    go_simp
    with_reducible rfl
  rotate_left
  · simp only [Act.put, List.setIfInBounds_toArray, List.set_cons_zero, List.set_cons_succ, i64_w, i32_w]
    rfl
  refine pure_ (i := 23) (N := some 58) (v := ?_) (a' := ?_) #[true, true, true, true, true, true, true, true, true, true, true, true, true, true, true, true, true, true, true, true, true, true, true, true, false, false, false, false, false, false, false, false, false, false, false, false] rfl rfl (by kernel_rfl) (fun _ _ _ h => h) (Or.inl ⟨by rfl, ?_⟩) ?_ ?_
  rotate_left
  · intro w'
    go_simp
    with_reducible rfl
  rotate_left
  · simp only [Act.put, List.setIfInBounds_toArray, List.set_cons_zero, List.set_cons_succ, i64_w, i32_w]
    rfl
  refine pure_ (i := 24) (N := some 59) (v := ?_) (a' := ?_) #[true, true, true, true, true, true, true, true, true, true, true, true, true, true, true, true, true, true, true, true, true, true, true, true, true, false, false, false, false, false, false, false, false, false, false, false] rfl rfl (by kernel_rfl) (fun _ _ _ h => h) (Or.inl ⟨by rfl, ?_⟩) ?_ ?_
  rotate_left
  · intro w'
    go_simp
    with_reducible rfl
  rotate_left
  · simp only [Act.put, List.setIfInBounds_toArray, List.set_cons_zero, List.set_cons_succ, i64_w, i32_w]
    rfl
  refine pure_ (i := 25) (N := some 60) (v := ?_) (a' := ?_) #[true, true, true, true, true, true, true, true, true, true, true, true, true, true, true, true, true, true, true, true, true, true, true, true, true, true, false, false, false, false, false, false, false, false, false, false] rfl rfl (by kernel_rfl) (fun _ _ _ h => h) (Or.inl ⟨by rfl, ?_⟩) ?_ ?_
  rotate_left
  · intro w'
    go_simp
    with_reducible rfl
  rotate_left
  · simp only [Act.put, List.setIfInBounds_toArray, List.set_cons_zero, List.set_cons_succ, i64_w, i32_w]
    rfl
  refine pure_ (i := 26) (N := some 61) (v := ?_) (a' := ?_) #[true, true, true, true, true, true, true, true, true, true, true, true, true, true, true, true, true, true, true, true, true, true, true, true, true, true, true, false, false, false, false, false, false, false, false, false] rfl rfl (by kernel_rfl) (fun _ _ _ h => h) (Or.inl ⟨by rfl, ?_⟩) ?_ ?_
  rotate_left
  · intro w'
    go_simp
    with_reducible rfl
  rotate_left
  · simp only [Act.put, List.setIfInBounds_toArray, List.set_cons_zero, List.set_cons_succ, i64_w, i32_w]
    rfl
  refine pure_ (i := 27) (N := some 62) (v := ?_) (a' := ?_) #[true, true, true, true, true, true, true, true, true, true, true, true, true, true, true, true, true, true, true, true, true, true, true, true, true, true, true, true, false, false, false, false, false, false, false, false] rfl rfl (by kernel_rfl) (fun _ _ _ h => h) (Or.inl ⟨by rfl, ?_⟩) ?_ ?_
  rotate_left
  · intro w'
    go_simp
    with_reducible rfl
  rotate_left
  · simp only [Act.put, List.setIfInBounds_toArray, List.set_cons_zero, List.set_cons_succ, i64_w, i32_w]
    rfl
  refine one_ (i := 28) (N := some 63) #[true, true, true, true, true, true, true, true, true, true, true, true, true, true, true, true, true, true, true, true, true, true, true, true, true, true, true, true, true, false, false, false, false, false, false, false] rfl rfl (by kernel_rfl) (by decide) (fun K hK => ?_)
  refine goes_ Tryd.func11 (by kernel_rfl) rfl #[.slice A1 m c1, .slice A2 m c2] (by rfl) rfl rfl (by simp only [List.map_toArray, List.map_cons, List.map_nil]; rfl) ?_
  with_reducible refine (same_m (hHeld.2.2.2.2.2.2.2.2.2.2.2.2.1) K1.out (hHeld.2.2.2.2.2.2.2.2.2.2.2.2.2.1) K2.out HM.out HYS.out).mono ?_
  rintro e y1 ⟨rfl, hb⟩
  refine ⟨_, rfl, ?_⟩
  refine hK.out _ _ ⟨pw_cell_below hb (hHeld.1), pw_cell_below hb (hHeld.2.1), pw_cell_below hb (hHeld.2.2.1), pw_cell_below hb (hHeld.2.2.2.1), pw_cell_below hb (hHeld.2.2.2.2.1), pw_cell_below hb (hHeld.2.2.2.2.2.1), pw_cell_below hb (hHeld.2.2.2.2.2.2.1), pw_cell_below hb (hHeld.2.2.2.2.2.2.2.1), pw_cell_below hb (hHeld.2.2.2.2.2.2.2.2.1), pw_cell_below hb (hHeld.2.2.2.2.2.2.2.2.2.1), pw_cell_below hb (hHeld.2.2.2.2.2.2.2.2.2.2.1), pw_cell_below hb (hHeld.2.2.2.2.2.2.2.2.2.2.2.1), Kd.C_below (hHeld.2.2.2.2.2.2.2.2.2.2.2.2.1) hb, Kd.C_below (hHeld.2.2.2.2.2.2.2.2.2.2.2.2.2.1) hb, below_then (hHeld.2.2.2.2.2.2.2.2.2.2.2.2.2.2) (hHeld.2.2.2.2.2.2.2.2.2.2.2.2.2.2).size hb⟩ (fun hHeld => ?_)
  clear hK K
  refine norm_ (a' := ?_) ?_ ?_
  rotate_left
  · show Act.put _ (some 63) _ = _
    simp only [Act.put, List.setIfInBounds_toArray, List.set_cons_zero, List.set_cons_succ, i64_w, i32_w]
    rfl
  refine pure_ (i := 29) (N := some 64) (v := ?_) (a' := ?_) #[true, true, true, true, true, true, true, true, true, true, true, true, true, true, true, true, true, true, true, true, true, true, true, true, true, true, true, true, true, true, false, false, false, false, false, false] rfl rfl (by kernel_rfl) (fun _ _ _ h => h) (Or.inl ⟨by rfl, ?_⟩) ?_ ?_
  rotate_left
  · intro w'
    go_simp
    with_reducible rfl
  rotate_left
  · simp only [Act.put, List.setIfInBounds_toArray, List.set_cons_zero, List.set_cons_succ, i64_w, i32_w]
    rfl
  refine pure_ (i := 30) (N := some 65) (v := ?_) (a' := ?_) #[true, true, true, true, true, true, true, true, true, true, true, true, true, true, true, true, true, true, true, true, true, true, true, true, true, true, true, true, true, true, true, false, false, false, false, false] rfl rfl (by kernel_rfl) (fun _ _ _ h => h) (Or.inl ⟨by rfl, ?_⟩) ?_ ?_
  rotate_left
  · intro w'
    go_simp
    with_reducible rfl
  rotate_left
  · simp only [Act.put, List.setIfInBounds_toArray, List.set_cons_zero, List.set_cons_succ, i64_w, i32_w]
    rfl
  refine pure_ (i := 31) (N := some 66) (v := ?_) (a' := ?_) #[true, true, true, true, true, true, true, true, true, true, true, true, true, true, true, true, true, true, true, true, true, true, true, true, true, true, true, true, true, true, true, true, false, false, false, false] rfl rfl (by kernel_rfl) (fun _ _ _ h => h) (Or.inl ⟨by rfl, ?_⟩) ?_ ?_
  rotate_left
  · intro w'
    go_simp
    with_reducible rfl
  rotate_left
  · simp only [Act.put, List.setIfInBounds_toArray, List.set_cons_zero, List.set_cons_succ, i64_w, i32_w]
    rfl
  refine pure_ (i := 32) (N := some 67) (v := ?_) (a' := ?_) #[true, true, true, true, true, true, true, true, true, true, true, true, true, true, true, true, true, true, true, true, true, true, true, true, true, true, true, true, true, true, true, true, true, false, false, false] rfl rfl (by kernel_rfl) (fun _ _ _ h => h) (Or.inl ⟨by rfl, ?_⟩) ?_ ?_
  rotate_left
  · intro w'
    go_simp
    with_reducible rfl
  rotate_left
  · simp only [Act.put, List.setIfInBounds_toArray, List.set_cons_zero, List.set_cons_succ, i64_w, i32_w]
    rfl
  refine pure_ (i := 33) (N := some 68) (v := ?_) (a' := ?_) #[true, true, true, true, true, true, true, true, true, true, true, true, true, true, true, true, true, true, true, true, true, true, true, true, true, true, true, true, true, true, true, true, true, true, false, false] rfl rfl (by kernel_rfl) (fun _ _ _ h => h) (Or.inl ⟨by rfl, ?_⟩) ?_ ?_
  rotate_left
  · intro w'
    go_simp
    with_reducible rfl
  rotate_left
  · simp only [Act.put, List.setIfInBounds_toArray, List.set_cons_zero, List.set_cons_succ, i64_w, i32_w]
    rfl
  refine pure_ (i := 34) (N := some 69) (v := ?_) (a' := ?_) #[true, true, true, true, true, true, true, true, true, true, true, true, true, true, true, true, true, true, true, true, true, true, true, true, true, true, true, true, true, true, true, true, true, true, true, false] rfl rfl (by kernel_rfl) (fun _ _ _ h => h) (Or.inl ⟨by rfl, ?_⟩) ?_ ?_
  rotate_left
  · intro w'
    go_simp
    with_reducible rfl
  rotate_left
  · simp only [Act.put, List.setIfInBounds_toArray, List.set_cons_zero, List.set_cons_succ, i64_w, i32_w]
    rfl
  refine pure_ (i := 35) (N := some 6) (v := ?_) (a' := ?_) #[true, true, true, true, true, true, true, true, true, true, true, true, true, true, true, true, true, true, true, true, true, true, true, true, true, true, true, true, true, true, true, true, true, true, true, true] rfl rfl (by kernel_rfl) (fun _ _ _ h => h) (Or.inl ⟨by rfl, ?_⟩) ?_ ?_
  rotate_left
  · intro w'
    go_simp
    with_reducible rfl
  rotate_left
  · simp only [Act.put, List.setIfInBounds_toArray, List.set_cons_zero, List.set_cons_succ, i64_w, i32_w]
    rfl
  refine done_ (by kernel_rfl) ?_
  have DF := Aside0.mk (hHeld.2.2.2.2.2.2.2.2.2.2.2.2.2.2)
  clear hHeld pbx0 pbx1 pbx2 pbx3 pba0 pba1 pba2 pba3 pbb0 pbb1 pbb2 pbb3 pc1 pc2 pd
  go_wp2
  go_ret
  exact ⟨by first | rfl | simp, DF.out⟩
theorem rparse_q (s : ByteArray) (hs : s.size ≤ 1000000000) (o : Option S27) (ho : IsParse s.data.toList o) (w : World) :
    Calls Tryd.prog 18 #[.string s] w fun e w' => e = .returned (.tuple #[recV (o.getD z27), .bool o.isSome]) ∧ Below w.heap.size w w' := by
  have hsl : s.data.toList.length = s.size := Array.length_toList
  obtain ⟨K, h⟩ := (rparse_ev s.data.toList (by omega) o ho).rounds
  cases o with
  | none => exact P.congressref20_Parse.calls K s _ _ _ _ _ w h
  | some r => exact P.congressref20_Parse.calls K s _ _ _ _ _ w h
theorem rread_q (s : ByteArray) (hs : s.size ≤ 1000000000) (o : Option (List S27)) (ho : IsRead s.data.toList o) (w : World) :
    Calls Tryd.prog 20 #[.string s] w fun e w' => ∃ v, e = .returned (.tuple #[v, .bool o.isSome]) ∧ Kd.R k27 27 w' w.heap.size (fun _ => True) v (o.getD []) ∧ Below w.heap.size w w' := by
  have hsl : s.data.toList.length = s.size := Array.length_toList
  obtain ⟨K, h⟩ := (rread_ev s.data.toList (by omega) o ho).rounds
  cases o with
  | none => exact P.congressref20_Read.calls K s _ _ w h
  | some r => exact P.congressref20_Read.calls K s _ _ w h
theorem texts_any (L : Option Addr) (n c : Nat) (l : List S27) (x : S27) (s : ByteArray) (w : World) (hC : Kd.C k27 w L n l) (hnc : n ≤ c) (hn : n ≤ maxLen) (hf : ∀ x ∈ l, FitsR x) (hlen : (textR l).length ≤ 140737488355328) (hx : FitsR x) (hs : s.size ≤ 1000000000) (ht : Tens w) (he : Errs w) :
    Calls Tryd.prog 6 #[.slice L n c, recV x, .string s] w fun e w' => e = .returned (.bool true) ∧ Below w.heap.size w w' := by
  obtain rfl := Kd.C_len hC
  have hsl : s.data.toList.length = s.size := Array.length_toList
  obtain ⟨o, ho⟩ := isParse_ex s.data.toList
  obtain ⟨r, hr⟩ := isRead_ex s.data.toList
  have hrl := isRead_len hr
  obtain ⟨x0, x1, x2, x3⟩ := x
  obtain ⟨KL, hKL⟩ := (rline_ev _ hx).rounds
  obtain ⟨KT, hKT⟩ := (rtext_ev l hf hlen).rounds
  refine texts_x L l.length c l x0 x1 x2 x3 s (bsA (lineR ⟨x0, x1, x2, x3⟩)) (bsA (textR l)) _ _ _ _ o.isSome r.isSome (r.getD []) (by omega) w hC ht he
    (fun w1 h1 h2 => parse_q s hs o ho w1 h1 h2) (fun w1 => rparse_q s hs o ho w1) (fun w1 h1 h2 => read_q s hs r hr w1 h1 h2) (fun w1 => rread_q s hs r hr w1)
    (fun w1 h1 => line_r _ hx h1 (Below.refl _ _)) (fun w1 => P.congressref20_Line.calls KL x0 x1 x2 x3 _ w1 hKL) (fun w1 h1 h2 => text_q L l.length c l w1 h2 hn hf hlen h1) (fun w1 h2 => ?_)
  exact P.congressref20_Text.calls KT L c l _ w1 h2 hnc hKT
end Go.Proofs.YtoeioacgpildpaaDoor
