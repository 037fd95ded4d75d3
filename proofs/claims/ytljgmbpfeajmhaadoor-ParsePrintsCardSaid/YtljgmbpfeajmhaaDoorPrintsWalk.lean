/- The walk of the law ParsePrints. -/
import Derived.Test.YtljgmbpfeajmhaaDoorRPrint
import Derived.Test.YtljgmbpfeajmhaaDoorFixed
set_option linter.unusedVariables false
set_option linter.unusedSimpArgs false
namespace Go.Proofs.YtljgmbpfeajmhaaDoor
open Go.Proofs Go.Shelf Go.RowKit Go.Proofs.YtljgmbpfeajmhaaDoorW.PrintWords Go.Proofs.YtljgmbpfeajmhaaDoorW.PrintLast
set_option maxRecDepth 100000 in
set_option maxHeartbeats 8000000 in
theorem prints_any (c : Call7) (hf : c.Fits) (w : World) (ht : Tens w) (he : Errs w) : Calls Tryd.prog 4 #[.agg c.cells] w fun e w' => e = .returned (.bool true) ∧ Below w.heap.size w w' := by
  have HT := Aside0.mk ht
  have HE := Aside0.mk he
  have MX := Aside0.mk (fun w1 h1 h2 => may_q c hf w1 h1 h2)
  have PX := Aside0.mk (fun w1 h1 h2 => print_q c hf w1 h1 h2)
  have RM := Aside0.mk (fun w1 => rmay_q c hf w1)
  have RP := Aside0.mk (fun w1 => rprint_q c hf w1)
  generalize mayL c = m at MX RM
  generalize printL c = p at PX RP
  have DB := Aside0.mk (below_alloc (Below.refl w.heap.size w) (.cells c.cells 24))
  have DX := Aside0.mk (blk_new w (.cells c.cells 24))
  clear hf ht he
  obtain ⟨c0, c1, c2, c3, c4, c5, c6⟩ := c
  change Calls Tryd.prog 4 #[.agg #[.int .i64 c0, .int .u64 c1, .int .u64 c2, .int .i64 c3, .int .i64 c4, .int .i64 c5, .string ⟨c6.toArray⟩]] w _
  replace DB : Aside0 (Below w.heap.size w (w.alloc (.cells #[.int .i64 c0, .int .u64 c1, .int .u64 c2, .int .i64 c3, .int .i64 c4, .int .i64 c5, .string ⟨c6.toArray⟩] 24))) := DB
  replace DX : Aside0 ((w.alloc (.cells #[.int .i64 c0, .int .u64 c1, .int .u64 c2, .int .i64 c3, .int .i64 c4, .int .i64 c5, .string ⟨c6.toArray⟩] 24)).heap[w.heap.size]? = some (.cells #[.int .i64 c0, .int .u64 c1, .int .u64 c2, .int .i64 c3, .int .i64 c4, .int .i64 c5, .string ⟨c6.toArray⟩] 24 (0, 0))) := DX
  replace MX : Aside0 (∀ w1 : World, Tens w1 → Errs w1 → Calls Tryd.prog 11 #[.agg #[.int .i64 c0, .int .u64 c1, .int .u64 c2, .int .i64 c3, .int .i64 c4, .int .i64 c5, .string ⟨c6.toArray⟩]] w1 fun e w' => e = .returned (.bool m) ∧ Below w1.heap.size w1 w') := MX
  replace PX : Aside0 (∀ w1 : World, Tens w1 → Errs w1 → Calls Tryd.prog 13 #[.agg #[.int .i64 c0, .int .u64 c1, .int .u64 c2, .int .i64 c3, .int .i64 c4, .int .i64 c5, .string ⟨c6.toArray⟩]] w1 fun e w' => e = .returned (.string ⟨p.toArray⟩) ∧ Below w1.heap.size w1 w') := PX
  replace RM : Aside0 (∀ w1 : World, Calls Tryd.prog 12 #[.agg #[.int .i64 c0, .int .u64 c1, .int .u64 c2, .int .i64 c3, .int .i64 c4, .int .i64 c5, .string ⟨c6.toArray⟩]] w1 fun e w' => e = .returned (.bool m) ∧ Below w1.heap.size w1 w') := RM
  replace RP : Aside0 (∀ w1 : World, Calls Tryd.prog 14 #[.agg #[.int .i64 c0, .int .u64 c1, .int .u64 c2, .int .i64 c3, .int .i64 c4, .int .i64 c5, .string ⟨c6.toArray⟩]] w1 fun e w' => e = .returned (.string ⟨p.toArray⟩) ∧ Below w1.heap.size w1 w') := RP
  go_enter Tryd.func4, Tryd.ntmps4
  go_wp2_with fail
  generalize w.alloc (.cells #[.int .i64 c0, .int .u64 c1, .int .u64 c2, .int .i64 c3, .int .i64 c4, .int .i64 c5, .string ⟨c6.toArray⟩] 24) = w2 at *
  have p0 : w2.drew.cell? ⟨w.heap.size, 0, none⟩ = some (.int .i64 c0) := (blk_cell DX.out 0).trans rfl
  have p1 : w2.drew.cell? ⟨w.heap.size, 1, none⟩ = some (.int .u64 c1) := (blk_cell DX.out 1).trans rfl
  have p2 : w2.drew.cell? ⟨w.heap.size, 2, none⟩ = some (.int .u64 c2) := (blk_cell DX.out 2).trans rfl
  have p3 : w2.drew.cell? ⟨w.heap.size, 3, none⟩ = some (.int .i64 c3) := (blk_cell DX.out 3).trans rfl
  have p4 : w2.drew.cell? ⟨w.heap.size, 4, none⟩ = some (.int .i64 c4) := (blk_cell DX.out 4).trans rfl
  have p5 : w2.drew.cell? ⟨w.heap.size, 5, none⟩ = some (.int .i64 c5) := (blk_cell DX.out 5).trans rfl
  have p6 : w2.drew.cell? ⟨w.heap.size, 6, none⟩ = some (.string ⟨c6.toArray⟩) := (blk_cell DX.out 6).trans rfl
  refine start_ (n := 16) (S := fun w' => w'.cell? ⟨w.heap.size, 0, none⟩ = some (.int .i64 c0) ∧ w'.cell? ⟨w.heap.size, 1, none⟩ = some (.int .u64 c1) ∧ w'.cell? ⟨w.heap.size, 2, none⟩ = some (.int .u64 c2) ∧ w'.cell? ⟨w.heap.size, 3, none⟩ = some (.int .i64 c3) ∧ w'.cell? ⟨w.heap.size, 4, none⟩ = some (.int .i64 c4) ∧ w'.cell? ⟨w.heap.size, 5, none⟩ = some (.int .i64 c5) ∧ w'.cell? ⟨w.heap.size, 6, none⟩ = some (.string ⟨c6.toArray⟩) ∧ Below w.heap.size w w') (ds := []) #[false, false, false, false, false, false, false, false, false, false, false, false, false, false, false, false] (by kernel_rfl) rfl rfl ⟨p0, p1, p2, p3, p4, p5, p6, below_drew DB.out⟩ (fun hHeld => ?_)
  refine one_ (i := 0) (N := some 3) #[true, false, false, false, false, false, false, false, false, false, false, false, false, false, false, false] rfl rfl (by kernel_rfl) (by decide) (fun K hK => ?_)
  refine goes_ Tryd.func10 (by kernel_rfl) rfl #[] (by rfl) rfl rfl (by simp only [List.map_toArray, List.map_cons, List.map_nil]) ?_
  with_reducible refine (fixed_q _ (HT.out.below (hHeld.2.2.2.2.2.2.2)) (HE.out.below (hHeld.2.2.2.2.2.2.2))).mono ?_
  rintro e w8 ⟨rfl, hb3⟩
  refine ⟨_, rfl, ?_⟩
  refine hK.out _ _ ⟨pw_cell_below hb3 (hHeld.1), pw_cell_below hb3 (hHeld.2.1), pw_cell_below hb3 (hHeld.2.2.1), pw_cell_below hb3 (hHeld.2.2.2.1), pw_cell_below hb3 (hHeld.2.2.2.2.1), pw_cell_below hb3 (hHeld.2.2.2.2.2.1), pw_cell_below hb3 (hHeld.2.2.2.2.2.2.1), below_then (hHeld.2.2.2.2.2.2.2) (hHeld.2.2.2.2.2.2.2).size hb3⟩ (fun hHeld => ?_)
  clear hK K
  refine norm_ (a' := ?_) ?_ ?_
  rotate_left
  · show Act.put _ (some 3) _ = _
    simp only [Act.put, List.setIfInBounds_toArray, List.set_cons_zero, List.set_cons_succ, i64_w, i32_w]
    rfl
  refine pure_ (i := 1) (N := some 4) (v := ?_) (a' := ?_) #[true, true, false, false, false, false, false, false, false, false, false, false, false, false, false, false] rfl rfl (by kernel_rfl) (fun _ _ _ h => h) (Or.inl ⟨by rfl, ?_⟩) ?_ ?_
  rotate_left
  · intro w'
    go_simp
    with_reducible rfl
  rotate_left
  · simp only [Act.put, List.setIfInBounds_toArray, List.set_cons_zero, List.set_cons_succ, i64_w, i32_w]
    rfl
  refine take_ (i := 2) (N := some 5) (v := ?_) (a' := ?_) #[true, true, true, false, false, false, false, false, false, false, false, false, false, false, false, false] rfl rfl (by kernel_rfl) (fun _ _ _ h => h) (Or.inl ⟨by rfl, ?_⟩) hHeld ?_ ?_
  rotate_left
  · rintro w' ⟨s0, s1, s2, s3, s4, s5, s6, s7⟩
    go_simp
    with_reducible rfl
  rotate_left
  · simp only [Act.put, List.setIfInBounds_toArray, List.set_cons_zero, List.set_cons_succ, i64_w, i32_w]
    rfl
  refine take_ (i := 4) (N := some 7) (v := ?_) (a' := ?_) #[true, true, true, false, true, false, false, false, false, false, false, false, false, false, false, false] rfl rfl (by kernel_rfl) (fun _ _ _ h => h) (Or.inl ⟨by rfl, ?_⟩) hHeld ?_ ?_
  rotate_left
  · rintro w' ⟨s0, s1, s2, s3, s4, s5, s6, s7⟩
    go_simp
    with_reducible rfl
  rotate_left
  · simp only [Act.put, List.setIfInBounds_toArray, List.set_cons_zero, List.set_cons_succ, i64_w, i32_w]
    rfl
  refine one_ (i := 3) (N := some 6) #[true, true, true, true, true, false, false, false, false, false, false, false, false, false, false, false] rfl rfl (by kernel_rfl) (by decide) (fun K hK => ?_)
  refine goes_ Tryd.func11 (by kernel_rfl) rfl #[.agg #[.int .i64 c0, .int .u64 c1, .int .u64 c2, .int .i64 c3, .int .i64 c4, .int .i64 c5, .string ⟨c6.toArray⟩]] (by rfl) rfl rfl (by simp only [List.map_toArray, List.map_cons, List.map_nil]; rfl) ?_
  with_reducible refine (MX.out _ (HT.out.below (hHeld.2.2.2.2.2.2.2)) (HE.out.below (hHeld.2.2.2.2.2.2.2))).mono ?_
  rintro e w8 ⟨rfl, hb3⟩
  refine ⟨_, rfl, ?_⟩
  refine hK.out _ _ ⟨pw_cell_below hb3 (hHeld.1), pw_cell_below hb3 (hHeld.2.1), pw_cell_below hb3 (hHeld.2.2.1), pw_cell_below hb3 (hHeld.2.2.2.1), pw_cell_below hb3 (hHeld.2.2.2.2.1), pw_cell_below hb3 (hHeld.2.2.2.2.2.1), pw_cell_below hb3 (hHeld.2.2.2.2.2.2.1), below_then (hHeld.2.2.2.2.2.2.2) (hHeld.2.2.2.2.2.2.2).size hb3⟩ (fun hHeld => ?_)
  clear hK K
  refine norm_ (a' := ?_) ?_ ?_
  rotate_left
  · show Act.put _ (some 6) _ = _
    simp only [Act.put, List.setIfInBounds_toArray, List.set_cons_zero, List.set_cons_succ, i64_w, i32_w]
    rfl
  refine one_ (i := 5) (N := some 8) #[true, true, true, true, true, true, false, false, false, false, false, false, false, false, false, false] rfl rfl (by kernel_rfl) (by decide) (fun K hK => ?_)
  refine goes_ Tryd.func12 (by kernel_rfl) rfl #[.agg #[.int .i64 c0, .int .u64 c1, .int .u64 c2, .int .i64 c3, .int .i64 c4, .int .i64 c5, .string ⟨c6.toArray⟩]] (by rfl) rfl rfl (by simp only [List.map_toArray, List.map_cons, List.map_nil]; rfl) ?_
  with_reducible refine (RM.out _).mono ?_
  rintro e w8 ⟨rfl, hb3⟩
  refine ⟨_, rfl, ?_⟩
  refine hK.out _ _ ⟨pw_cell_below hb3 (hHeld.1), pw_cell_below hb3 (hHeld.2.1), pw_cell_below hb3 (hHeld.2.2.1), pw_cell_below hb3 (hHeld.2.2.2.1), pw_cell_below hb3 (hHeld.2.2.2.2.1), pw_cell_below hb3 (hHeld.2.2.2.2.2.1), pw_cell_below hb3 (hHeld.2.2.2.2.2.2.1), below_then (hHeld.2.2.2.2.2.2.2) (hHeld.2.2.2.2.2.2.2).size hb3⟩ (fun hHeld => ?_)
  clear hK K
  refine norm_ (a' := ?_) ?_ ?_
  rotate_left
  · show Act.put _ (some 8) _ = _
    simp only [Act.put, List.setIfInBounds_toArray, List.set_cons_zero, List.set_cons_succ, i64_w, i32_w]
    rfl
  refine pure_ (i := 6) (N := some 9) (v := ?_) (a' := ?_) #[true, true, true, true, true, true, true, false, false, false, false, false, false, false, false, false] rfl rfl (by kernel_rfl) (fun _ _ _ h => h) (Or.inl ⟨by rfl, ?_⟩) ?_ ?_
  rotate_left
  · intro w'
    go_simp
    with_reducible rfl
  rotate_left
  · simp only [Act.put, List.setIfInBounds_toArray, List.set_cons_zero, List.set_cons_succ, i64_w, i32_w]
    rfl
  refine pure_ (i := 7) (N := some 10) (v := ?_) (a' := ?_) #[true, true, true, true, true, true, true, true, false, false, false, false, false, false, false, false] rfl rfl (by kernel_rfl) (fun _ _ _ h => h) (Or.inl ⟨by rfl, ?_⟩) ?_ ?_
  rotate_left
  · intro w'
    go_simp
    with_reducible rfl
  rotate_left
  · simp only [Act.put, List.setIfInBounds_toArray, List.set_cons_zero, List.set_cons_succ, i64_w, i32_w]
    rfl
  refine pure_ (i := 8) (N := some 11) (v := ?_) (a' := ?_) #[true, true, true, true, true, true, true, true, true, false, false, false, false, false, false, false] rfl rfl (by kernel_rfl) (fun _ _ _ h => h) (Or.inl ⟨by rfl, ?_⟩) ?_ ?_
  rotate_left
  · intro w'
    go_simp
    with_reducible rfl
  rotate_left
  · simp only [Act.put, List.setIfInBounds_toArray, List.set_cons_zero, List.set_cons_succ, i64_w, i32_w]
    rfl
  refine take_ (i := 9) (N := some 12) (v := ?_) (a' := ?_) #[true, true, true, true, true, true, true, true, true, true, false, false, false, false, false, false] rfl rfl (by kernel_rfl) (fun _ _ _ h => h) (Or.inl ⟨by rfl, ?_⟩) hHeld ?_ ?_
  rotate_left
  · rintro w' ⟨s0, s1, s2, s3, s4, s5, s6, s7⟩
    go_simp
    with_reducible rfl
  rotate_left
  · simp only [Act.put, List.setIfInBounds_toArray, List.set_cons_zero, List.set_cons_succ, i64_w, i32_w]
    rfl
  refine take_ (i := 11) (N := some 14) (v := ?_) (a' := ?_) #[true, true, true, true, true, true, true, true, true, true, false, true, false, false, false, false] rfl rfl (by kernel_rfl) (fun _ _ _ h => h) (Or.inl ⟨by rfl, ?_⟩) hHeld ?_ ?_
  rotate_left
  · rintro w' ⟨s0, s1, s2, s3, s4, s5, s6, s7⟩
    go_simp
    with_reducible rfl
  rotate_left
  · simp only [Act.put, List.setIfInBounds_toArray, List.set_cons_zero, List.set_cons_succ, i64_w, i32_w]
    rfl
  refine one_ (i := 10) (N := some 13) #[true, true, true, true, true, true, true, true, true, true, true, true, false, false, false, false] rfl rfl (by kernel_rfl) (by decide) (fun K hK => ?_)
  refine goes_ Tryd.func13 (by kernel_rfl) rfl #[.agg #[.int .i64 c0, .int .u64 c1, .int .u64 c2, .int .i64 c3, .int .i64 c4, .int .i64 c5, .string ⟨c6.toArray⟩]] (by rfl) rfl rfl (by simp only [List.map_toArray, List.map_cons, List.map_nil]; rfl) ?_
  with_reducible refine (PX.out _ (HT.out.below (hHeld.2.2.2.2.2.2.2)) (HE.out.below (hHeld.2.2.2.2.2.2.2))).mono ?_
  rintro e w8 ⟨rfl, hb3⟩
  refine ⟨_, rfl, ?_⟩
  refine hK.out _ _ ⟨pw_cell_below hb3 (hHeld.1), pw_cell_below hb3 (hHeld.2.1), pw_cell_below hb3 (hHeld.2.2.1), pw_cell_below hb3 (hHeld.2.2.2.1), pw_cell_below hb3 (hHeld.2.2.2.2.1), pw_cell_below hb3 (hHeld.2.2.2.2.2.1), pw_cell_below hb3 (hHeld.2.2.2.2.2.2.1), below_then (hHeld.2.2.2.2.2.2.2) (hHeld.2.2.2.2.2.2.2).size hb3⟩ (fun hHeld => ?_)
  clear hK K
  refine norm_ (a' := ?_) ?_ ?_
  rotate_left
  · show Act.put _ (some 13) _ = _
    simp only [Act.put, List.setIfInBounds_toArray, List.set_cons_zero, List.set_cons_succ, i64_w, i32_w]
    rfl
  refine one_ (i := 12) (N := some 15) #[true, true, true, true, true, true, true, true, true, true, true, true, true, false, false, false] rfl rfl (by kernel_rfl) (by decide) (fun K hK => ?_)
  refine goes_ Tryd.func14 (by kernel_rfl) rfl #[.agg #[.int .i64 c0, .int .u64 c1, .int .u64 c2, .int .i64 c3, .int .i64 c4, .int .i64 c5, .string ⟨c6.toArray⟩]] (by rfl) rfl rfl (by simp only [List.map_toArray, List.map_cons, List.map_nil]; rfl) ?_
  with_reducible refine (RP.out _).mono ?_
  rintro e w8 ⟨rfl, hb3⟩
  refine ⟨_, rfl, ?_⟩
  refine hK.out _ _ ⟨pw_cell_below hb3 (hHeld.1), pw_cell_below hb3 (hHeld.2.1), pw_cell_below hb3 (hHeld.2.2.1), pw_cell_below hb3 (hHeld.2.2.2.1), pw_cell_below hb3 (hHeld.2.2.2.2.1), pw_cell_below hb3 (hHeld.2.2.2.2.2.1), pw_cell_below hb3 (hHeld.2.2.2.2.2.2.1), below_then (hHeld.2.2.2.2.2.2.2) (hHeld.2.2.2.2.2.2.2).size hb3⟩ (fun hHeld => ?_)
  clear hK K
  refine norm_ (a' := ?_) ?_ ?_
  rotate_left
  · show Act.put _ (some 15) _ = _
    simp only [Act.put, List.setIfInBounds_toArray, List.set_cons_zero, List.set_cons_succ, i64_w, i32_w]
    rfl
  refine pure_ (i := 13) (N := some 16) (v := ?_) (a' := ?_) #[true, true, true, true, true, true, true, true, true, true, true, true, true, true, false, false] rfl rfl (by kernel_rfl) (fun _ _ _ h => h) (Or.inl ⟨by rfl, ?_⟩) ?_ ?_
  rotate_left
  · intro w'
    go_simp
    with_reducible rfl
  rotate_left
  · simp only [Act.put, List.setIfInBounds_toArray, List.set_cons_zero, List.set_cons_succ, i64_w, i32_w]
    rfl
  refine pure_ (i := 14) (N := some 17) (v := ?_) (a' := ?_) #[true, true, true, true, true, true, true, true, true, true, true, true, true, true, true, false] rfl rfl (by kernel_rfl) (fun _ _ _ h => h) (Or.inl ⟨by rfl, ?_⟩) ?_ ?_
  rotate_left
  · intro w'
    go_simp
    with_reducible rfl
  rotate_left
  · simp only [Act.put, List.setIfInBounds_toArray, List.set_cons_zero, List.set_cons_succ, i64_w, i32_w]
    rfl
  refine pure_ (i := 15) (N := some 2) (v := ?_) (a' := ?_) #[true, true, true, true, true, true, true, true, true, true, true, true, true, true, true, true] rfl rfl (by kernel_rfl) (fun _ _ _ h => h) (Or.inl ⟨by rfl, ?_⟩) ?_ ?_
  rotate_left
  · intro w'
    go_simp
    with_reducible rfl
  rotate_left
  · simp only [Act.put, List.setIfInBounds_toArray, List.set_cons_zero, List.set_cons_succ, i64_w, i32_w]
    rfl
  refine done_ (by kernel_rfl) ?_
  go_wp2
  go_ret
  exact ⟨by simp, hHeld.2.2.2.2.2.2.2⟩
end Go.Proofs.YtljgmbpfeajmhaaDoor
