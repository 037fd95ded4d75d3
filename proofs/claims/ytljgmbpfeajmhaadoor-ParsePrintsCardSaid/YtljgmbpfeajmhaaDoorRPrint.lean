/- The walk of the document's Print: the program's. -/
import Derived.Test.YtljgmbpfeajmhaaDoorRMay
import Derived.Test.YtljgmbpfeajmhaaDoorDigits
import Derived.Test.YtljgmbpfeajmhaaDoorKindsWalk
import Derived.Test.YtljgmbpfeajmhaaDoorP3
set_option linter.unusedVariables false
set_option linter.unusedSimpArgs false
namespace Go.Proofs.YtljgmbpfeajmhaaDoor
open Go.Proofs Go.Shelf Go.RowKit Go.Proofs.YtljgmbpfeajmhaaDoorW.PrintWords Go.Proofs.YtljgmbpfeajmhaaDoorW.PrintLast
theorem services_x (k : Nat) (hk : k < 4) (nm : ByteArray) (hnm : [(⟨#[102, 105, 102, 111]⟩ : ByteArray), ⟨#[99, 97, 117, 115, 97, 108]⟩, ⟨#[97, 103, 114, 101, 101, 100]⟩, ⟨#[115, 97, 102, 101]⟩].getD k ByteArray.empty = nm) (w : World) :
    Calls Tryd.prog 22 #[] w fun e w' => ∃ ad cap, e = .returned (.slice (some ad) 4 cap) ∧ w'.cell? (ad.add k) = some (.string nm) ∧ Below w.heap.size w w' := by
  refine (P.congressref21_Services.calls _ w rfl).mono ?_
  rintro e w' ⟨v, rfl, hr, hb⟩
  obtain ⟨A, c, rfl⟩ := Kd.R_slice hr
  obtain ⟨_, _, hC⟩ := Kd.R_reads' hr
  obtain ⟨ad, rfl, hx⟩ := Kd.at_string hC (k : Int) (by omega) (by simp; omega)
  unfold rdOf at hx
  rw [Int.toNat_natCast, hnm] at hx
  exact ⟨ad, c, rfl, hx, hb⟩
theorem rmay_q (c : Call7) (hf : c.Fits) (w : World) : Calls Tryd.prog 12 #[.agg c.cells] w fun e w' => e = .returned (.bool (mayL c)) ∧ Below w.heap.size w w' :=
  P.congressref21_May.calls 7 c.kind c.handle c.other c.give c.grp c.svc ⟨c.txt.toArray⟩ _ w (rmay_f c hf)

set_option maxRecDepth 100000 in
set_option maxHeartbeats 8000000 in
theorem rprint_0 (w : World) (hf : (⟨0, 0, 0, 0, 0, 0, []⟩ : Call7).Fits) (hm : mayL (⟨0, 0, 0, 0, 0, 0, []⟩ : Call7) = true) :
    Calls Tryd.prog 14 #[.agg #[.int .i64 0, .int .u64 0, .int .u64 0, .int .i64 0, .int .i64 0, .int .i64 0, .string ⟨#[]⟩]] w fun e w' => e = .returned (.string ⟨(speltL (⟨0, 0, 0, 0, 0, 0, []⟩ : Call7)).toArray⟩) ∧ Below w.heap.size w w' := by
  have HR := Aside0.mk (show speltL (⟨0, 0, 0, 0, 0, 0, []⟩ : Call7) = [111, 112, 101, 110] from by unfold speltL; simp [itoa_nat])
  have MX : Aside0 (∀ w1 : World, Calls Tryd.prog 12 #[.agg #[.int .i64 0, .int .u64 0, .int .u64 0, .int .i64 0, .int .i64 0, .int .i64 0, .string ⟨#[]⟩]] w1 fun e w' => e = .returned (.bool true) ∧ Below w1.heap.size w1 w') := ⟨fun w1 => by have := rmay_q (⟨0, 0, 0, 0, 0, 0, []⟩ : Call7) hf w1; rw [hm] at this; exact this⟩
  clear hf hm
  have D0 := Aside0.mk (below_alloc (Below.refl w.heap.size w) (.cells #[.int .i64 0, .int .u64 0, .int .u64 0, .int .i64 0, .int .i64 0, .int .i64 0, .string ⟨#[]⟩] 24))
  have X := Aside0.mk (blk_new w (.cells #[.int .i64 0, .int .u64 0, .int .u64 0, .int .i64 0, .int .i64 0, .int .i64 0, .string ⟨#[]⟩] 24))
  go_enter Tryd.func14, Tryd.ntmps14
  go_wp2_with fail
  refine (MX.out _).mono ?_
  rintro e w1 ⟨rfl, hb⟩
  replace X := Aside0.mk ((hb.block _ (blk_lt X.out)).trans X.out)
  have D1 := Aside0.mk (below_then D0.out D0.out.size hb)
  clear hb D0
  go_wp2_with fail
  have e0 : w1.drew.cell? ⟨w.heap.size, 0, none⟩ = some (.int .i64 0) := (blk_cell X.out 0).trans rfl
  have eX : w1.drew.heap[w.heap.size]? = some (.cells #[.int .i64 0, .int .u64 0, .int .u64 0, .int .i64 0, .int .i64 0, .int .i64 0, .string ⟨#[]⟩] 24 (0, 0)) := X.out
  have eD := below_drew D1.out
  clear X D1
  refine start_ (n := 6) (S := fun w' => w'.cell? ⟨w.heap.size, 0, none⟩ = some (.int .i64 0) ∧ w'.heap[w.heap.size]? = some (.cells #[.int .i64 0, .int .u64 0, .int .u64 0, .int .i64 0, .int .i64 0, .int .i64 0, .string ⟨#[]⟩] 24 (0, 0)) ∧ Below w.heap.size w w') (ds := []) #[false, false, false, false, false, false] (by kernel_rfl) rfl rfl ⟨e0, eX, eD⟩ (fun hHeld => ?_)
  refine pure_ (i := 1) (N := some 8) (v := ?_) (a' := ?_) #[false, true, false, false, false, false] rfl rfl (by kernel_rfl) (fun _ _ _ h => h) (Or.inl ⟨by rfl, ?_⟩) ?_ ?_
  rotate_left
  · intro w'
    go_simp
    with_reducible rfl
  rotate_left
  · simp only [Act.put, List.setIfInBounds_toArray, List.set_cons_zero, List.set_cons_succ, i64_w, i32_w]
    rfl
  refine take_ (i := 2) (N := some 9) (v := ?_) (a' := ?_) #[false, true, true, false, false, false] rfl rfl (by kernel_rfl) (fun _ _ _ h => h) (Or.inl ⟨by rfl, ?_⟩) hHeld ?_ ?_
  rotate_left
  · rintro w' ⟨s0, s1, s2⟩
    go_simp
    with_reducible rfl
  rotate_left
  · simp only [Act.put, List.setIfInBounds_toArray, List.set_cons_zero, List.set_cons_succ, i64_w, i32_w]
    rfl
  refine one_ (i := 0) (N := some 7) #[true, true, true, false, false, false] rfl rfl (by kernel_rfl) (by decide) (fun K hK => ?_)
  refine goes_ Tryd.func16 (by kernel_rfl) rfl #[] (by rfl) rfl rfl (by simp only [List.map_toArray, List.map_cons, List.map_nil]) ?_
  with_reducible refine (kinds_x 0 (by decide) ⟨#[111, 112, 101, 110]⟩ rfl _).mono ?_
  rintro e v3 ⟨ad, cap, rfl, hx, hb⟩
  refine ⟨_, rfl, ?_⟩
  have HX := Aside0.mk hx
  clear hx
  refine hK.out _ _ ⟨pw_cell_below hb (hHeld.1), (hb.block _ (blk_lt (hHeld.2.1))).trans (hHeld.2.1), below_then (hHeld.2.2) (hHeld.2.2).size hb⟩ (fun hHeld => ?_)
  clear hK K
  refine norm_ (a' := ?_) ?_ ?_
  rotate_left
  · show Act.put _ (some 7) _ = _
    simp only [Act.put, List.setIfInBounds_toArray, List.set_cons_zero, List.set_cons_succ, i64_w, i32_w]
    rfl
  refine pure_ (i := 3) (N := some 10) (v := ?_) (a' := ?_) #[true, true, true, true, false, false] rfl rfl (by kernel_rfl) (fun _ _ _ h => h) (Or.inl ⟨by rfl, ?_⟩) ?_ ?_
  rotate_left
  · intro w'
    go_simp
    with_reducible rfl
  rotate_left
  · simp only [Act.put, List.setIfInBounds_toArray, List.set_cons_zero, List.set_cons_succ, i64_w, i32_w]
    rfl
  refine one_ (i := 4) (N := some 11) #[true, true, true, true, true, false] rfl rfl (by kernel_rfl) (by decide) (fun K hK => ?_)
  have hz : v3.cell? ad = some (.string ⟨#[111, 112, 101, 110]⟩) := HX.out
  refine value_ (w1 := ?_) (v := ?_) (by rfl) rfl ?_ ?_
  rotate_left 2
  · go_simp
    constructor
    · rfl
    · rfl
  clear hz
  refine hK.out _ _ ⟨hHeld.1, hHeld.2.1, hHeld.2.2⟩ (fun hHeld => ?_)
  clear hK K
  refine norm_ (a' := ?_) ?_ ?_
  rotate_left
  · show Act.put _ (some 11) _ = _
    simp only [Act.put, List.setIfInBounds_toArray, List.set_cons_zero, List.set_cons_succ, i64_w, i32_w]
    rfl
  refine pure_ (i := 5) (N := some 3) (v := ?_) (a' := ?_) #[true, true, true, true, true, true] rfl rfl (by kernel_rfl) (fun _ _ _ h => h) (Or.inl ⟨by rfl, ?_⟩) ?_ ?_
  rotate_left
  · intro w'
    go_simp
    with_reducible rfl
  rotate_left
  · simp only [Act.put, List.setIfInBounds_toArray, List.set_cons_zero, List.set_cons_succ, i64_w, i32_w]
    rfl
  refine done_ (by kernel_rfl) ?_
  have X := Aside0.mk (hHeld.2.1)
  have DR3 := Aside0.mk (hHeld.2.2)
  clear hHeld eX eD HX e0
  have x0 := (blk_cell X.out 0).trans (show _ = some (.int .i64 0) from rfl)
  have x1 := (blk_cell X.out 1).trans (show _ = some (.int .u64 0) from rfl)
  have x2 := (blk_cell X.out 2).trans (show _ = some (.int .u64 0) from rfl)
  have x3 := (blk_cell X.out 3).trans (show _ = some (.int .i64 0) from rfl)
  have x4 := (blk_cell X.out 4).trans (show _ = some (.int .i64 0) from rfl)
  have x5 := (blk_cell X.out 5).trans (show _ = some (.int .i64 0) from rfl)
  have x6 := (blk_cell X.out 6).trans (show _ = some (.string ⟨#[]⟩) from rfl)
  go_wp2
  go_ret
  refine ⟨?_, DR3.out⟩
  rw [HR.out]
  rfl
set_option maxRecDepth 100000 in
set_option maxHeartbeats 8000000 in
theorem rprint_1 (a1 : Nat) (w : World) (hf : (⟨1, (a1 : Int), 0, 0, 0, 0, []⟩ : Call7).Fits) (hm : mayL (⟨1, (a1 : Int), 0, 0, 0, 0, []⟩ : Call7) = true) (h_a1 : a1 < 18446744073709551616) :
    Calls Tryd.prog 14 #[.agg #[.int .i64 1, .int .u64 (a1 : Int), .int .u64 0, .int .i64 0, .int .i64 0, .int .i64 0, .string ⟨#[]⟩]] w fun e w' => e = .returned (.string ⟨(speltL (⟨1, (a1 : Int), 0, 0, 0, 0, []⟩ : Call7)).toArray⟩) ∧ Below w.heap.size w w' := by
  have HR := Aside0.mk (show speltL (⟨1, (a1 : Int), 0, 0, 0, 0, []⟩ : Call7) = [99, 108, 111, 115, 101] ++ ([32] ++ Lib.decDigits a1) from by unfold speltL; simp [itoa_nat])
  have MX : Aside0 (∀ w1 : World, Calls Tryd.prog 12 #[.agg #[.int .i64 1, .int .u64 (a1 : Int), .int .u64 0, .int .i64 0, .int .i64 0, .int .i64 0, .string ⟨#[]⟩]] w1 fun e w' => e = .returned (.bool true) ∧ Below w1.heap.size w1 w') := ⟨fun w1 => by have := rmay_q (⟨1, (a1 : Int), 0, 0, 0, 0, []⟩ : Call7) hf w1; rw [hm] at this; exact this⟩
  have F_sh := fun (w1 : World) => digits_q a1 h_a1 w1
  have Z_sh := dec_small a1 (by omega)
  rw [← size_arr] at Z_sh
  obtain ⟨sh, hsh⟩ : ∃ sh : ByteArray, sh = ⟨(Lib.decDigits a1).toArray⟩ := ⟨_, rfl⟩
  rw [← hsh] at F_sh Z_sh
  replace F_sh := Aside0.mk F_sh
  have H_sh := Aside0.mk hsh
  clear hsh h_a1
  clear hf hm
  have D0 := Aside0.mk (below_alloc (Below.refl w.heap.size w) (.cells #[.int .i64 1, .int .u64 (a1 : Int), .int .u64 0, .int .i64 0, .int .i64 0, .int .i64 0, .string ⟨#[]⟩] 24))
  have X := Aside0.mk (blk_new w (.cells #[.int .i64 1, .int .u64 (a1 : Int), .int .u64 0, .int .i64 0, .int .i64 0, .int .i64 0, .string ⟨#[]⟩] 24))
  go_enter Tryd.func14, Tryd.ntmps14
  go_wp2_with fail
  refine (MX.out _).mono ?_
  rintro e w1 ⟨rfl, hb⟩
  replace X := Aside0.mk ((hb.block _ (blk_lt X.out)).trans X.out)
  have D1 := Aside0.mk (below_then D0.out D0.out.size hb)
  clear hb D0
  go_wp2_with fail
  have e0 : w1.drew.cell? ⟨w.heap.size, 0, none⟩ = some (.int .i64 1) := (blk_cell X.out 0).trans rfl
  have eX : w1.drew.heap[w.heap.size]? = some (.cells #[.int .i64 1, .int .u64 (a1 : Int), .int .u64 0, .int .i64 0, .int .i64 0, .int .i64 0, .string ⟨#[]⟩] 24 (0, 0)) := X.out
  have eD := below_drew D1.out
  clear X D1
  refine start_ (n := 6) (S := fun w' => w'.cell? ⟨w.heap.size, 0, none⟩ = some (.int .i64 1) ∧ w'.heap[w.heap.size]? = some (.cells #[.int .i64 1, .int .u64 (a1 : Int), .int .u64 0, .int .i64 0, .int .i64 0, .int .i64 0, .string ⟨#[]⟩] 24 (0, 0)) ∧ Below w.heap.size w w') (ds := []) #[false, false, false, false, false, false] (by kernel_rfl) rfl rfl ⟨e0, eX, eD⟩ (fun hHeld => ?_)
  refine pure_ (i := 1) (N := some 8) (v := ?_) (a' := ?_) #[false, true, false, false, false, false] rfl rfl (by kernel_rfl) (fun _ _ _ h => h) (Or.inl ⟨by rfl, ?_⟩) ?_ ?_
  rotate_left
  · intro w'
    go_simp
    with_reducible rfl
  rotate_left
  · simp only [Act.put, List.setIfInBounds_toArray, List.set_cons_zero, List.set_cons_succ, i64_w, i32_w]
    rfl
  refine take_ (i := 2) (N := some 9) (v := ?_) (a' := ?_) #[false, true, true, false, false, false] rfl rfl (by kernel_rfl) (fun _ _ _ h => h) (Or.inl ⟨by rfl, ?_⟩) hHeld ?_ ?_
  rotate_left
  · rintro w' ⟨s0, s1, s2⟩
    go_simp
    with_reducible rfl
  rotate_left
  · simp only [Act.put, List.setIfInBounds_toArray, List.set_cons_zero, List.set_cons_succ, i64_w, i32_w]
    rfl
  refine one_ (i := 0) (N := some 7) #[true, true, true, false, false, false] rfl rfl (by kernel_rfl) (by decide) (fun K hK => ?_)
  refine goes_ Tryd.func16 (by kernel_rfl) rfl #[] (by rfl) rfl rfl (by simp only [List.map_toArray, List.map_cons, List.map_nil]) ?_
  with_reducible refine (kinds_x 1 (by decide) ⟨#[99, 108, 111, 115, 101]⟩ rfl _).mono ?_
  rintro e v3 ⟨ad, cap, rfl, hx, hb⟩
  refine ⟨_, rfl, ?_⟩
  have HX := Aside0.mk hx
  clear hx
  refine hK.out _ _ ⟨pw_cell_below hb (hHeld.1), (hb.block _ (blk_lt (hHeld.2.1))).trans (hHeld.2.1), below_then (hHeld.2.2) (hHeld.2.2).size hb⟩ (fun hHeld => ?_)
  clear hK K
  refine norm_ (a' := ?_) ?_ ?_
  rotate_left
  · show Act.put _ (some 7) _ = _
    simp only [Act.put, List.setIfInBounds_toArray, List.set_cons_zero, List.set_cons_succ, i64_w, i32_w]
    rfl
  refine pure_ (i := 3) (N := some 10) (v := ?_) (a' := ?_) #[true, true, true, true, false, false] rfl rfl (by kernel_rfl) (fun _ _ _ h => h) (Or.inl ⟨by rfl, ?_⟩) ?_ ?_
  rotate_left
  · intro w'
    go_simp
    with_reducible rfl
  rotate_left
  · simp only [Act.put, List.setIfInBounds_toArray, List.set_cons_zero, List.set_cons_succ, i64_w, i32_w]
    rfl
  refine one_ (i := 4) (N := some 11) #[true, true, true, true, true, false] rfl rfl (by kernel_rfl) (by decide) (fun K hK => ?_)
  have hz : v3.cell? ⟨ad.block, ad.off + 1, none⟩ = some (.string ⟨#[99, 108, 111, 115, 101]⟩) := HX.out
  refine value_ (w1 := ?_) (v := ?_) (by rfl) rfl ?_ ?_
  rotate_left 2
  · go_simp
    constructor
    · rfl
    · rfl
  clear hz
  refine hK.out _ _ ⟨hHeld.1, hHeld.2.1, hHeld.2.2⟩ (fun hHeld => ?_)
  clear hK K
  refine norm_ (a' := ?_) ?_ ?_
  rotate_left
  · show Act.put _ (some 11) _ = _
    simp only [Act.put, List.setIfInBounds_toArray, List.set_cons_zero, List.set_cons_succ, i64_w, i32_w]
    rfl
  refine pure_ (i := 5) (N := some 3) (v := ?_) (a' := ?_) #[true, true, true, true, true, true] rfl rfl (by kernel_rfl) (fun _ _ _ h => h) (Or.inl ⟨by rfl, ?_⟩) ?_ ?_
  rotate_left
  · intro w'
    go_simp
    with_reducible rfl
  rotate_left
  · simp only [Act.put, List.setIfInBounds_toArray, List.set_cons_zero, List.set_cons_succ, i64_w, i32_w]
    rfl
  refine done_ (by kernel_rfl) ?_
  have X := Aside0.mk (hHeld.2.1)
  have DR3 := Aside0.mk (hHeld.2.2)
  clear hHeld eX eD HX e0
  have x0 := (blk_cell X.out 0).trans (show _ = some (.int .i64 1) from rfl)
  have x1 := (blk_cell X.out 1).trans (show _ = some (.int .u64 (a1 : Int)) from rfl)
  have x2 := (blk_cell X.out 2).trans (show _ = some (.int .u64 0) from rfl)
  have x3 := (blk_cell X.out 3).trans (show _ = some (.int .i64 0) from rfl)
  have x4 := (blk_cell X.out 4).trans (show _ = some (.int .i64 0) from rfl)
  have x5 := (blk_cell X.out 5).trans (show _ = some (.int .i64 0) from rfl)
  have x6 := (blk_cell X.out 6).trans (show _ = some (.string ⟨#[]⟩) from rfl)
  go_wp2_with fail
  clear x0 x1 x2 x3 x4 x5 x6
  refine (F_sh.out _).mono ?_
  rintro e w2 ⟨rfl, hb⟩
  replace X := Aside0.mk ((hb.block _ (blk_lt X.out)).trans X.out)
  have D2 := Aside0.mk (below_then DR3.out DR3.out.size hb)
  clear hb DR3
  have x0 := (blk_cell X.out 0).trans (show _ = some (.int .i64 1) from rfl)
  have x1 := (blk_cell X.out 1).trans (show _ = some (.int .u64 (a1 : Int)) from rfl)
  have x2 := (blk_cell X.out 2).trans (show _ = some (.int .u64 0) from rfl)
  have x3 := (blk_cell X.out 3).trans (show _ = some (.int .i64 0) from rfl)
  have x4 := (blk_cell X.out 4).trans (show _ = some (.int .i64 0) from rfl)
  have x5 := (blk_cell X.out 5).trans (show _ = some (.int .i64 0) from rfl)
  have x6 := (blk_cell X.out 6).trans (show _ = some (.string ⟨#[]⟩) from rfl)
  go_wp2
  go_ret
  refine ⟨?_, D2.out⟩
  rw [HR.out, H_sh.out]
  exact ret_str (by apply ByteArray.ext; simp [ByteArray.data_append])
set_option maxRecDepth 100000 in
set_option maxHeartbeats 8000000 in
theorem rprint_2 (a1 a3 : Nat) (w : World) (hf : (⟨2, (a1 : Int), 0, (a3 : Int), 0, 0, []⟩ : Call7).Fits) (hm : mayL (⟨2, (a1 : Int), 0, (a3 : Int), 0, 0, []⟩ : Call7) = true) (h_a1 : a1 < 18446744073709551616) (h_a3 : a3 < 9223372036854775808) :
    Calls Tryd.prog 14 #[.agg #[.int .i64 2, .int .u64 (a1 : Int), .int .u64 0, .int .i64 (a3 : Int), .int .i64 0, .int .i64 0, .string ⟨#[]⟩]] w fun e w' => e = .returned (.string ⟨(speltL (⟨2, (a1 : Int), 0, (a3 : Int), 0, 0, []⟩ : Call7)).toArray⟩) ∧ Below w.heap.size w w' := by
  have HR := Aside0.mk (show speltL (⟨2, (a1 : Int), 0, (a3 : Int), 0, 0, []⟩ : Call7) = [109, 105, 110, 116] ++ ([32] ++ Lib.decDigits a1) ++ ([32] ++ Lib.decDigits a3) from by unfold speltL; simp [itoa_nat])
  have MX : Aside0 (∀ w1 : World, Calls Tryd.prog 12 #[.agg #[.int .i64 2, .int .u64 (a1 : Int), .int .u64 0, .int .i64 (a3 : Int), .int .i64 0, .int .i64 0, .string ⟨#[]⟩]] w1 fun e w' => e = .returned (.bool true) ∧ Below w1.heap.size w1 w') := ⟨fun w1 => by have := rmay_q (⟨2, (a1 : Int), 0, (a3 : Int), 0, 0, []⟩ : Call7) hf w1; rw [hm] at this; exact this⟩
  have F_sh := fun (w1 : World) => digits_q a1 h_a1 w1
  have Z_sh := dec_small a1 (by omega)
  rw [← size_arr] at Z_sh
  obtain ⟨sh, hsh⟩ : ∃ sh : ByteArray, sh = ⟨(Lib.decDigits a1).toArray⟩ := ⟨_, rfl⟩
  rw [← hsh] at F_sh Z_sh
  replace F_sh := Aside0.mk F_sh
  have H_sh := Aside0.mk hsh
  clear hsh h_a1
  have F_sg := fun (w1 : World) => signed_q a3 h_a3 w1
  have Z_sg := dec_small a3 (by omega)
  rw [← size_arr] at Z_sg
  obtain ⟨sg, hsg⟩ : ∃ sg : ByteArray, sg = ⟨(Lib.decDigits a3).toArray⟩ := ⟨_, rfl⟩
  rw [← hsg] at F_sg Z_sg
  replace F_sg := Aside0.mk F_sg
  have H_sg := Aside0.mk hsg
  clear hsg h_a3
  clear hf hm
  have D0 := Aside0.mk (below_alloc (Below.refl w.heap.size w) (.cells #[.int .i64 2, .int .u64 (a1 : Int), .int .u64 0, .int .i64 (a3 : Int), .int .i64 0, .int .i64 0, .string ⟨#[]⟩] 24))
  have X := Aside0.mk (blk_new w (.cells #[.int .i64 2, .int .u64 (a1 : Int), .int .u64 0, .int .i64 (a3 : Int), .int .i64 0, .int .i64 0, .string ⟨#[]⟩] 24))
  go_enter Tryd.func14, Tryd.ntmps14
  go_wp2_with fail
  refine (MX.out _).mono ?_
  rintro e w1 ⟨rfl, hb⟩
  replace X := Aside0.mk ((hb.block _ (blk_lt X.out)).trans X.out)
  have D1 := Aside0.mk (below_then D0.out D0.out.size hb)
  clear hb D0
  go_wp2_with fail
  have e0 : w1.drew.cell? ⟨w.heap.size, 0, none⟩ = some (.int .i64 2) := (blk_cell X.out 0).trans rfl
  have eX : w1.drew.heap[w.heap.size]? = some (.cells #[.int .i64 2, .int .u64 (a1 : Int), .int .u64 0, .int .i64 (a3 : Int), .int .i64 0, .int .i64 0, .string ⟨#[]⟩] 24 (0, 0)) := X.out
  have eD := below_drew D1.out
  clear X D1
  refine start_ (n := 6) (S := fun w' => w'.cell? ⟨w.heap.size, 0, none⟩ = some (.int .i64 2) ∧ w'.heap[w.heap.size]? = some (.cells #[.int .i64 2, .int .u64 (a1 : Int), .int .u64 0, .int .i64 (a3 : Int), .int .i64 0, .int .i64 0, .string ⟨#[]⟩] 24 (0, 0)) ∧ Below w.heap.size w w') (ds := []) #[false, false, false, false, false, false] (by kernel_rfl) rfl rfl ⟨e0, eX, eD⟩ (fun hHeld => ?_)
  refine pure_ (i := 1) (N := some 8) (v := ?_) (a' := ?_) #[false, true, false, false, false, false] rfl rfl (by kernel_rfl) (fun _ _ _ h => h) (Or.inl ⟨by rfl, ?_⟩) ?_ ?_
  rotate_left
  · intro w'
    go_simp
    with_reducible rfl
  rotate_left
  · simp only [Act.put, List.setIfInBounds_toArray, List.set_cons_zero, List.set_cons_succ, i64_w, i32_w]
    rfl
  refine take_ (i := 2) (N := some 9) (v := ?_) (a' := ?_) #[false, true, true, false, false, false] rfl rfl (by kernel_rfl) (fun _ _ _ h => h) (Or.inl ⟨by rfl, ?_⟩) hHeld ?_ ?_
  rotate_left
  · rintro w' ⟨s0, s1, s2⟩
    go_simp
    with_reducible rfl
  rotate_left
  · simp only [Act.put, List.setIfInBounds_toArray, List.set_cons_zero, List.set_cons_succ, i64_w, i32_w]
    rfl
  refine one_ (i := 0) (N := some 7) #[true, true, true, false, false, false] rfl rfl (by kernel_rfl) (by decide) (fun K hK => ?_)
  refine goes_ Tryd.func16 (by kernel_rfl) rfl #[] (by rfl) rfl rfl (by simp only [List.map_toArray, List.map_cons, List.map_nil]) ?_
  with_reducible refine (kinds_x 2 (by decide) ⟨#[109, 105, 110, 116]⟩ rfl _).mono ?_
  rintro e v3 ⟨ad, cap, rfl, hx, hb⟩
  refine ⟨_, rfl, ?_⟩
  have HX := Aside0.mk hx
  clear hx
  refine hK.out _ _ ⟨pw_cell_below hb (hHeld.1), (hb.block _ (blk_lt (hHeld.2.1))).trans (hHeld.2.1), below_then (hHeld.2.2) (hHeld.2.2).size hb⟩ (fun hHeld => ?_)
  clear hK K
  refine norm_ (a' := ?_) ?_ ?_
  rotate_left
  · show Act.put _ (some 7) _ = _
    simp only [Act.put, List.setIfInBounds_toArray, List.set_cons_zero, List.set_cons_succ, i64_w, i32_w]
    rfl
  refine pure_ (i := 3) (N := some 10) (v := ?_) (a' := ?_) #[true, true, true, true, false, false] rfl rfl (by kernel_rfl) (fun _ _ _ h => h) (Or.inl ⟨by rfl, ?_⟩) ?_ ?_
  rotate_left
  · intro w'
    go_simp
    with_reducible rfl
  rotate_left
  · simp only [Act.put, List.setIfInBounds_toArray, List.set_cons_zero, List.set_cons_succ, i64_w, i32_w]
    rfl
  refine one_ (i := 4) (N := some 11) #[true, true, true, true, true, false] rfl rfl (by kernel_rfl) (by decide) (fun K hK => ?_)
  have hz : v3.cell? ⟨ad.block, ad.off + 2, none⟩ = some (.string ⟨#[109, 105, 110, 116]⟩) := HX.out
  refine value_ (w1 := ?_) (v := ?_) (by rfl) rfl ?_ ?_
  rotate_left 2
  · go_simp
    constructor
    · rfl
    · rfl
  clear hz
  refine hK.out _ _ ⟨hHeld.1, hHeld.2.1, hHeld.2.2⟩ (fun hHeld => ?_)
  clear hK K
  refine norm_ (a' := ?_) ?_ ?_
  rotate_left
  · show Act.put _ (some 11) _ = _
    simp only [Act.put, List.setIfInBounds_toArray, List.set_cons_zero, List.set_cons_succ, i64_w, i32_w]
    rfl
  refine pure_ (i := 5) (N := some 3) (v := ?_) (a' := ?_) #[true, true, true, true, true, true] rfl rfl (by kernel_rfl) (fun _ _ _ h => h) (Or.inl ⟨by rfl, ?_⟩) ?_ ?_
  rotate_left
  · intro w'
    go_simp
    with_reducible rfl
  rotate_left
  · simp only [Act.put, List.setIfInBounds_toArray, List.set_cons_zero, List.set_cons_succ, i64_w, i32_w]
    rfl
  refine done_ (by kernel_rfl) ?_
  have X := Aside0.mk (hHeld.2.1)
  have DR3 := Aside0.mk (hHeld.2.2)
  clear hHeld eX eD HX e0
  have x0 := (blk_cell X.out 0).trans (show _ = some (.int .i64 2) from rfl)
  have x1 := (blk_cell X.out 1).trans (show _ = some (.int .u64 (a1 : Int)) from rfl)
  have x2 := (blk_cell X.out 2).trans (show _ = some (.int .u64 0) from rfl)
  have x3 := (blk_cell X.out 3).trans (show _ = some (.int .i64 (a3 : Int)) from rfl)
  have x4 := (blk_cell X.out 4).trans (show _ = some (.int .i64 0) from rfl)
  have x5 := (blk_cell X.out 5).trans (show _ = some (.int .i64 0) from rfl)
  have x6 := (blk_cell X.out 6).trans (show _ = some (.string ⟨#[]⟩) from rfl)
  go_wp2_with fail
  clear x0 x1 x2 x3 x4 x5 x6
  refine (F_sh.out _).mono ?_
  rintro e w2 ⟨rfl, hb⟩
  replace X := Aside0.mk ((hb.block _ (blk_lt X.out)).trans X.out)
  have D2 := Aside0.mk (below_then DR3.out DR3.out.size hb)
  clear hb DR3
  have x0 := (blk_cell X.out 0).trans (show _ = some (.int .i64 2) from rfl)
  have x1 := (blk_cell X.out 1).trans (show _ = some (.int .u64 (a1 : Int)) from rfl)
  have x2 := (blk_cell X.out 2).trans (show _ = some (.int .u64 0) from rfl)
  have x3 := (blk_cell X.out 3).trans (show _ = some (.int .i64 (a3 : Int)) from rfl)
  have x4 := (blk_cell X.out 4).trans (show _ = some (.int .i64 0) from rfl)
  have x5 := (blk_cell X.out 5).trans (show _ = some (.int .i64 0) from rfl)
  have x6 := (blk_cell X.out 6).trans (show _ = some (.string ⟨#[]⟩) from rfl)
  go_wp2_with fail
  clear x0 x1 x2 x3 x4 x5 x6
  refine (F_sg.out _).mono ?_
  rintro e w3 ⟨rfl, hb⟩
  replace X := Aside0.mk ((hb.block _ (blk_lt X.out)).trans X.out)
  have D3 := Aside0.mk (below_then D2.out D2.out.size hb)
  clear hb D2
  have x0 := (blk_cell X.out 0).trans (show _ = some (.int .i64 2) from rfl)
  have x1 := (blk_cell X.out 1).trans (show _ = some (.int .u64 (a1 : Int)) from rfl)
  have x2 := (blk_cell X.out 2).trans (show _ = some (.int .u64 0) from rfl)
  have x3 := (blk_cell X.out 3).trans (show _ = some (.int .i64 (a3 : Int)) from rfl)
  have x4 := (blk_cell X.out 4).trans (show _ = some (.int .i64 0) from rfl)
  have x5 := (blk_cell X.out 5).trans (show _ = some (.int .i64 0) from rfl)
  have x6 := (blk_cell X.out 6).trans (show _ = some (.string ⟨#[]⟩) from rfl)
  go_wp2
  go_ret
  refine ⟨?_, D3.out⟩
  rw [HR.out, H_sh.out, H_sg.out]
  exact ret_str (by apply ByteArray.ext; simp [ByteArray.data_append])
set_option maxRecDepth 100000 in
set_option maxHeartbeats 8000000 in
theorem rprint_3 (a1 a2 : Nat) (w : World) (hf : (⟨3, (a1 : Int), (a2 : Int), 0, 0, 0, []⟩ : Call7).Fits) (hm : mayL (⟨3, (a1 : Int), (a2 : Int), 0, 0, 0, []⟩ : Call7) = true) (h_a1 : a1 < 18446744073709551616) (h_a2 : a2 < 18446744073709551616) :
    Calls Tryd.prog 14 #[.agg #[.int .i64 3, .int .u64 (a1 : Int), .int .u64 (a2 : Int), .int .i64 0, .int .i64 0, .int .i64 0, .string ⟨#[]⟩]] w fun e w' => e = .returned (.string ⟨(speltL (⟨3, (a1 : Int), (a2 : Int), 0, 0, 0, []⟩ : Call7)).toArray⟩) ∧ Below w.heap.size w w' := by
  have HR := Aside0.mk (show speltL (⟨3, (a1 : Int), (a2 : Int), 0, 0, 0, []⟩ : Call7) = [114, 101, 118, 111, 107, 101] ++ ([32] ++ Lib.decDigits a1) ++ ([32] ++ Lib.decDigits a2) from by unfold speltL; simp [itoa_nat])
  have MX : Aside0 (∀ w1 : World, Calls Tryd.prog 12 #[.agg #[.int .i64 3, .int .u64 (a1 : Int), .int .u64 (a2 : Int), .int .i64 0, .int .i64 0, .int .i64 0, .string ⟨#[]⟩]] w1 fun e w' => e = .returned (.bool true) ∧ Below w1.heap.size w1 w') := ⟨fun w1 => by have := rmay_q (⟨3, (a1 : Int), (a2 : Int), 0, 0, 0, []⟩ : Call7) hf w1; rw [hm] at this; exact this⟩
  have F_sh := fun (w1 : World) => digits_q a1 h_a1 w1
  have Z_sh := dec_small a1 (by omega)
  rw [← size_arr] at Z_sh
  obtain ⟨sh, hsh⟩ : ∃ sh : ByteArray, sh = ⟨(Lib.decDigits a1).toArray⟩ := ⟨_, rfl⟩
  rw [← hsh] at F_sh Z_sh
  replace F_sh := Aside0.mk F_sh
  have H_sh := Aside0.mk hsh
  clear hsh h_a1
  have F_sg := fun (w1 : World) => digits_q a2 h_a2 w1
  have Z_sg := dec_small a2 (by omega)
  rw [← size_arr] at Z_sg
  obtain ⟨sg, hsg⟩ : ∃ sg : ByteArray, sg = ⟨(Lib.decDigits a2).toArray⟩ := ⟨_, rfl⟩
  rw [← hsg] at F_sg Z_sg
  replace F_sg := Aside0.mk F_sg
  have H_sg := Aside0.mk hsg
  clear hsg h_a2
  clear hf hm
  have D0 := Aside0.mk (below_alloc (Below.refl w.heap.size w) (.cells #[.int .i64 3, .int .u64 (a1 : Int), .int .u64 (a2 : Int), .int .i64 0, .int .i64 0, .int .i64 0, .string ⟨#[]⟩] 24))
  have X := Aside0.mk (blk_new w (.cells #[.int .i64 3, .int .u64 (a1 : Int), .int .u64 (a2 : Int), .int .i64 0, .int .i64 0, .int .i64 0, .string ⟨#[]⟩] 24))
  go_enter Tryd.func14, Tryd.ntmps14
  go_wp2_with fail
  refine (MX.out _).mono ?_
  rintro e w1 ⟨rfl, hb⟩
  replace X := Aside0.mk ((hb.block _ (blk_lt X.out)).trans X.out)
  have D1 := Aside0.mk (below_then D0.out D0.out.size hb)
  clear hb D0
  go_wp2_with fail
  have e0 : w1.drew.cell? ⟨w.heap.size, 0, none⟩ = some (.int .i64 3) := (blk_cell X.out 0).trans rfl
  have eX : w1.drew.heap[w.heap.size]? = some (.cells #[.int .i64 3, .int .u64 (a1 : Int), .int .u64 (a2 : Int), .int .i64 0, .int .i64 0, .int .i64 0, .string ⟨#[]⟩] 24 (0, 0)) := X.out
  have eD := below_drew D1.out
  clear X D1
  refine start_ (n := 6) (S := fun w' => w'.cell? ⟨w.heap.size, 0, none⟩ = some (.int .i64 3) ∧ w'.heap[w.heap.size]? = some (.cells #[.int .i64 3, .int .u64 (a1 : Int), .int .u64 (a2 : Int), .int .i64 0, .int .i64 0, .int .i64 0, .string ⟨#[]⟩] 24 (0, 0)) ∧ Below w.heap.size w w') (ds := []) #[false, false, false, false, false, false] (by kernel_rfl) rfl rfl ⟨e0, eX, eD⟩ (fun hHeld => ?_)
  refine pure_ (i := 1) (N := some 8) (v := ?_) (a' := ?_) #[false, true, false, false, false, false] rfl rfl (by kernel_rfl) (fun _ _ _ h => h) (Or.inl ⟨by rfl, ?_⟩) ?_ ?_
  rotate_left
  · intro w'
    go_simp
    with_reducible rfl
  rotate_left
  · simp only [Act.put, List.setIfInBounds_toArray, List.set_cons_zero, List.set_cons_succ, i64_w, i32_w]
    rfl
  refine take_ (i := 2) (N := some 9) (v := ?_) (a' := ?_) #[false, true, true, false, false, false] rfl rfl (by kernel_rfl) (fun _ _ _ h => h) (Or.inl ⟨by rfl, ?_⟩) hHeld ?_ ?_
  rotate_left
  · rintro w' ⟨s0, s1, s2⟩
    go_simp
    with_reducible rfl
  rotate_left
  · simp only [Act.put, List.setIfInBounds_toArray, List.set_cons_zero, List.set_cons_succ, i64_w, i32_w]
    rfl
  refine one_ (i := 0) (N := some 7) #[true, true, true, false, false, false] rfl rfl (by kernel_rfl) (by decide) (fun K hK => ?_)
  refine goes_ Tryd.func16 (by kernel_rfl) rfl #[] (by rfl) rfl rfl (by simp only [List.map_toArray, List.map_cons, List.map_nil]) ?_
  with_reducible refine (kinds_x 3 (by decide) ⟨#[114, 101, 118, 111, 107, 101]⟩ rfl _).mono ?_
  rintro e v3 ⟨ad, cap, rfl, hx, hb⟩
  refine ⟨_, rfl, ?_⟩
  have HX := Aside0.mk hx
  clear hx
  refine hK.out _ _ ⟨pw_cell_below hb (hHeld.1), (hb.block _ (blk_lt (hHeld.2.1))).trans (hHeld.2.1), below_then (hHeld.2.2) (hHeld.2.2).size hb⟩ (fun hHeld => ?_)
  clear hK K
  refine norm_ (a' := ?_) ?_ ?_
  rotate_left
  · show Act.put _ (some 7) _ = _
    simp only [Act.put, List.setIfInBounds_toArray, List.set_cons_zero, List.set_cons_succ, i64_w, i32_w]
    rfl
  refine pure_ (i := 3) (N := some 10) (v := ?_) (a' := ?_) #[true, true, true, true, false, false] rfl rfl (by kernel_rfl) (fun _ _ _ h => h) (Or.inl ⟨by rfl, ?_⟩) ?_ ?_
  rotate_left
  · intro w'
    go_simp
    with_reducible rfl
  rotate_left
  · simp only [Act.put, List.setIfInBounds_toArray, List.set_cons_zero, List.set_cons_succ, i64_w, i32_w]
    rfl
  refine one_ (i := 4) (N := some 11) #[true, true, true, true, true, false] rfl rfl (by kernel_rfl) (by decide) (fun K hK => ?_)
  have hz : v3.cell? ⟨ad.block, ad.off + 3, none⟩ = some (.string ⟨#[114, 101, 118, 111, 107, 101]⟩) := HX.out
  refine value_ (w1 := ?_) (v := ?_) (by rfl) rfl ?_ ?_
  rotate_left 2
  · go_simp
    constructor
    · rfl
    · rfl
  clear hz
  refine hK.out _ _ ⟨hHeld.1, hHeld.2.1, hHeld.2.2⟩ (fun hHeld => ?_)
  clear hK K
  refine norm_ (a' := ?_) ?_ ?_
  rotate_left
  · show Act.put _ (some 11) _ = _
    simp only [Act.put, List.setIfInBounds_toArray, List.set_cons_zero, List.set_cons_succ, i64_w, i32_w]
    rfl
  refine pure_ (i := 5) (N := some 3) (v := ?_) (a' := ?_) #[true, true, true, true, true, true] rfl rfl (by kernel_rfl) (fun _ _ _ h => h) (Or.inl ⟨by rfl, ?_⟩) ?_ ?_
  rotate_left
  · intro w'
    go_simp
    with_reducible rfl
  rotate_left
  · simp only [Act.put, List.setIfInBounds_toArray, List.set_cons_zero, List.set_cons_succ, i64_w, i32_w]
    rfl
  refine done_ (by kernel_rfl) ?_
  have X := Aside0.mk (hHeld.2.1)
  have DR3 := Aside0.mk (hHeld.2.2)
  clear hHeld eX eD HX e0
  have x0 := (blk_cell X.out 0).trans (show _ = some (.int .i64 3) from rfl)
  have x1 := (blk_cell X.out 1).trans (show _ = some (.int .u64 (a1 : Int)) from rfl)
  have x2 := (blk_cell X.out 2).trans (show _ = some (.int .u64 (a2 : Int)) from rfl)
  have x3 := (blk_cell X.out 3).trans (show _ = some (.int .i64 0) from rfl)
  have x4 := (blk_cell X.out 4).trans (show _ = some (.int .i64 0) from rfl)
  have x5 := (blk_cell X.out 5).trans (show _ = some (.int .i64 0) from rfl)
  have x6 := (blk_cell X.out 6).trans (show _ = some (.string ⟨#[]⟩) from rfl)
  go_wp2_with fail
  clear x0 x1 x2 x3 x4 x5 x6
  refine (F_sh.out _).mono ?_
  rintro e w2 ⟨rfl, hb⟩
  replace X := Aside0.mk ((hb.block _ (blk_lt X.out)).trans X.out)
  have D2 := Aside0.mk (below_then DR3.out DR3.out.size hb)
  clear hb DR3
  have x0 := (blk_cell X.out 0).trans (show _ = some (.int .i64 3) from rfl)
  have x1 := (blk_cell X.out 1).trans (show _ = some (.int .u64 (a1 : Int)) from rfl)
  have x2 := (blk_cell X.out 2).trans (show _ = some (.int .u64 (a2 : Int)) from rfl)
  have x3 := (blk_cell X.out 3).trans (show _ = some (.int .i64 0) from rfl)
  have x4 := (blk_cell X.out 4).trans (show _ = some (.int .i64 0) from rfl)
  have x5 := (blk_cell X.out 5).trans (show _ = some (.int .i64 0) from rfl)
  have x6 := (blk_cell X.out 6).trans (show _ = some (.string ⟨#[]⟩) from rfl)
  go_wp2_with fail
  clear x0 x1 x2 x3 x4 x5 x6
  refine (F_sg.out _).mono ?_
  rintro e w3 ⟨rfl, hb⟩
  replace X := Aside0.mk ((hb.block _ (blk_lt X.out)).trans X.out)
  have D3 := Aside0.mk (below_then D2.out D2.out.size hb)
  clear hb D2
  have x0 := (blk_cell X.out 0).trans (show _ = some (.int .i64 3) from rfl)
  have x1 := (blk_cell X.out 1).trans (show _ = some (.int .u64 (a1 : Int)) from rfl)
  have x2 := (blk_cell X.out 2).trans (show _ = some (.int .u64 (a2 : Int)) from rfl)
  have x3 := (blk_cell X.out 3).trans (show _ = some (.int .i64 0) from rfl)
  have x4 := (blk_cell X.out 4).trans (show _ = some (.int .i64 0) from rfl)
  have x5 := (blk_cell X.out 5).trans (show _ = some (.int .i64 0) from rfl)
  have x6 := (blk_cell X.out 6).trans (show _ = some (.string ⟨#[]⟩) from rfl)
  go_wp2
  go_ret
  refine ⟨?_, D3.out⟩
  rw [HR.out, H_sh.out, H_sg.out]
  exact ret_str (by apply ByteArray.ext; simp [ByteArray.data_append])
set_option maxRecDepth 100000 in
set_option maxHeartbeats 8000000 in
theorem rprint_4 (a1 a4 : Nat) (w : World) (hf : (⟨4, (a1 : Int), 0, 0, (a4 : Int), 0, []⟩ : Call7).Fits) (hm : mayL (⟨4, (a1 : Int), 0, 0, (a4 : Int), 0, []⟩ : Call7) = true) (h_a1 : a1 < 18446744073709551616) (h_a4 : a4 < 9223372036854775808) :
    Calls Tryd.prog 14 #[.agg #[.int .i64 4, .int .u64 (a1 : Int), .int .u64 0, .int .i64 0, .int .i64 (a4 : Int), .int .i64 0, .string ⟨#[]⟩]] w fun e w' => e = .returned (.string ⟨(speltL (⟨4, (a1 : Int), 0, 0, (a4 : Int), 0, []⟩ : Call7)).toArray⟩) ∧ Below w.heap.size w w' := by
  have HR := Aside0.mk (show speltL (⟨4, (a1 : Int), 0, 0, (a4 : Int), 0, []⟩ : Call7) = [106, 111, 105, 110] ++ ([32] ++ Lib.decDigits a1) ++ ([32] ++ Lib.decDigits a4) from by unfold speltL; simp [itoa_nat])
  have MX : Aside0 (∀ w1 : World, Calls Tryd.prog 12 #[.agg #[.int .i64 4, .int .u64 (a1 : Int), .int .u64 0, .int .i64 0, .int .i64 (a4 : Int), .int .i64 0, .string ⟨#[]⟩]] w1 fun e w' => e = .returned (.bool true) ∧ Below w1.heap.size w1 w') := ⟨fun w1 => by have := rmay_q (⟨4, (a1 : Int), 0, 0, (a4 : Int), 0, []⟩ : Call7) hf w1; rw [hm] at this; exact this⟩
  have F_sh := fun (w1 : World) => digits_q a1 h_a1 w1
  have Z_sh := dec_small a1 (by omega)
  rw [← size_arr] at Z_sh
  obtain ⟨sh, hsh⟩ : ∃ sh : ByteArray, sh = ⟨(Lib.decDigits a1).toArray⟩ := ⟨_, rfl⟩
  rw [← hsh] at F_sh Z_sh
  replace F_sh := Aside0.mk F_sh
  have H_sh := Aside0.mk hsh
  clear hsh h_a1
  have F_sg := fun (w1 : World) => signed_q a4 h_a4 w1
  have Z_sg := dec_small a4 (by omega)
  rw [← size_arr] at Z_sg
  obtain ⟨sg, hsg⟩ : ∃ sg : ByteArray, sg = ⟨(Lib.decDigits a4).toArray⟩ := ⟨_, rfl⟩
  rw [← hsg] at F_sg Z_sg
  replace F_sg := Aside0.mk F_sg
  have H_sg := Aside0.mk hsg
  clear hsg h_a4
  clear hf hm
  have D0 := Aside0.mk (below_alloc (Below.refl w.heap.size w) (.cells #[.int .i64 4, .int .u64 (a1 : Int), .int .u64 0, .int .i64 0, .int .i64 (a4 : Int), .int .i64 0, .string ⟨#[]⟩] 24))
  have X := Aside0.mk (blk_new w (.cells #[.int .i64 4, .int .u64 (a1 : Int), .int .u64 0, .int .i64 0, .int .i64 (a4 : Int), .int .i64 0, .string ⟨#[]⟩] 24))
  go_enter Tryd.func14, Tryd.ntmps14
  go_wp2_with fail
  refine (MX.out _).mono ?_
  rintro e w1 ⟨rfl, hb⟩
  replace X := Aside0.mk ((hb.block _ (blk_lt X.out)).trans X.out)
  have D1 := Aside0.mk (below_then D0.out D0.out.size hb)
  clear hb D0
  go_wp2_with fail
  have e0 : w1.drew.cell? ⟨w.heap.size, 0, none⟩ = some (.int .i64 4) := (blk_cell X.out 0).trans rfl
  have eX : w1.drew.heap[w.heap.size]? = some (.cells #[.int .i64 4, .int .u64 (a1 : Int), .int .u64 0, .int .i64 0, .int .i64 (a4 : Int), .int .i64 0, .string ⟨#[]⟩] 24 (0, 0)) := X.out
  have eD := below_drew D1.out
  clear X D1
  refine start_ (n := 6) (S := fun w' => w'.cell? ⟨w.heap.size, 0, none⟩ = some (.int .i64 4) ∧ w'.heap[w.heap.size]? = some (.cells #[.int .i64 4, .int .u64 (a1 : Int), .int .u64 0, .int .i64 0, .int .i64 (a4 : Int), .int .i64 0, .string ⟨#[]⟩] 24 (0, 0)) ∧ Below w.heap.size w w') (ds := []) #[false, false, false, false, false, false] (by kernel_rfl) rfl rfl ⟨e0, eX, eD⟩ (fun hHeld => ?_)
  refine pure_ (i := 1) (N := some 8) (v := ?_) (a' := ?_) #[false, true, false, false, false, false] rfl rfl (by kernel_rfl) (fun _ _ _ h => h) (Or.inl ⟨by rfl, ?_⟩) ?_ ?_
  rotate_left
  · intro w'
    go_simp
    with_reducible rfl
  rotate_left
  · simp only [Act.put, List.setIfInBounds_toArray, List.set_cons_zero, List.set_cons_succ, i64_w, i32_w]
    rfl
  refine take_ (i := 2) (N := some 9) (v := ?_) (a' := ?_) #[false, true, true, false, false, false] rfl rfl (by kernel_rfl) (fun _ _ _ h => h) (Or.inl ⟨by rfl, ?_⟩) hHeld ?_ ?_
  rotate_left
  · rintro w' ⟨s0, s1, s2⟩
    go_simp
    with_reducible rfl
  rotate_left
  · simp only [Act.put, List.setIfInBounds_toArray, List.set_cons_zero, List.set_cons_succ, i64_w, i32_w]
    rfl
  refine one_ (i := 0) (N := some 7) #[true, true, true, false, false, false] rfl rfl (by kernel_rfl) (by decide) (fun K hK => ?_)
  refine goes_ Tryd.func16 (by kernel_rfl) rfl #[] (by rfl) rfl rfl (by simp only [List.map_toArray, List.map_cons, List.map_nil]) ?_
  with_reducible refine (kinds_x 4 (by decide) ⟨#[106, 111, 105, 110]⟩ rfl _).mono ?_
  rintro e v3 ⟨ad, cap, rfl, hx, hb⟩
  refine ⟨_, rfl, ?_⟩
  have HX := Aside0.mk hx
  clear hx
  refine hK.out _ _ ⟨pw_cell_below hb (hHeld.1), (hb.block _ (blk_lt (hHeld.2.1))).trans (hHeld.2.1), below_then (hHeld.2.2) (hHeld.2.2).size hb⟩ (fun hHeld => ?_)
  clear hK K
  refine norm_ (a' := ?_) ?_ ?_
  rotate_left
  · show Act.put _ (some 7) _ = _
    simp only [Act.put, List.setIfInBounds_toArray, List.set_cons_zero, List.set_cons_succ, i64_w, i32_w]
    rfl
  refine pure_ (i := 3) (N := some 10) (v := ?_) (a' := ?_) #[true, true, true, true, false, false] rfl rfl (by kernel_rfl) (fun _ _ _ h => h) (Or.inl ⟨by rfl, ?_⟩) ?_ ?_
  rotate_left
  · intro w'
    go_simp
    with_reducible rfl
  rotate_left
  · simp only [Act.put, List.setIfInBounds_toArray, List.set_cons_zero, List.set_cons_succ, i64_w, i32_w]
    rfl
  refine one_ (i := 4) (N := some 11) #[true, true, true, true, true, false] rfl rfl (by kernel_rfl) (by decide) (fun K hK => ?_)
  have hz : v3.cell? ⟨ad.block, ad.off + 4, none⟩ = some (.string ⟨#[106, 111, 105, 110]⟩) := HX.out
  refine value_ (w1 := ?_) (v := ?_) (by rfl) rfl ?_ ?_
  rotate_left 2
  · go_simp
    constructor
    · rfl
    · rfl
  clear hz
  refine hK.out _ _ ⟨hHeld.1, hHeld.2.1, hHeld.2.2⟩ (fun hHeld => ?_)
  clear hK K
  refine norm_ (a' := ?_) ?_ ?_
  rotate_left
  · show Act.put _ (some 11) _ = _
    simp only [Act.put, List.setIfInBounds_toArray, List.set_cons_zero, List.set_cons_succ, i64_w, i32_w]
    rfl
  refine pure_ (i := 5) (N := some 3) (v := ?_) (a' := ?_) #[true, true, true, true, true, true] rfl rfl (by kernel_rfl) (fun _ _ _ h => h) (Or.inl ⟨by rfl, ?_⟩) ?_ ?_
  rotate_left
  · intro w'
    go_simp
    with_reducible rfl
  rotate_left
  · simp only [Act.put, List.setIfInBounds_toArray, List.set_cons_zero, List.set_cons_succ, i64_w, i32_w]
    rfl
  refine done_ (by kernel_rfl) ?_
  have X := Aside0.mk (hHeld.2.1)
  have DR3 := Aside0.mk (hHeld.2.2)
  clear hHeld eX eD HX e0
  have x0 := (blk_cell X.out 0).trans (show _ = some (.int .i64 4) from rfl)
  have x1 := (blk_cell X.out 1).trans (show _ = some (.int .u64 (a1 : Int)) from rfl)
  have x2 := (blk_cell X.out 2).trans (show _ = some (.int .u64 0) from rfl)
  have x3 := (blk_cell X.out 3).trans (show _ = some (.int .i64 0) from rfl)
  have x4 := (blk_cell X.out 4).trans (show _ = some (.int .i64 (a4 : Int)) from rfl)
  have x5 := (blk_cell X.out 5).trans (show _ = some (.int .i64 0) from rfl)
  have x6 := (blk_cell X.out 6).trans (show _ = some (.string ⟨#[]⟩) from rfl)
  go_wp2_with fail
  clear x0 x1 x2 x3 x4 x5 x6
  refine (F_sh.out _).mono ?_
  rintro e w2 ⟨rfl, hb⟩
  replace X := Aside0.mk ((hb.block _ (blk_lt X.out)).trans X.out)
  have D2 := Aside0.mk (below_then DR3.out DR3.out.size hb)
  clear hb DR3
  have x0 := (blk_cell X.out 0).trans (show _ = some (.int .i64 4) from rfl)
  have x1 := (blk_cell X.out 1).trans (show _ = some (.int .u64 (a1 : Int)) from rfl)
  have x2 := (blk_cell X.out 2).trans (show _ = some (.int .u64 0) from rfl)
  have x3 := (blk_cell X.out 3).trans (show _ = some (.int .i64 0) from rfl)
  have x4 := (blk_cell X.out 4).trans (show _ = some (.int .i64 (a4 : Int)) from rfl)
  have x5 := (blk_cell X.out 5).trans (show _ = some (.int .i64 0) from rfl)
  have x6 := (blk_cell X.out 6).trans (show _ = some (.string ⟨#[]⟩) from rfl)
  go_wp2_with fail
  clear x0 x1 x2 x3 x4 x5 x6
  refine (F_sg.out _).mono ?_
  rintro e w3 ⟨rfl, hb⟩
  replace X := Aside0.mk ((hb.block _ (blk_lt X.out)).trans X.out)
  have D3 := Aside0.mk (below_then D2.out D2.out.size hb)
  clear hb D2
  have x0 := (blk_cell X.out 0).trans (show _ = some (.int .i64 4) from rfl)
  have x1 := (blk_cell X.out 1).trans (show _ = some (.int .u64 (a1 : Int)) from rfl)
  have x2 := (blk_cell X.out 2).trans (show _ = some (.int .u64 0) from rfl)
  have x3 := (blk_cell X.out 3).trans (show _ = some (.int .i64 0) from rfl)
  have x4 := (blk_cell X.out 4).trans (show _ = some (.int .i64 (a4 : Int)) from rfl)
  have x5 := (blk_cell X.out 5).trans (show _ = some (.int .i64 0) from rfl)
  have x6 := (blk_cell X.out 6).trans (show _ = some (.string ⟨#[]⟩) from rfl)
  go_wp2
  go_ret
  refine ⟨?_, D3.out⟩
  rw [HR.out, H_sh.out, H_sg.out]
  exact ret_str (by apply ByteArray.ext; simp [ByteArray.data_append])
set_option maxRecDepth 100000 in
set_option maxHeartbeats 8000000 in
theorem rprint_5 (a1 a4 : Nat) (w : World) (hf : (⟨5, (a1 : Int), 0, 0, (a4 : Int), 0, []⟩ : Call7).Fits) (hm : mayL (⟨5, (a1 : Int), 0, 0, (a4 : Int), 0, []⟩ : Call7) = true) (h_a1 : a1 < 18446744073709551616) (h_a4 : a4 < 9223372036854775808) :
    Calls Tryd.prog 14 #[.agg #[.int .i64 5, .int .u64 (a1 : Int), .int .u64 0, .int .i64 0, .int .i64 (a4 : Int), .int .i64 0, .string ⟨#[]⟩]] w fun e w' => e = .returned (.string ⟨(speltL (⟨5, (a1 : Int), 0, 0, (a4 : Int), 0, []⟩ : Call7)).toArray⟩) ∧ Below w.heap.size w w' := by
  have HR := Aside0.mk (show speltL (⟨5, (a1 : Int), 0, 0, (a4 : Int), 0, []⟩ : Call7) = [108, 101, 97, 118, 101] ++ ([32] ++ Lib.decDigits a1) ++ ([32] ++ Lib.decDigits a4) from by unfold speltL; simp [itoa_nat])
  have MX : Aside0 (∀ w1 : World, Calls Tryd.prog 12 #[.agg #[.int .i64 5, .int .u64 (a1 : Int), .int .u64 0, .int .i64 0, .int .i64 (a4 : Int), .int .i64 0, .string ⟨#[]⟩]] w1 fun e w' => e = .returned (.bool true) ∧ Below w1.heap.size w1 w') := ⟨fun w1 => by have := rmay_q (⟨5, (a1 : Int), 0, 0, (a4 : Int), 0, []⟩ : Call7) hf w1; rw [hm] at this; exact this⟩
  have F_sh := fun (w1 : World) => digits_q a1 h_a1 w1
  have Z_sh := dec_small a1 (by omega)
  rw [← size_arr] at Z_sh
  obtain ⟨sh, hsh⟩ : ∃ sh : ByteArray, sh = ⟨(Lib.decDigits a1).toArray⟩ := ⟨_, rfl⟩
  rw [← hsh] at F_sh Z_sh
  replace F_sh := Aside0.mk F_sh
  have H_sh := Aside0.mk hsh
  clear hsh h_a1
  have F_sg := fun (w1 : World) => signed_q a4 h_a4 w1
  have Z_sg := dec_small a4 (by omega)
  rw [← size_arr] at Z_sg
  obtain ⟨sg, hsg⟩ : ∃ sg : ByteArray, sg = ⟨(Lib.decDigits a4).toArray⟩ := ⟨_, rfl⟩
  rw [← hsg] at F_sg Z_sg
  replace F_sg := Aside0.mk F_sg
  have H_sg := Aside0.mk hsg
  clear hsg h_a4
  clear hf hm
  have D0 := Aside0.mk (below_alloc (Below.refl w.heap.size w) (.cells #[.int .i64 5, .int .u64 (a1 : Int), .int .u64 0, .int .i64 0, .int .i64 (a4 : Int), .int .i64 0, .string ⟨#[]⟩] 24))
  have X := Aside0.mk (blk_new w (.cells #[.int .i64 5, .int .u64 (a1 : Int), .int .u64 0, .int .i64 0, .int .i64 (a4 : Int), .int .i64 0, .string ⟨#[]⟩] 24))
  go_enter Tryd.func14, Tryd.ntmps14
  go_wp2_with fail
  refine (MX.out _).mono ?_
  rintro e w1 ⟨rfl, hb⟩
  replace X := Aside0.mk ((hb.block _ (blk_lt X.out)).trans X.out)
  have D1 := Aside0.mk (below_then D0.out D0.out.size hb)
  clear hb D0
  go_wp2_with fail
  have e0 : w1.drew.cell? ⟨w.heap.size, 0, none⟩ = some (.int .i64 5) := (blk_cell X.out 0).trans rfl
  have eX : w1.drew.heap[w.heap.size]? = some (.cells #[.int .i64 5, .int .u64 (a1 : Int), .int .u64 0, .int .i64 0, .int .i64 (a4 : Int), .int .i64 0, .string ⟨#[]⟩] 24 (0, 0)) := X.out
  have eD := below_drew D1.out
  clear X D1
  refine start_ (n := 6) (S := fun w' => w'.cell? ⟨w.heap.size, 0, none⟩ = some (.int .i64 5) ∧ w'.heap[w.heap.size]? = some (.cells #[.int .i64 5, .int .u64 (a1 : Int), .int .u64 0, .int .i64 0, .int .i64 (a4 : Int), .int .i64 0, .string ⟨#[]⟩] 24 (0, 0)) ∧ Below w.heap.size w w') (ds := []) #[false, false, false, false, false, false] (by kernel_rfl) rfl rfl ⟨e0, eX, eD⟩ (fun hHeld => ?_)
  refine pure_ (i := 1) (N := some 8) (v := ?_) (a' := ?_) #[false, true, false, false, false, false] rfl rfl (by kernel_rfl) (fun _ _ _ h => h) (Or.inl ⟨by rfl, ?_⟩) ?_ ?_
  rotate_left
  · intro w'
    go_simp
    with_reducible rfl
  rotate_left
  · simp only [Act.put, List.setIfInBounds_toArray, List.set_cons_zero, List.set_cons_succ, i64_w, i32_w]
    rfl
  refine take_ (i := 2) (N := some 9) (v := ?_) (a' := ?_) #[false, true, true, false, false, false] rfl rfl (by kernel_rfl) (fun _ _ _ h => h) (Or.inl ⟨by rfl, ?_⟩) hHeld ?_ ?_
  rotate_left
  · rintro w' ⟨s0, s1, s2⟩
    go_simp
    with_reducible rfl
  rotate_left
  · simp only [Act.put, List.setIfInBounds_toArray, List.set_cons_zero, List.set_cons_succ, i64_w, i32_w]
    rfl
  refine one_ (i := 0) (N := some 7) #[true, true, true, false, false, false] rfl rfl (by kernel_rfl) (by decide) (fun K hK => ?_)
  refine goes_ Tryd.func16 (by kernel_rfl) rfl #[] (by rfl) rfl rfl (by simp only [List.map_toArray, List.map_cons, List.map_nil]) ?_
  with_reducible refine (kinds_x 5 (by decide) ⟨#[108, 101, 97, 118, 101]⟩ rfl _).mono ?_
  rintro e v3 ⟨ad, cap, rfl, hx, hb⟩
  refine ⟨_, rfl, ?_⟩
  have HX := Aside0.mk hx
  clear hx
  refine hK.out _ _ ⟨pw_cell_below hb (hHeld.1), (hb.block _ (blk_lt (hHeld.2.1))).trans (hHeld.2.1), below_then (hHeld.2.2) (hHeld.2.2).size hb⟩ (fun hHeld => ?_)
  clear hK K
  refine norm_ (a' := ?_) ?_ ?_
  rotate_left
  · show Act.put _ (some 7) _ = _
    simp only [Act.put, List.setIfInBounds_toArray, List.set_cons_zero, List.set_cons_succ, i64_w, i32_w]
    rfl
  refine pure_ (i := 3) (N := some 10) (v := ?_) (a' := ?_) #[true, true, true, true, false, false] rfl rfl (by kernel_rfl) (fun _ _ _ h => h) (Or.inl ⟨by rfl, ?_⟩) ?_ ?_
  rotate_left
  · intro w'
    go_simp
    with_reducible rfl
  rotate_left
  · simp only [Act.put, List.setIfInBounds_toArray, List.set_cons_zero, List.set_cons_succ, i64_w, i32_w]
    rfl
  refine one_ (i := 4) (N := some 11) #[true, true, true, true, true, false] rfl rfl (by kernel_rfl) (by decide) (fun K hK => ?_)
  have hz : v3.cell? ⟨ad.block, ad.off + 5, none⟩ = some (.string ⟨#[108, 101, 97, 118, 101]⟩) := HX.out
  refine value_ (w1 := ?_) (v := ?_) (by rfl) rfl ?_ ?_
  rotate_left 2
  · go_simp
    constructor
    · rfl
    · rfl
  clear hz
  refine hK.out _ _ ⟨hHeld.1, hHeld.2.1, hHeld.2.2⟩ (fun hHeld => ?_)
  clear hK K
  refine norm_ (a' := ?_) ?_ ?_
  rotate_left
  · show Act.put _ (some 11) _ = _
    simp only [Act.put, List.setIfInBounds_toArray, List.set_cons_zero, List.set_cons_succ, i64_w, i32_w]
    rfl
  refine pure_ (i := 5) (N := some 3) (v := ?_) (a' := ?_) #[true, true, true, true, true, true] rfl rfl (by kernel_rfl) (fun _ _ _ h => h) (Or.inl ⟨by rfl, ?_⟩) ?_ ?_
  rotate_left
  · intro w'
    go_simp
    with_reducible rfl
  rotate_left
  · simp only [Act.put, List.setIfInBounds_toArray, List.set_cons_zero, List.set_cons_succ, i64_w, i32_w]
    rfl
  refine done_ (by kernel_rfl) ?_
  have X := Aside0.mk (hHeld.2.1)
  have DR3 := Aside0.mk (hHeld.2.2)
  clear hHeld eX eD HX e0
  have x0 := (blk_cell X.out 0).trans (show _ = some (.int .i64 5) from rfl)
  have x1 := (blk_cell X.out 1).trans (show _ = some (.int .u64 (a1 : Int)) from rfl)
  have x2 := (blk_cell X.out 2).trans (show _ = some (.int .u64 0) from rfl)
  have x3 := (blk_cell X.out 3).trans (show _ = some (.int .i64 0) from rfl)
  have x4 := (blk_cell X.out 4).trans (show _ = some (.int .i64 (a4 : Int)) from rfl)
  have x5 := (blk_cell X.out 5).trans (show _ = some (.int .i64 0) from rfl)
  have x6 := (blk_cell X.out 6).trans (show _ = some (.string ⟨#[]⟩) from rfl)
  go_wp2_with fail
  clear x0 x1 x2 x3 x4 x5 x6
  refine (F_sh.out _).mono ?_
  rintro e w2 ⟨rfl, hb⟩
  replace X := Aside0.mk ((hb.block _ (blk_lt X.out)).trans X.out)
  have D2 := Aside0.mk (below_then DR3.out DR3.out.size hb)
  clear hb DR3
  have x0 := (blk_cell X.out 0).trans (show _ = some (.int .i64 5) from rfl)
  have x1 := (blk_cell X.out 1).trans (show _ = some (.int .u64 (a1 : Int)) from rfl)
  have x2 := (blk_cell X.out 2).trans (show _ = some (.int .u64 0) from rfl)
  have x3 := (blk_cell X.out 3).trans (show _ = some (.int .i64 0) from rfl)
  have x4 := (blk_cell X.out 4).trans (show _ = some (.int .i64 (a4 : Int)) from rfl)
  have x5 := (blk_cell X.out 5).trans (show _ = some (.int .i64 0) from rfl)
  have x6 := (blk_cell X.out 6).trans (show _ = some (.string ⟨#[]⟩) from rfl)
  go_wp2_with fail
  clear x0 x1 x2 x3 x4 x5 x6
  refine (F_sg.out _).mono ?_
  rintro e w3 ⟨rfl, hb⟩
  replace X := Aside0.mk ((hb.block _ (blk_lt X.out)).trans X.out)
  have D3 := Aside0.mk (below_then D2.out D2.out.size hb)
  clear hb D2
  have x0 := (blk_cell X.out 0).trans (show _ = some (.int .i64 5) from rfl)
  have x1 := (blk_cell X.out 1).trans (show _ = some (.int .u64 (a1 : Int)) from rfl)
  have x2 := (blk_cell X.out 2).trans (show _ = some (.int .u64 0) from rfl)
  have x3 := (blk_cell X.out 3).trans (show _ = some (.int .i64 0) from rfl)
  have x4 := (blk_cell X.out 4).trans (show _ = some (.int .i64 (a4 : Int)) from rfl)
  have x5 := (blk_cell X.out 5).trans (show _ = some (.int .i64 0) from rfl)
  have x6 := (blk_cell X.out 6).trans (show _ = some (.string ⟨#[]⟩) from rfl)
  go_wp2
  go_ret
  refine ⟨?_, D3.out⟩
  rw [HR.out, H_sh.out, H_sg.out]
  exact ret_str (by apply ByteArray.ext; simp [ByteArray.data_append])
set_option maxRecDepth 100000 in
set_option maxHeartbeats 8000000 in
theorem rprint_60 (a1 a4 : Nat) (a6 : List UInt8) (w : World) (hf : (⟨6, (a1 : Int), 0, 0, (a4 : Int), 0, a6⟩ : Call7).Fits) (hm : mayL (⟨6, (a1 : Int), 0, 0, (a4 : Int), 0, a6⟩ : Call7) = true) (h_a1 : a1 < 18446744073709551616) (h_a4 : a4 < 9223372036854775808) :
    Calls Tryd.prog 14 #[.agg #[.int .i64 6, .int .u64 (a1 : Int), .int .u64 0, .int .i64 0, .int .i64 (a4 : Int), .int .i64 0, .string ⟨a6.toArray⟩]] w fun e w' => e = .returned (.string ⟨(speltL (⟨6, (a1 : Int), 0, 0, (a4 : Int), 0, a6⟩ : Call7)).toArray⟩) ∧ Below w.heap.size w w' := by
  have HR := Aside0.mk (show speltL (⟨6, (a1 : Int), 0, 0, (a4 : Int), 0, a6⟩ : Call7) = [115, 101, 110, 100] ++ ([32] ++ Lib.decDigits a1) ++ ([32] ++ Lib.decDigits a4) ++ ([32] ++ [102, 105, 102, 111] ++ [32, 61] ++ a6) from by unfold speltL; simp [itoa_nat, svcName])
  have MX : Aside0 (∀ w1 : World, Calls Tryd.prog 12 #[.agg #[.int .i64 6, .int .u64 (a1 : Int), .int .u64 0, .int .i64 0, .int .i64 (a4 : Int), .int .i64 0, .string ⟨a6.toArray⟩]] w1 fun e w' => e = .returned (.bool true) ∧ Below w1.heap.size w1 w') := ⟨fun w1 => by have := rmay_q (⟨6, (a1 : Int), 0, 0, (a4 : Int), 0, a6⟩ : Call7) hf w1; rw [hm] at this; exact this⟩
  have ZT : (⟨a6.toArray⟩ : ByteArray).size ≤ 140737488351232 := by rw [size_arr]; exact hf.txt
  obtain ⟨st, hst⟩ : ∃ st : ByteArray, st = ⟨a6.toArray⟩ := ⟨_, rfl⟩
  rw [← hst] at ZT MX
  rw [← hst]
  have HST := Aside0.mk hst
  clear hst
  have F_sh := fun (w1 : World) => digits_q a1 h_a1 w1
  have Z_sh := dec_small a1 (by omega)
  rw [← size_arr] at Z_sh
  obtain ⟨sh, hsh⟩ : ∃ sh : ByteArray, sh = ⟨(Lib.decDigits a1).toArray⟩ := ⟨_, rfl⟩
  rw [← hsh] at F_sh Z_sh
  replace F_sh := Aside0.mk F_sh
  have H_sh := Aside0.mk hsh
  clear hsh h_a1
  have F_sg := fun (w1 : World) => signed_q a4 h_a4 w1
  have Z_sg := dec_small a4 (by omega)
  rw [← size_arr] at Z_sg
  obtain ⟨sg, hsg⟩ : ∃ sg : ByteArray, sg = ⟨(Lib.decDigits a4).toArray⟩ := ⟨_, rfl⟩
  rw [← hsg] at F_sg Z_sg
  replace F_sg := Aside0.mk F_sg
  have H_sg := Aside0.mk hsg
  clear hsg h_a4
  clear hf hm
  have D0 := Aside0.mk (below_alloc (Below.refl w.heap.size w) (.cells #[.int .i64 6, .int .u64 (a1 : Int), .int .u64 0, .int .i64 0, .int .i64 (a4 : Int), .int .i64 0, .string st] 24))
  have X := Aside0.mk (blk_new w (.cells #[.int .i64 6, .int .u64 (a1 : Int), .int .u64 0, .int .i64 0, .int .i64 (a4 : Int), .int .i64 0, .string st] 24))
  go_enter Tryd.func14, Tryd.ntmps14
  go_wp2_with fail
  refine (MX.out _).mono ?_
  rintro e w1 ⟨rfl, hb⟩
  replace X := Aside0.mk ((hb.block _ (blk_lt X.out)).trans X.out)
  have D1 := Aside0.mk (below_then D0.out D0.out.size hb)
  clear hb D0
  go_wp2_with fail
  have e0 : w1.drew.cell? ⟨w.heap.size, 0, none⟩ = some (.int .i64 6) := (blk_cell X.out 0).trans rfl
  have eX : w1.drew.heap[w.heap.size]? = some (.cells #[.int .i64 6, .int .u64 (a1 : Int), .int .u64 0, .int .i64 0, .int .i64 (a4 : Int), .int .i64 0, .string st] 24 (0, 0)) := X.out
  have eD := below_drew D1.out
  clear X D1
  refine start_ (n := 6) (S := fun w' => w'.cell? ⟨w.heap.size, 0, none⟩ = some (.int .i64 6) ∧ w'.heap[w.heap.size]? = some (.cells #[.int .i64 6, .int .u64 (a1 : Int), .int .u64 0, .int .i64 0, .int .i64 (a4 : Int), .int .i64 0, .string st] 24 (0, 0)) ∧ Below w.heap.size w w') (ds := []) #[false, false, false, false, false, false] (by kernel_rfl) rfl rfl ⟨e0, eX, eD⟩ (fun hHeld => ?_)
  refine pure_ (i := 1) (N := some 8) (v := ?_) (a' := ?_) #[false, true, false, false, false, false] rfl rfl (by kernel_rfl) (fun _ _ _ h => h) (Or.inl ⟨by rfl, ?_⟩) ?_ ?_
  rotate_left
  · intro w'
    go_simp
    with_reducible rfl
  rotate_left
  · simp only [Act.put, List.setIfInBounds_toArray, List.set_cons_zero, List.set_cons_succ, i64_w, i32_w]
    rfl
  refine take_ (i := 2) (N := some 9) (v := ?_) (a' := ?_) #[false, true, true, false, false, false] rfl rfl (by kernel_rfl) (fun _ _ _ h => h) (Or.inl ⟨by rfl, ?_⟩) hHeld ?_ ?_
  rotate_left
  · rintro w' ⟨s0, s1, s2⟩
    go_simp
    with_reducible rfl
  rotate_left
  · simp only [Act.put, List.setIfInBounds_toArray, List.set_cons_zero, List.set_cons_succ, i64_w, i32_w]
    rfl
  refine one_ (i := 0) (N := some 7) #[true, true, true, false, false, false] rfl rfl (by kernel_rfl) (by decide) (fun K hK => ?_)
  refine goes_ Tryd.func16 (by kernel_rfl) rfl #[] (by rfl) rfl rfl (by simp only [List.map_toArray, List.map_cons, List.map_nil]) ?_
  with_reducible refine (kinds_x 6 (by decide) ⟨#[115, 101, 110, 100]⟩ rfl _).mono ?_
  rintro e v3 ⟨ad, cap, rfl, hx, hb⟩
  refine ⟨_, rfl, ?_⟩
  have HX := Aside0.mk hx
  clear hx
  refine hK.out _ _ ⟨pw_cell_below hb (hHeld.1), (hb.block _ (blk_lt (hHeld.2.1))).trans (hHeld.2.1), below_then (hHeld.2.2) (hHeld.2.2).size hb⟩ (fun hHeld => ?_)
  clear hK K
  refine norm_ (a' := ?_) ?_ ?_
  rotate_left
  · show Act.put _ (some 7) _ = _
    simp only [Act.put, List.setIfInBounds_toArray, List.set_cons_zero, List.set_cons_succ, i64_w, i32_w]
    rfl
  refine pure_ (i := 3) (N := some 10) (v := ?_) (a' := ?_) #[true, true, true, true, false, false] rfl rfl (by kernel_rfl) (fun _ _ _ h => h) (Or.inl ⟨by rfl, ?_⟩) ?_ ?_
  rotate_left
  · intro w'
    go_simp
    with_reducible rfl
  rotate_left
  · simp only [Act.put, List.setIfInBounds_toArray, List.set_cons_zero, List.set_cons_succ, i64_w, i32_w]
    rfl
  refine one_ (i := 4) (N := some 11) #[true, true, true, true, true, false] rfl rfl (by kernel_rfl) (by decide) (fun K hK => ?_)
  have hz : v3.cell? ⟨ad.block, ad.off + 6, none⟩ = some (.string ⟨#[115, 101, 110, 100]⟩) := HX.out
  refine value_ (w1 := ?_) (v := ?_) (by rfl) rfl ?_ ?_
  rotate_left 2
  · go_simp
    constructor
    · rfl
    · rfl
  clear hz
  refine hK.out _ _ ⟨hHeld.1, hHeld.2.1, hHeld.2.2⟩ (fun hHeld => ?_)
  clear hK K
  refine norm_ (a' := ?_) ?_ ?_
  rotate_left
  · show Act.put _ (some 11) _ = _
    simp only [Act.put, List.setIfInBounds_toArray, List.set_cons_zero, List.set_cons_succ, i64_w, i32_w]
    rfl
  refine pure_ (i := 5) (N := some 3) (v := ?_) (a' := ?_) #[true, true, true, true, true, true] rfl rfl (by kernel_rfl) (fun _ _ _ h => h) (Or.inl ⟨by rfl, ?_⟩) ?_ ?_
  rotate_left
  · intro w'
    go_simp
    with_reducible rfl
  rotate_left
  · simp only [Act.put, List.setIfInBounds_toArray, List.set_cons_zero, List.set_cons_succ, i64_w, i32_w]
    rfl
  refine done_ (by kernel_rfl) ?_
  have X := Aside0.mk (hHeld.2.1)
  have DR3 := Aside0.mk (hHeld.2.2)
  clear hHeld eX eD HX e0
  have x0 := (blk_cell X.out 0).trans (show _ = some (.int .i64 6) from rfl)
  have x1 := (blk_cell X.out 1).trans (show _ = some (.int .u64 (a1 : Int)) from rfl)
  have x2 := (blk_cell X.out 2).trans (show _ = some (.int .u64 0) from rfl)
  have x3 := (blk_cell X.out 3).trans (show _ = some (.int .i64 0) from rfl)
  have x4 := (blk_cell X.out 4).trans (show _ = some (.int .i64 (a4 : Int)) from rfl)
  have x5 := (blk_cell X.out 5).trans (show _ = some (.int .i64 0) from rfl)
  have x6 := (blk_cell X.out 6).trans (show _ = some (.string st) from rfl)
  go_wp2_with fail
  clear x0 x1 x2 x3 x4 x5 x6
  refine (F_sh.out _).mono ?_
  rintro e w2 ⟨rfl, hb⟩
  replace X := Aside0.mk ((hb.block _ (blk_lt X.out)).trans X.out)
  have D2 := Aside0.mk (below_then DR3.out DR3.out.size hb)
  clear hb DR3
  have x0 := (blk_cell X.out 0).trans (show _ = some (.int .i64 6) from rfl)
  have x1 := (blk_cell X.out 1).trans (show _ = some (.int .u64 (a1 : Int)) from rfl)
  have x2 := (blk_cell X.out 2).trans (show _ = some (.int .u64 0) from rfl)
  have x3 := (blk_cell X.out 3).trans (show _ = some (.int .i64 0) from rfl)
  have x4 := (blk_cell X.out 4).trans (show _ = some (.int .i64 (a4 : Int)) from rfl)
  have x5 := (blk_cell X.out 5).trans (show _ = some (.int .i64 0) from rfl)
  have x6 := (blk_cell X.out 6).trans (show _ = some (.string st) from rfl)
  go_wp2_with fail
  clear x0 x1 x2 x3 x4 x5 x6
  refine (F_sg.out _).mono ?_
  rintro e w3 ⟨rfl, hb⟩
  replace X := Aside0.mk ((hb.block _ (blk_lt X.out)).trans X.out)
  have D3 := Aside0.mk (below_then D2.out D2.out.size hb)
  clear hb D2
  have x0 := (blk_cell X.out 0).trans (show _ = some (.int .i64 6) from rfl)
  have x1 := (blk_cell X.out 1).trans (show _ = some (.int .u64 (a1 : Int)) from rfl)
  have x2 := (blk_cell X.out 2).trans (show _ = some (.int .u64 0) from rfl)
  have x3 := (blk_cell X.out 3).trans (show _ = some (.int .i64 0) from rfl)
  have x4 := (blk_cell X.out 4).trans (show _ = some (.int .i64 (a4 : Int)) from rfl)
  have x5 := (blk_cell X.out 5).trans (show _ = some (.int .i64 0) from rfl)
  have x6 := (blk_cell X.out 6).trans (show _ = some (.string st) from rfl)
  go_wp2_with fail
  clear x0 x1 x2 x3 x4 x5 x6
  have e5 : w3.drew.cell? ⟨w.heap.size, 5, none⟩ = some (.int .i64 0) := (blk_cell X.out 5).trans rfl
  have e6 : w3.drew.cell? ⟨w.heap.size, 6, none⟩ = some (.string st) := (blk_cell X.out 6).trans rfl
  have eX : w3.drew.heap[w.heap.size]? = some (.cells #[.int .i64 6, .int .u64 (a1 : Int), .int .u64 0, .int .i64 0, .int .i64 (a4 : Int), .int .i64 0, .string st] 24 (0, 0)) := X.out
  have eD := below_drew D3.out
  clear X D3
  have z0 : (9223372036854775807 < 1 + 4) = False := eq_false (by omega)
  have z1 : (9223372036854775807 < 1 + 4 + 2) = False := eq_false (by omega)
  have z2 : (9223372036854775807 < 1 + 4 + 2 + st.size) = False := eq_false (by omega)
  have z3 : (9223372036854775807 < 4 + (1 + sh.size) + (1 + sg.size) + (1 + 4 + 2 + st.size)) = False := eq_false (by omega)
  have z4 : (9223372036854775807 < 7 + st.size) = False := eq_false (by omega)
  have z5 : (9223372036854775807 < 4 + (1 + sh.size) + (1 + sg.size) + (7 + st.size)) = False := eq_false (by omega)
  refine start_ (n := 13) (S := fun w' => w'.cell? ⟨w.heap.size, 5, none⟩ = some (.int .i64 0) ∧ w'.cell? ⟨w.heap.size, 6, none⟩ = some (.string st) ∧ w'.heap[w.heap.size]? = some (.cells #[.int .i64 6, .int .u64 (a1 : Int), .int .u64 0, .int .i64 0, .int .i64 (a4 : Int), .int .i64 0, .string st] 24 (0, 0)) ∧ Below w.heap.size w w') (ds := []) #[false, false, false, false, false, false, false, false, false, false, false, false, false] (by kernel_rfl) rfl rfl ⟨e5, e6, eX, eD⟩ (fun hHeld => ?_)
  refine pure_ (i := 0) (N := some 51) (v := ?_) (a' := ?_) #[true, false, false, false, false, false, false, false, false, false, false, false, false] rfl rfl (by kernel_rfl) (fun _ _ _ h => h) (Or.inl ⟨by rfl, ?_⟩) ?_ ?_
  rotate_left
  · intro w'
    go_simp
    with_reducible rfl
  rotate_left
  · simp only [Act.put, List.setIfInBounds_toArray, List.set_cons_zero, List.set_cons_succ, i64_w, i32_w]
    rfl
  refine pure_ (i := 2) (N := some 53) (v := ?_) (a' := ?_) #[true, false, true, false, false, false, false, false, false, false, false, false, false] rfl rfl (by kernel_rfl) (fun _ _ _ h => h) (Or.inl ⟨by rfl, ?_⟩) ?_ ?_
  rotate_left
  · intro w'
    go_simp
    with_reducible rfl
  rotate_left
  · simp only [Act.put, List.setIfInBounds_toArray, List.set_cons_zero, List.set_cons_succ, i64_w, i32_w]
    rfl
  refine pure_ (i := 8) (N := some 59) (v := ?_) (a' := ?_) #[true, false, true, false, false, false, false, false, true, false, false, false, false] rfl rfl (by kernel_rfl) (fun _ _ _ h => h) (Or.inl ⟨by rfl, ?_⟩) ?_ ?_
  rotate_left
  · intro w'
    go_simp
    with_reducible rfl
  rotate_left
  · simp only [Act.put, List.setIfInBounds_toArray, List.set_cons_zero, List.set_cons_succ, i64_w, i32_w]
    rfl
  refine take_ (i := 3) (N := some 54) (v := ?_) (a' := ?_) #[true, false, true, true, false, false, false, false, true, false, false, false, false] rfl rfl (by kernel_rfl) (fun _ _ _ h => h) (Or.inl ⟨by rfl, ?_⟩) hHeld ?_ ?_
  rotate_left
  · rintro w' ⟨s0, s1, s2, s3⟩
    go_simp
    with_reducible rfl
  rotate_left
  · simp only [Act.put, List.setIfInBounds_toArray, List.set_cons_zero, List.set_cons_succ, i64_w, i32_w]
    rfl
  refine take_ (i := 9) (N := some 60) (v := ?_) (a' := ?_) #[true, false, true, true, false, false, false, false, true, true, false, false, false] rfl rfl (by kernel_rfl) (fun _ _ _ h => h) (Or.inl ⟨by rfl, ?_⟩) hHeld ?_ ?_
  rotate_left
  · rintro w' ⟨s0, s1, s2, s3⟩
    go_simp
    with_reducible rfl
  rotate_left
  · simp only [Act.put, List.setIfInBounds_toArray, List.set_cons_zero, List.set_cons_succ, i64_w, i32_w]
    rfl
  refine one_ (i := 1) (N := some 52) #[true, true, true, true, false, false, false, false, true, true, false, false, false] rfl rfl (by kernel_rfl) (by decide) (fun K hK => ?_)
  refine goes_ Tryd.func22 (by kernel_rfl) rfl #[] (by rfl) rfl rfl (by simp only [List.map_toArray, List.map_cons, List.map_nil]) ?_
  with_reducible refine (services_x 0 (by decide) ⟨#[102, 105, 102, 111]⟩ rfl _).mono ?_
  rintro e v13 ⟨ad, cap, rfl, hx, hb⟩
  refine ⟨_, rfl, ?_⟩
  have HX := Aside0.mk hx
  clear hx
  refine hK.out _ _ ⟨pw_cell_below hb (hHeld.1), pw_cell_below hb (hHeld.2.1), (hb.block _ (blk_lt (hHeld.2.2.1))).trans (hHeld.2.2.1), below_then (hHeld.2.2.2) (hHeld.2.2.2).size hb⟩ (fun hHeld => ?_)
  clear hK K
  refine norm_ (a' := ?_) ?_ ?_
  rotate_left
  · show Act.put _ (some 52) _ = _
    simp only [Act.put, List.setIfInBounds_toArray, List.set_cons_zero, List.set_cons_succ, i64_w, i32_w]
    rfl
  refine pure_ (i := 4) (N := some 55) (v := ?_) (a' := ?_) #[true, true, true, true, true, false, false, false, true, true, false, false, false] rfl rfl (by kernel_rfl) (fun _ _ _ h => h) (Or.inl ⟨by rfl, ?_⟩) ?_ ?_
  rotate_left
  · intro w'
    go_simp
    with_reducible rfl
  rotate_left
  · simp only [Act.put, List.setIfInBounds_toArray, List.set_cons_zero, List.set_cons_succ, i64_w, i32_w]
    rfl
  refine one_ (i := 5) (N := some 56) #[true, true, true, true, true, true, false, false, true, true, false, false, false] rfl rfl (by kernel_rfl) (by decide) (fun K hK => ?_)
  have hz : v13.cell? ad = some (.string ⟨#[102, 105, 102, 111]⟩) := HX.out
  refine value_ (w1 := ?_) (v := ?_) (by rfl) rfl ?_ ?_
  rotate_left 2
  · go_simp
    constructor
    · rfl
    · rfl
  clear hz
  refine hK.out _ _ ⟨hHeld.1, hHeld.2.1, hHeld.2.2.1, hHeld.2.2.2⟩ (fun hHeld => ?_)
  clear hK K
  refine norm_ (a' := ?_) ?_ ?_
  rotate_left
  · show Act.put _ (some 56) _ = _
    simp only [Act.put, List.setIfInBounds_toArray, List.set_cons_zero, List.set_cons_succ, i64_w, i32_w]
    rfl
  refine pure_ (i := 6) (N := some 57) (v := ?_) (a' := ?_) #[true, true, true, true, true, true, true, false, true, true, false, false, false] rfl rfl (by kernel_rfl) (fun _ _ _ h => h) (Or.inl ⟨by rfl, ?_⟩) ?_ ?_
  rotate_left
  · intro w'
    go_simp
    with_reducible rfl
  rotate_left
  · simp only [Act.put, List.setIfInBounds_toArray, List.set_cons_zero, List.set_cons_succ, i64_w, i32_w]
    rfl
  refine pure_ (i := 7) (N := some 58) (v := ?_) (a' := ?_) #[true, true, true, true, true, true, true, true, true, true, false, false, false] rfl rfl (by kernel_rfl) (fun _ _ _ h => h) (Or.inl ⟨by rfl, ?_⟩) ?_ ?_
  rotate_left
  · intro w'
    go_simp
    with_reducible rfl
  rotate_left
  · simp only [Act.put, List.setIfInBounds_toArray, List.set_cons_zero, List.set_cons_succ, i64_w, i32_w]
    rfl
  refine pure_ (i := 10) (N := some 61) (v := ?_) (a' := ?_) #[true, true, true, true, true, true, true, true, true, true, true, false, false] rfl rfl (by kernel_rfl) (fun _ _ _ h => h) (Or.inl ⟨by rfl, ?_⟩) ?_ ?_
  rotate_left
  · intro w'
    go_simp
    with_reducible rfl
  rotate_left
  · simp only [Act.put, List.setIfInBounds_toArray, List.set_cons_zero, List.set_cons_succ, i64_w, i32_w]
    rfl
  refine pure_ (i := 11) (N := some 62) (v := ?_) (a' := ?_) #[true, true, true, true, true, true, true, true, true, true, true, true, false] rfl rfl (by kernel_rfl) (fun _ _ _ h => h) (Or.inl ⟨by rfl, ?_⟩) ?_ ?_
  rotate_left
  · intro w'
    go_simp
    with_reducible rfl
  rotate_left
  · simp only [Act.put, List.setIfInBounds_toArray, List.set_cons_zero, List.set_cons_succ, i64_w, i32_w]
    rfl
  refine pure_ (i := 12) (N := some 3) (v := ?_) (a' := ?_) #[true, true, true, true, true, true, true, true, true, true, true, true, true] rfl rfl (by kernel_rfl) (fun _ _ _ h => h) (Or.inl ⟨by rfl, ?_⟩) ?_ ?_
  rotate_left
  · intro w'
    go_simp
    with_reducible rfl
  rotate_left
  · simp only [Act.put, List.setIfInBounds_toArray, List.set_cons_zero, List.set_cons_succ, i64_w, i32_w]
    rfl
  refine done_ (by kernel_rfl) ?_
  have X := Aside0.mk (hHeld.2.2.1)
  have DR13 := Aside0.mk (hHeld.2.2.2)
  clear hHeld eX eD HX e5 e6 z0 z1 z2 z3 z4 z5
  have x0 := (blk_cell X.out 0).trans (show _ = some (.int .i64 6) from rfl)
  have x1 := (blk_cell X.out 1).trans (show _ = some (.int .u64 (a1 : Int)) from rfl)
  have x2 := (blk_cell X.out 2).trans (show _ = some (.int .u64 0) from rfl)
  have x3 := (blk_cell X.out 3).trans (show _ = some (.int .i64 0) from rfl)
  have x4 := (blk_cell X.out 4).trans (show _ = some (.int .i64 (a4 : Int)) from rfl)
  have x5 := (blk_cell X.out 5).trans (show _ = some (.int .i64 0) from rfl)
  have x6 := (blk_cell X.out 6).trans (show _ = some (.string st) from rfl)
  go_wp2
  go_ret
  refine ⟨?_, DR13.out⟩
  rw [HR.out, H_sh.out, H_sg.out, HST.out]
  exact ret_str (by apply ByteArray.ext; simp [ByteArray.data_append])
set_option maxRecDepth 100000 in
set_option maxHeartbeats 8000000 in
theorem rprint_61 (a1 a4 : Nat) (a6 : List UInt8) (w : World) (hf : (⟨6, (a1 : Int), 0, 0, (a4 : Int), 1, a6⟩ : Call7).Fits) (hm : mayL (⟨6, (a1 : Int), 0, 0, (a4 : Int), 1, a6⟩ : Call7) = true) (h_a1 : a1 < 18446744073709551616) (h_a4 : a4 < 9223372036854775808) :
    Calls Tryd.prog 14 #[.agg #[.int .i64 6, .int .u64 (a1 : Int), .int .u64 0, .int .i64 0, .int .i64 (a4 : Int), .int .i64 1, .string ⟨a6.toArray⟩]] w fun e w' => e = .returned (.string ⟨(speltL (⟨6, (a1 : Int), 0, 0, (a4 : Int), 1, a6⟩ : Call7)).toArray⟩) ∧ Below w.heap.size w w' := by
  have HR := Aside0.mk (show speltL (⟨6, (a1 : Int), 0, 0, (a4 : Int), 1, a6⟩ : Call7) = [115, 101, 110, 100] ++ ([32] ++ Lib.decDigits a1) ++ ([32] ++ Lib.decDigits a4) ++ ([32] ++ [99, 97, 117, 115, 97, 108] ++ [32, 61] ++ a6) from by unfold speltL; simp [itoa_nat, svcName])
  have MX : Aside0 (∀ w1 : World, Calls Tryd.prog 12 #[.agg #[.int .i64 6, .int .u64 (a1 : Int), .int .u64 0, .int .i64 0, .int .i64 (a4 : Int), .int .i64 1, .string ⟨a6.toArray⟩]] w1 fun e w' => e = .returned (.bool true) ∧ Below w1.heap.size w1 w') := ⟨fun w1 => by have := rmay_q (⟨6, (a1 : Int), 0, 0, (a4 : Int), 1, a6⟩ : Call7) hf w1; rw [hm] at this; exact this⟩
  have ZT : (⟨a6.toArray⟩ : ByteArray).size ≤ 140737488351232 := by rw [size_arr]; exact hf.txt
  obtain ⟨st, hst⟩ : ∃ st : ByteArray, st = ⟨a6.toArray⟩ := ⟨_, rfl⟩
  rw [← hst] at ZT MX
  rw [← hst]
  have HST := Aside0.mk hst
  clear hst
  have F_sh := fun (w1 : World) => digits_q a1 h_a1 w1
  have Z_sh := dec_small a1 (by omega)
  rw [← size_arr] at Z_sh
  obtain ⟨sh, hsh⟩ : ∃ sh : ByteArray, sh = ⟨(Lib.decDigits a1).toArray⟩ := ⟨_, rfl⟩
  rw [← hsh] at F_sh Z_sh
  replace F_sh := Aside0.mk F_sh
  have H_sh := Aside0.mk hsh
  clear hsh h_a1
  have F_sg := fun (w1 : World) => signed_q a4 h_a4 w1
  have Z_sg := dec_small a4 (by omega)
  rw [← size_arr] at Z_sg
  obtain ⟨sg, hsg⟩ : ∃ sg : ByteArray, sg = ⟨(Lib.decDigits a4).toArray⟩ := ⟨_, rfl⟩
  rw [← hsg] at F_sg Z_sg
  replace F_sg := Aside0.mk F_sg
  have H_sg := Aside0.mk hsg
  clear hsg h_a4
  clear hf hm
  have D0 := Aside0.mk (below_alloc (Below.refl w.heap.size w) (.cells #[.int .i64 6, .int .u64 (a1 : Int), .int .u64 0, .int .i64 0, .int .i64 (a4 : Int), .int .i64 1, .string st] 24))
  have X := Aside0.mk (blk_new w (.cells #[.int .i64 6, .int .u64 (a1 : Int), .int .u64 0, .int .i64 0, .int .i64 (a4 : Int), .int .i64 1, .string st] 24))
  go_enter Tryd.func14, Tryd.ntmps14
  go_wp2_with fail
  refine (MX.out _).mono ?_
  rintro e w1 ⟨rfl, hb⟩
  replace X := Aside0.mk ((hb.block _ (blk_lt X.out)).trans X.out)
  have D1 := Aside0.mk (below_then D0.out D0.out.size hb)
  clear hb D0
  go_wp2_with fail
  have e0 : w1.drew.cell? ⟨w.heap.size, 0, none⟩ = some (.int .i64 6) := (blk_cell X.out 0).trans rfl
  have eX : w1.drew.heap[w.heap.size]? = some (.cells #[.int .i64 6, .int .u64 (a1 : Int), .int .u64 0, .int .i64 0, .int .i64 (a4 : Int), .int .i64 1, .string st] 24 (0, 0)) := X.out
  have eD := below_drew D1.out
  clear X D1
  refine start_ (n := 6) (S := fun w' => w'.cell? ⟨w.heap.size, 0, none⟩ = some (.int .i64 6) ∧ w'.heap[w.heap.size]? = some (.cells #[.int .i64 6, .int .u64 (a1 : Int), .int .u64 0, .int .i64 0, .int .i64 (a4 : Int), .int .i64 1, .string st] 24 (0, 0)) ∧ Below w.heap.size w w') (ds := []) #[false, false, false, false, false, false] (by kernel_rfl) rfl rfl ⟨e0, eX, eD⟩ (fun hHeld => ?_)
  refine pure_ (i := 1) (N := some 8) (v := ?_) (a' := ?_) #[false, true, false, false, false, false] rfl rfl (by kernel_rfl) (fun _ _ _ h => h) (Or.inl ⟨by rfl, ?_⟩) ?_ ?_
  rotate_left
  · intro w'
    go_simp
    with_reducible rfl
  rotate_left
  · simp only [Act.put, List.setIfInBounds_toArray, List.set_cons_zero, List.set_cons_succ, i64_w, i32_w]
    rfl
  refine take_ (i := 2) (N := some 9) (v := ?_) (a' := ?_) #[false, true, true, false, false, false] rfl rfl (by kernel_rfl) (fun _ _ _ h => h) (Or.inl ⟨by rfl, ?_⟩) hHeld ?_ ?_
  rotate_left
  · rintro w' ⟨s0, s1, s2⟩
    go_simp
    with_reducible rfl
  rotate_left
  · simp only [Act.put, List.setIfInBounds_toArray, List.set_cons_zero, List.set_cons_succ, i64_w, i32_w]
    rfl
  refine one_ (i := 0) (N := some 7) #[true, true, true, false, false, false] rfl rfl (by kernel_rfl) (by decide) (fun K hK => ?_)
  refine goes_ Tryd.func16 (by kernel_rfl) rfl #[] (by rfl) rfl rfl (by simp only [List.map_toArray, List.map_cons, List.map_nil]) ?_
  with_reducible refine (kinds_x 6 (by decide) ⟨#[115, 101, 110, 100]⟩ rfl _).mono ?_
  rintro e v3 ⟨ad, cap, rfl, hx, hb⟩
  refine ⟨_, rfl, ?_⟩
  have HX := Aside0.mk hx
  clear hx
  refine hK.out _ _ ⟨pw_cell_below hb (hHeld.1), (hb.block _ (blk_lt (hHeld.2.1))).trans (hHeld.2.1), below_then (hHeld.2.2) (hHeld.2.2).size hb⟩ (fun hHeld => ?_)
  clear hK K
  refine norm_ (a' := ?_) ?_ ?_
  rotate_left
  · show Act.put _ (some 7) _ = _
    simp only [Act.put, List.setIfInBounds_toArray, List.set_cons_zero, List.set_cons_succ, i64_w, i32_w]
    rfl
  refine pure_ (i := 3) (N := some 10) (v := ?_) (a' := ?_) #[true, true, true, true, false, false] rfl rfl (by kernel_rfl) (fun _ _ _ h => h) (Or.inl ⟨by rfl, ?_⟩) ?_ ?_
  rotate_left
  · intro w'
    go_simp
    with_reducible rfl
  rotate_left
  · simp only [Act.put, List.setIfInBounds_toArray, List.set_cons_zero, List.set_cons_succ, i64_w, i32_w]
    rfl
  refine one_ (i := 4) (N := some 11) #[true, true, true, true, true, false] rfl rfl (by kernel_rfl) (by decide) (fun K hK => ?_)
  have hz : v3.cell? ⟨ad.block, ad.off + 6, none⟩ = some (.string ⟨#[115, 101, 110, 100]⟩) := HX.out
  refine value_ (w1 := ?_) (v := ?_) (by rfl) rfl ?_ ?_
  rotate_left 2
  · go_simp
    constructor
    · rfl
    · rfl
  clear hz
  refine hK.out _ _ ⟨hHeld.1, hHeld.2.1, hHeld.2.2⟩ (fun hHeld => ?_)
  clear hK K
  refine norm_ (a' := ?_) ?_ ?_
  rotate_left
  · show Act.put _ (some 11) _ = _
    simp only [Act.put, List.setIfInBounds_toArray, List.set_cons_zero, List.set_cons_succ, i64_w, i32_w]
    rfl
  refine pure_ (i := 5) (N := some 3) (v := ?_) (a' := ?_) #[true, true, true, true, true, true] rfl rfl (by kernel_rfl) (fun _ _ _ h => h) (Or.inl ⟨by rfl, ?_⟩) ?_ ?_
  rotate_left
  · intro w'
    go_simp
    with_reducible rfl
  rotate_left
  · simp only [Act.put, List.setIfInBounds_toArray, List.set_cons_zero, List.set_cons_succ, i64_w, i32_w]
    rfl
  refine done_ (by kernel_rfl) ?_
  have X := Aside0.mk (hHeld.2.1)
  have DR3 := Aside0.mk (hHeld.2.2)
  clear hHeld eX eD HX e0
  have x0 := (blk_cell X.out 0).trans (show _ = some (.int .i64 6) from rfl)
  have x1 := (blk_cell X.out 1).trans (show _ = some (.int .u64 (a1 : Int)) from rfl)
  have x2 := (blk_cell X.out 2).trans (show _ = some (.int .u64 0) from rfl)
  have x3 := (blk_cell X.out 3).trans (show _ = some (.int .i64 0) from rfl)
  have x4 := (blk_cell X.out 4).trans (show _ = some (.int .i64 (a4 : Int)) from rfl)
  have x5 := (blk_cell X.out 5).trans (show _ = some (.int .i64 1) from rfl)
  have x6 := (blk_cell X.out 6).trans (show _ = some (.string st) from rfl)
  go_wp2_with fail
  clear x0 x1 x2 x3 x4 x5 x6
  refine (F_sh.out _).mono ?_
  rintro e w2 ⟨rfl, hb⟩
  replace X := Aside0.mk ((hb.block _ (blk_lt X.out)).trans X.out)
  have D2 := Aside0.mk (below_then DR3.out DR3.out.size hb)
  clear hb DR3
  have x0 := (blk_cell X.out 0).trans (show _ = some (.int .i64 6) from rfl)
  have x1 := (blk_cell X.out 1).trans (show _ = some (.int .u64 (a1 : Int)) from rfl)
  have x2 := (blk_cell X.out 2).trans (show _ = some (.int .u64 0) from rfl)
  have x3 := (blk_cell X.out 3).trans (show _ = some (.int .i64 0) from rfl)
  have x4 := (blk_cell X.out 4).trans (show _ = some (.int .i64 (a4 : Int)) from rfl)
  have x5 := (blk_cell X.out 5).trans (show _ = some (.int .i64 1) from rfl)
  have x6 := (blk_cell X.out 6).trans (show _ = some (.string st) from rfl)
  go_wp2_with fail
  clear x0 x1 x2 x3 x4 x5 x6
  refine (F_sg.out _).mono ?_
  rintro e w3 ⟨rfl, hb⟩
  replace X := Aside0.mk ((hb.block _ (blk_lt X.out)).trans X.out)
  have D3 := Aside0.mk (below_then D2.out D2.out.size hb)
  clear hb D2
  have x0 := (blk_cell X.out 0).trans (show _ = some (.int .i64 6) from rfl)
  have x1 := (blk_cell X.out 1).trans (show _ = some (.int .u64 (a1 : Int)) from rfl)
  have x2 := (blk_cell X.out 2).trans (show _ = some (.int .u64 0) from rfl)
  have x3 := (blk_cell X.out 3).trans (show _ = some (.int .i64 0) from rfl)
  have x4 := (blk_cell X.out 4).trans (show _ = some (.int .i64 (a4 : Int)) from rfl)
  have x5 := (blk_cell X.out 5).trans (show _ = some (.int .i64 1) from rfl)
  have x6 := (blk_cell X.out 6).trans (show _ = some (.string st) from rfl)
  go_wp2_with fail
  clear x0 x1 x2 x3 x4 x5 x6
  have e5 : w3.drew.cell? ⟨w.heap.size, 5, none⟩ = some (.int .i64 1) := (blk_cell X.out 5).trans rfl
  have e6 : w3.drew.cell? ⟨w.heap.size, 6, none⟩ = some (.string st) := (blk_cell X.out 6).trans rfl
  have eX : w3.drew.heap[w.heap.size]? = some (.cells #[.int .i64 6, .int .u64 (a1 : Int), .int .u64 0, .int .i64 0, .int .i64 (a4 : Int), .int .i64 1, .string st] 24 (0, 0)) := X.out
  have eD := below_drew D3.out
  clear X D3
  have z0 : (9223372036854775807 < 1 + 6) = False := eq_false (by omega)
  have z1 : (9223372036854775807 < 1 + 6 + 2) = False := eq_false (by omega)
  have z2 : (9223372036854775807 < 1 + 6 + 2 + st.size) = False := eq_false (by omega)
  have z3 : (9223372036854775807 < 4 + (1 + sh.size) + (1 + sg.size) + (1 + 6 + 2 + st.size)) = False := eq_false (by omega)
  have z4 : (9223372036854775807 < 9 + st.size) = False := eq_false (by omega)
  have z5 : (9223372036854775807 < 4 + (1 + sh.size) + (1 + sg.size) + (9 + st.size)) = False := eq_false (by omega)
  refine start_ (n := 13) (S := fun w' => w'.cell? ⟨w.heap.size, 5, none⟩ = some (.int .i64 1) ∧ w'.cell? ⟨w.heap.size, 6, none⟩ = some (.string st) ∧ w'.heap[w.heap.size]? = some (.cells #[.int .i64 6, .int .u64 (a1 : Int), .int .u64 0, .int .i64 0, .int .i64 (a4 : Int), .int .i64 1, .string st] 24 (0, 0)) ∧ Below w.heap.size w w') (ds := []) #[false, false, false, false, false, false, false, false, false, false, false, false, false] (by kernel_rfl) rfl rfl ⟨e5, e6, eX, eD⟩ (fun hHeld => ?_)
  refine pure_ (i := 0) (N := some 51) (v := ?_) (a' := ?_) #[true, false, false, false, false, false, false, false, false, false, false, false, false] rfl rfl (by kernel_rfl) (fun _ _ _ h => h) (Or.inl ⟨by rfl, ?_⟩) ?_ ?_
  rotate_left
  · intro w'
    go_simp
    with_reducible rfl
  rotate_left
  · simp only [Act.put, List.setIfInBounds_toArray, List.set_cons_zero, List.set_cons_succ, i64_w, i32_w]
    rfl
  refine pure_ (i := 2) (N := some 53) (v := ?_) (a' := ?_) #[true, false, true, false, false, false, false, false, false, false, false, false, false] rfl rfl (by kernel_rfl) (fun _ _ _ h => h) (Or.inl ⟨by rfl, ?_⟩) ?_ ?_
  rotate_left
  · intro w'
    go_simp
    with_reducible rfl
  rotate_left
  · simp only [Act.put, List.setIfInBounds_toArray, List.set_cons_zero, List.set_cons_succ, i64_w, i32_w]
    rfl
  refine pure_ (i := 8) (N := some 59) (v := ?_) (a' := ?_) #[true, false, true, false, false, false, false, false, true, false, false, false, false] rfl rfl (by kernel_rfl) (fun _ _ _ h => h) (Or.inl ⟨by rfl, ?_⟩) ?_ ?_
  rotate_left
  · intro w'
    go_simp
    with_reducible rfl
  rotate_left
  · simp only [Act.put, List.setIfInBounds_toArray, List.set_cons_zero, List.set_cons_succ, i64_w, i32_w]
    rfl
  refine take_ (i := 3) (N := some 54) (v := ?_) (a' := ?_) #[true, false, true, true, false, false, false, false, true, false, false, false, false] rfl rfl (by kernel_rfl) (fun _ _ _ h => h) (Or.inl ⟨by rfl, ?_⟩) hHeld ?_ ?_
  rotate_left
  · rintro w' ⟨s0, s1, s2, s3⟩
    go_simp
    with_reducible rfl
  rotate_left
  · simp only [Act.put, List.setIfInBounds_toArray, List.set_cons_zero, List.set_cons_succ, i64_w, i32_w]
    rfl
  refine take_ (i := 9) (N := some 60) (v := ?_) (a' := ?_) #[true, false, true, true, false, false, false, false, true, true, false, false, false] rfl rfl (by kernel_rfl) (fun _ _ _ h => h) (Or.inl ⟨by rfl, ?_⟩) hHeld ?_ ?_
  rotate_left
  · rintro w' ⟨s0, s1, s2, s3⟩
    go_simp
    with_reducible rfl
  rotate_left
  · simp only [Act.put, List.setIfInBounds_toArray, List.set_cons_zero, List.set_cons_succ, i64_w, i32_w]
    rfl
  refine one_ (i := 1) (N := some 52) #[true, true, true, true, false, false, false, false, true, true, false, false, false] rfl rfl (by kernel_rfl) (by decide) (fun K hK => ?_)
  refine goes_ Tryd.func22 (by kernel_rfl) rfl #[] (by rfl) rfl rfl (by simp only [List.map_toArray, List.map_cons, List.map_nil]) ?_
  with_reducible refine (services_x 1 (by decide) ⟨#[99, 97, 117, 115, 97, 108]⟩ rfl _).mono ?_
  rintro e v13 ⟨ad, cap, rfl, hx, hb⟩
  refine ⟨_, rfl, ?_⟩
  have HX := Aside0.mk hx
  clear hx
  refine hK.out _ _ ⟨pw_cell_below hb (hHeld.1), pw_cell_below hb (hHeld.2.1), (hb.block _ (blk_lt (hHeld.2.2.1))).trans (hHeld.2.2.1), below_then (hHeld.2.2.2) (hHeld.2.2.2).size hb⟩ (fun hHeld => ?_)
  clear hK K
  refine norm_ (a' := ?_) ?_ ?_
  rotate_left
  · show Act.put _ (some 52) _ = _
    simp only [Act.put, List.setIfInBounds_toArray, List.set_cons_zero, List.set_cons_succ, i64_w, i32_w]
    rfl
  refine pure_ (i := 4) (N := some 55) (v := ?_) (a' := ?_) #[true, true, true, true, true, false, false, false, true, true, false, false, false] rfl rfl (by kernel_rfl) (fun _ _ _ h => h) (Or.inl ⟨by rfl, ?_⟩) ?_ ?_
  rotate_left
  · intro w'
    go_simp
    with_reducible rfl
  rotate_left
  · simp only [Act.put, List.setIfInBounds_toArray, List.set_cons_zero, List.set_cons_succ, i64_w, i32_w]
    rfl
  refine one_ (i := 5) (N := some 56) #[true, true, true, true, true, true, false, false, true, true, false, false, false] rfl rfl (by kernel_rfl) (by decide) (fun K hK => ?_)
  have hz : v13.cell? ⟨ad.block, ad.off + 1, none⟩ = some (.string ⟨#[99, 97, 117, 115, 97, 108]⟩) := HX.out
  refine value_ (w1 := ?_) (v := ?_) (by rfl) rfl ?_ ?_
  rotate_left 2
  · go_simp
    constructor
    · rfl
    · rfl
  clear hz
  refine hK.out _ _ ⟨hHeld.1, hHeld.2.1, hHeld.2.2.1, hHeld.2.2.2⟩ (fun hHeld => ?_)
  clear hK K
  refine norm_ (a' := ?_) ?_ ?_
  rotate_left
  · show Act.put _ (some 56) _ = _
    simp only [Act.put, List.setIfInBounds_toArray, List.set_cons_zero, List.set_cons_succ, i64_w, i32_w]
    rfl
  refine pure_ (i := 6) (N := some 57) (v := ?_) (a' := ?_) #[true, true, true, true, true, true, true, false, true, true, false, false, false] rfl rfl (by kernel_rfl) (fun _ _ _ h => h) (Or.inl ⟨by rfl, ?_⟩) ?_ ?_
  rotate_left
  · intro w'
    go_simp
    with_reducible rfl
  rotate_left
  · simp only [Act.put, List.setIfInBounds_toArray, List.set_cons_zero, List.set_cons_succ, i64_w, i32_w]
    rfl
  refine pure_ (i := 7) (N := some 58) (v := ?_) (a' := ?_) #[true, true, true, true, true, true, true, true, true, true, false, false, false] rfl rfl (by kernel_rfl) (fun _ _ _ h => h) (Or.inl ⟨by rfl, ?_⟩) ?_ ?_
  rotate_left
  · intro w'
    go_simp
    with_reducible rfl
  rotate_left
  · simp only [Act.put, List.setIfInBounds_toArray, List.set_cons_zero, List.set_cons_succ, i64_w, i32_w]
    rfl
  refine pure_ (i := 10) (N := some 61) (v := ?_) (a' := ?_) #[true, true, true, true, true, true, true, true, true, true, true, false, false] rfl rfl (by kernel_rfl) (fun _ _ _ h => h) (Or.inl ⟨by rfl, ?_⟩) ?_ ?_
  rotate_left
  · intro w'
    go_simp
    with_reducible rfl
  rotate_left
  · simp only [Act.put, List.setIfInBounds_toArray, List.set_cons_zero, List.set_cons_succ, i64_w, i32_w]
    rfl
  refine pure_ (i := 11) (N := some 62) (v := ?_) (a' := ?_) #[true, true, true, true, true, true, true, true, true, true, true, true, false] rfl rfl (by kernel_rfl) (fun _ _ _ h => h) (Or.inl ⟨by rfl, ?_⟩) ?_ ?_
  rotate_left
  · intro w'
    go_simp
    with_reducible rfl
  rotate_left
  · simp only [Act.put, List.setIfInBounds_toArray, List.set_cons_zero, List.set_cons_succ, i64_w, i32_w]
    rfl
  refine pure_ (i := 12) (N := some 3) (v := ?_) (a' := ?_) #[true, true, true, true, true, true, true, true, true, true, true, true, true] rfl rfl (by kernel_rfl) (fun _ _ _ h => h) (Or.inl ⟨by rfl, ?_⟩) ?_ ?_
  rotate_left
  · intro w'
    go_simp
    with_reducible rfl
  rotate_left
  · simp only [Act.put, List.setIfInBounds_toArray, List.set_cons_zero, List.set_cons_succ, i64_w, i32_w]
    rfl
  refine done_ (by kernel_rfl) ?_
  have X := Aside0.mk (hHeld.2.2.1)
  have DR13 := Aside0.mk (hHeld.2.2.2)
  clear hHeld eX eD HX e5 e6 z0 z1 z2 z3 z4 z5
  have x0 := (blk_cell X.out 0).trans (show _ = some (.int .i64 6) from rfl)
  have x1 := (blk_cell X.out 1).trans (show _ = some (.int .u64 (a1 : Int)) from rfl)
  have x2 := (blk_cell X.out 2).trans (show _ = some (.int .u64 0) from rfl)
  have x3 := (blk_cell X.out 3).trans (show _ = some (.int .i64 0) from rfl)
  have x4 := (blk_cell X.out 4).trans (show _ = some (.int .i64 (a4 : Int)) from rfl)
  have x5 := (blk_cell X.out 5).trans (show _ = some (.int .i64 1) from rfl)
  have x6 := (blk_cell X.out 6).trans (show _ = some (.string st) from rfl)
  go_wp2
  go_ret
  refine ⟨?_, DR13.out⟩
  rw [HR.out, H_sh.out, H_sg.out, HST.out]
  exact ret_str (by apply ByteArray.ext; simp [ByteArray.data_append])
set_option maxRecDepth 100000 in
set_option maxHeartbeats 8000000 in
theorem rprint_62 (a1 a4 : Nat) (a6 : List UInt8) (w : World) (hf : (⟨6, (a1 : Int), 0, 0, (a4 : Int), 2, a6⟩ : Call7).Fits) (hm : mayL (⟨6, (a1 : Int), 0, 0, (a4 : Int), 2, a6⟩ : Call7) = true) (h_a1 : a1 < 18446744073709551616) (h_a4 : a4 < 9223372036854775808) :
    Calls Tryd.prog 14 #[.agg #[.int .i64 6, .int .u64 (a1 : Int), .int .u64 0, .int .i64 0, .int .i64 (a4 : Int), .int .i64 2, .string ⟨a6.toArray⟩]] w fun e w' => e = .returned (.string ⟨(speltL (⟨6, (a1 : Int), 0, 0, (a4 : Int), 2, a6⟩ : Call7)).toArray⟩) ∧ Below w.heap.size w w' := by
  have HR := Aside0.mk (show speltL (⟨6, (a1 : Int), 0, 0, (a4 : Int), 2, a6⟩ : Call7) = [115, 101, 110, 100] ++ ([32] ++ Lib.decDigits a1) ++ ([32] ++ Lib.decDigits a4) ++ ([32] ++ [97, 103, 114, 101, 101, 100] ++ [32, 61] ++ a6) from by unfold speltL; simp [itoa_nat, svcName])
  have MX : Aside0 (∀ w1 : World, Calls Tryd.prog 12 #[.agg #[.int .i64 6, .int .u64 (a1 : Int), .int .u64 0, .int .i64 0, .int .i64 (a4 : Int), .int .i64 2, .string ⟨a6.toArray⟩]] w1 fun e w' => e = .returned (.bool true) ∧ Below w1.heap.size w1 w') := ⟨fun w1 => by have := rmay_q (⟨6, (a1 : Int), 0, 0, (a4 : Int), 2, a6⟩ : Call7) hf w1; rw [hm] at this; exact this⟩
  have ZT : (⟨a6.toArray⟩ : ByteArray).size ≤ 140737488351232 := by rw [size_arr]; exact hf.txt
  obtain ⟨st, hst⟩ : ∃ st : ByteArray, st = ⟨a6.toArray⟩ := ⟨_, rfl⟩
  rw [← hst] at ZT MX
  rw [← hst]
  have HST := Aside0.mk hst
  clear hst
  have F_sh := fun (w1 : World) => digits_q a1 h_a1 w1
  have Z_sh := dec_small a1 (by omega)
  rw [← size_arr] at Z_sh
  obtain ⟨sh, hsh⟩ : ∃ sh : ByteArray, sh = ⟨(Lib.decDigits a1).toArray⟩ := ⟨_, rfl⟩
  rw [← hsh] at F_sh Z_sh
  replace F_sh := Aside0.mk F_sh
  have H_sh := Aside0.mk hsh
  clear hsh h_a1
  have F_sg := fun (w1 : World) => signed_q a4 h_a4 w1
  have Z_sg := dec_small a4 (by omega)
  rw [← size_arr] at Z_sg
  obtain ⟨sg, hsg⟩ : ∃ sg : ByteArray, sg = ⟨(Lib.decDigits a4).toArray⟩ := ⟨_, rfl⟩
  rw [← hsg] at F_sg Z_sg
  replace F_sg := Aside0.mk F_sg
  have H_sg := Aside0.mk hsg
  clear hsg h_a4
  clear hf hm
  have D0 := Aside0.mk (below_alloc (Below.refl w.heap.size w) (.cells #[.int .i64 6, .int .u64 (a1 : Int), .int .u64 0, .int .i64 0, .int .i64 (a4 : Int), .int .i64 2, .string st] 24))
  have X := Aside0.mk (blk_new w (.cells #[.int .i64 6, .int .u64 (a1 : Int), .int .u64 0, .int .i64 0, .int .i64 (a4 : Int), .int .i64 2, .string st] 24))
  go_enter Tryd.func14, Tryd.ntmps14
  go_wp2_with fail
  refine (MX.out _).mono ?_
  rintro e w1 ⟨rfl, hb⟩
  replace X := Aside0.mk ((hb.block _ (blk_lt X.out)).trans X.out)
  have D1 := Aside0.mk (below_then D0.out D0.out.size hb)
  clear hb D0
  go_wp2_with fail
  have e0 : w1.drew.cell? ⟨w.heap.size, 0, none⟩ = some (.int .i64 6) := (blk_cell X.out 0).trans rfl
  have eX : w1.drew.heap[w.heap.size]? = some (.cells #[.int .i64 6, .int .u64 (a1 : Int), .int .u64 0, .int .i64 0, .int .i64 (a4 : Int), .int .i64 2, .string st] 24 (0, 0)) := X.out
  have eD := below_drew D1.out
  clear X D1
  refine start_ (n := 6) (S := fun w' => w'.cell? ⟨w.heap.size, 0, none⟩ = some (.int .i64 6) ∧ w'.heap[w.heap.size]? = some (.cells #[.int .i64 6, .int .u64 (a1 : Int), .int .u64 0, .int .i64 0, .int .i64 (a4 : Int), .int .i64 2, .string st] 24 (0, 0)) ∧ Below w.heap.size w w') (ds := []) #[false, false, false, false, false, false] (by kernel_rfl) rfl rfl ⟨e0, eX, eD⟩ (fun hHeld => ?_)
  refine pure_ (i := 1) (N := some 8) (v := ?_) (a' := ?_) #[false, true, false, false, false, false] rfl rfl (by kernel_rfl) (fun _ _ _ h => h) (Or.inl ⟨by rfl, ?_⟩) ?_ ?_
  rotate_left
  · intro w'
    go_simp
    with_reducible rfl
  rotate_left
  · simp only [Act.put, List.setIfInBounds_toArray, List.set_cons_zero, List.set_cons_succ, i64_w, i32_w]
    rfl
  refine take_ (i := 2) (N := some 9) (v := ?_) (a' := ?_) #[false, true, true, false, false, false] rfl rfl (by kernel_rfl) (fun _ _ _ h => h) (Or.inl ⟨by rfl, ?_⟩) hHeld ?_ ?_
  rotate_left
  · rintro w' ⟨s0, s1, s2⟩
    go_simp
    with_reducible rfl
  rotate_left
  · simp only [Act.put, List.setIfInBounds_toArray, List.set_cons_zero, List.set_cons_succ, i64_w, i32_w]
    rfl
  refine one_ (i := 0) (N := some 7) #[true, true, true, false, false, false] rfl rfl (by kernel_rfl) (by decide) (fun K hK => ?_)
  refine goes_ Tryd.func16 (by kernel_rfl) rfl #[] (by rfl) rfl rfl (by simp only [List.map_toArray, List.map_cons, List.map_nil]) ?_
  with_reducible refine (kinds_x 6 (by decide) ⟨#[115, 101, 110, 100]⟩ rfl _).mono ?_
  rintro e v3 ⟨ad, cap, rfl, hx, hb⟩
  refine ⟨_, rfl, ?_⟩
  have HX := Aside0.mk hx
  clear hx
  refine hK.out _ _ ⟨pw_cell_below hb (hHeld.1), (hb.block _ (blk_lt (hHeld.2.1))).trans (hHeld.2.1), below_then (hHeld.2.2) (hHeld.2.2).size hb⟩ (fun hHeld => ?_)
  clear hK K
  refine norm_ (a' := ?_) ?_ ?_
  rotate_left
  · show Act.put _ (some 7) _ = _
    simp only [Act.put, List.setIfInBounds_toArray, List.set_cons_zero, List.set_cons_succ, i64_w, i32_w]
    rfl
  refine pure_ (i := 3) (N := some 10) (v := ?_) (a' := ?_) #[true, true, true, true, false, false] rfl rfl (by kernel_rfl) (fun _ _ _ h => h) (Or.inl ⟨by rfl, ?_⟩) ?_ ?_
  rotate_left
  · intro w'
    go_simp
    with_reducible rfl
  rotate_left
  · simp only [Act.put, List.setIfInBounds_toArray, List.set_cons_zero, List.set_cons_succ, i64_w, i32_w]
    rfl
  refine one_ (i := 4) (N := some 11) #[true, true, true, true, true, false] rfl rfl (by kernel_rfl) (by decide) (fun K hK => ?_)
  have hz : v3.cell? ⟨ad.block, ad.off + 6, none⟩ = some (.string ⟨#[115, 101, 110, 100]⟩) := HX.out
  refine value_ (w1 := ?_) (v := ?_) (by rfl) rfl ?_ ?_
  rotate_left 2
  · go_simp
    constructor
    · rfl
    · rfl
  clear hz
  refine hK.out _ _ ⟨hHeld.1, hHeld.2.1, hHeld.2.2⟩ (fun hHeld => ?_)
  clear hK K
  refine norm_ (a' := ?_) ?_ ?_
  rotate_left
  · show Act.put _ (some 11) _ = _
    simp only [Act.put, List.setIfInBounds_toArray, List.set_cons_zero, List.set_cons_succ, i64_w, i32_w]
    rfl
  refine pure_ (i := 5) (N := some 3) (v := ?_) (a' := ?_) #[true, true, true, true, true, true] rfl rfl (by kernel_rfl) (fun _ _ _ h => h) (Or.inl ⟨by rfl, ?_⟩) ?_ ?_
  rotate_left
  · intro w'
    go_simp
    with_reducible rfl
  rotate_left
  · simp only [Act.put, List.setIfInBounds_toArray, List.set_cons_zero, List.set_cons_succ, i64_w, i32_w]
    rfl
  refine done_ (by kernel_rfl) ?_
  have X := Aside0.mk (hHeld.2.1)
  have DR3 := Aside0.mk (hHeld.2.2)
  clear hHeld eX eD HX e0
  have x0 := (blk_cell X.out 0).trans (show _ = some (.int .i64 6) from rfl)
  have x1 := (blk_cell X.out 1).trans (show _ = some (.int .u64 (a1 : Int)) from rfl)
  have x2 := (blk_cell X.out 2).trans (show _ = some (.int .u64 0) from rfl)
  have x3 := (blk_cell X.out 3).trans (show _ = some (.int .i64 0) from rfl)
  have x4 := (blk_cell X.out 4).trans (show _ = some (.int .i64 (a4 : Int)) from rfl)
  have x5 := (blk_cell X.out 5).trans (show _ = some (.int .i64 2) from rfl)
  have x6 := (blk_cell X.out 6).trans (show _ = some (.string st) from rfl)
  go_wp2_with fail
  clear x0 x1 x2 x3 x4 x5 x6
  refine (F_sh.out _).mono ?_
  rintro e w2 ⟨rfl, hb⟩
  replace X := Aside0.mk ((hb.block _ (blk_lt X.out)).trans X.out)
  have D2 := Aside0.mk (below_then DR3.out DR3.out.size hb)
  clear hb DR3
  have x0 := (blk_cell X.out 0).trans (show _ = some (.int .i64 6) from rfl)
  have x1 := (blk_cell X.out 1).trans (show _ = some (.int .u64 (a1 : Int)) from rfl)
  have x2 := (blk_cell X.out 2).trans (show _ = some (.int .u64 0) from rfl)
  have x3 := (blk_cell X.out 3).trans (show _ = some (.int .i64 0) from rfl)
  have x4 := (blk_cell X.out 4).trans (show _ = some (.int .i64 (a4 : Int)) from rfl)
  have x5 := (blk_cell X.out 5).trans (show _ = some (.int .i64 2) from rfl)
  have x6 := (blk_cell X.out 6).trans (show _ = some (.string st) from rfl)
  go_wp2_with fail
  clear x0 x1 x2 x3 x4 x5 x6
  refine (F_sg.out _).mono ?_
  rintro e w3 ⟨rfl, hb⟩
  replace X := Aside0.mk ((hb.block _ (blk_lt X.out)).trans X.out)
  have D3 := Aside0.mk (below_then D2.out D2.out.size hb)
  clear hb D2
  have x0 := (blk_cell X.out 0).trans (show _ = some (.int .i64 6) from rfl)
  have x1 := (blk_cell X.out 1).trans (show _ = some (.int .u64 (a1 : Int)) from rfl)
  have x2 := (blk_cell X.out 2).trans (show _ = some (.int .u64 0) from rfl)
  have x3 := (blk_cell X.out 3).trans (show _ = some (.int .i64 0) from rfl)
  have x4 := (blk_cell X.out 4).trans (show _ = some (.int .i64 (a4 : Int)) from rfl)
  have x5 := (blk_cell X.out 5).trans (show _ = some (.int .i64 2) from rfl)
  have x6 := (blk_cell X.out 6).trans (show _ = some (.string st) from rfl)
  go_wp2_with fail
  clear x0 x1 x2 x3 x4 x5 x6
  have e5 : w3.drew.cell? ⟨w.heap.size, 5, none⟩ = some (.int .i64 2) := (blk_cell X.out 5).trans rfl
  have e6 : w3.drew.cell? ⟨w.heap.size, 6, none⟩ = some (.string st) := (blk_cell X.out 6).trans rfl
  have eX : w3.drew.heap[w.heap.size]? = some (.cells #[.int .i64 6, .int .u64 (a1 : Int), .int .u64 0, .int .i64 0, .int .i64 (a4 : Int), .int .i64 2, .string st] 24 (0, 0)) := X.out
  have eD := below_drew D3.out
  clear X D3
  have z0 : (9223372036854775807 < 1 + 6) = False := eq_false (by omega)
  have z1 : (9223372036854775807 < 1 + 6 + 2) = False := eq_false (by omega)
  have z2 : (9223372036854775807 < 1 + 6 + 2 + st.size) = False := eq_false (by omega)
  have z3 : (9223372036854775807 < 4 + (1 + sh.size) + (1 + sg.size) + (1 + 6 + 2 + st.size)) = False := eq_false (by omega)
  have z4 : (9223372036854775807 < 9 + st.size) = False := eq_false (by omega)
  have z5 : (9223372036854775807 < 4 + (1 + sh.size) + (1 + sg.size) + (9 + st.size)) = False := eq_false (by omega)
  refine start_ (n := 13) (S := fun w' => w'.cell? ⟨w.heap.size, 5, none⟩ = some (.int .i64 2) ∧ w'.cell? ⟨w.heap.size, 6, none⟩ = some (.string st) ∧ w'.heap[w.heap.size]? = some (.cells #[.int .i64 6, .int .u64 (a1 : Int), .int .u64 0, .int .i64 0, .int .i64 (a4 : Int), .int .i64 2, .string st] 24 (0, 0)) ∧ Below w.heap.size w w') (ds := []) #[false, false, false, false, false, false, false, false, false, false, false, false, false] (by kernel_rfl) rfl rfl ⟨e5, e6, eX, eD⟩ (fun hHeld => ?_)
  refine pure_ (i := 0) (N := some 51) (v := ?_) (a' := ?_) #[true, false, false, false, false, false, false, false, false, false, false, false, false] rfl rfl (by kernel_rfl) (fun _ _ _ h => h) (Or.inl ⟨by rfl, ?_⟩) ?_ ?_
  rotate_left
  · intro w'
    go_simp
    with_reducible rfl
  rotate_left
  · simp only [Act.put, List.setIfInBounds_toArray, List.set_cons_zero, List.set_cons_succ, i64_w, i32_w]
    rfl
  refine pure_ (i := 2) (N := some 53) (v := ?_) (a' := ?_) #[true, false, true, false, false, false, false, false, false, false, false, false, false] rfl rfl (by kernel_rfl) (fun _ _ _ h => h) (Or.inl ⟨by rfl, ?_⟩) ?_ ?_
  rotate_left
  · intro w'
    go_simp
    with_reducible rfl
  rotate_left
  · simp only [Act.put, List.setIfInBounds_toArray, List.set_cons_zero, List.set_cons_succ, i64_w, i32_w]
    rfl
  refine pure_ (i := 8) (N := some 59) (v := ?_) (a' := ?_) #[true, false, true, false, false, false, false, false, true, false, false, false, false] rfl rfl (by kernel_rfl) (fun _ _ _ h => h) (Or.inl ⟨by rfl, ?_⟩) ?_ ?_
  rotate_left
  · intro w'
    go_simp
    with_reducible rfl
  rotate_left
  · simp only [Act.put, List.setIfInBounds_toArray, List.set_cons_zero, List.set_cons_succ, i64_w, i32_w]
    rfl
  refine take_ (i := 3) (N := some 54) (v := ?_) (a' := ?_) #[true, false, true, true, false, false, false, false, true, false, false, false, false] rfl rfl (by kernel_rfl) (fun _ _ _ h => h) (Or.inl ⟨by rfl, ?_⟩) hHeld ?_ ?_
  rotate_left
  · rintro w' ⟨s0, s1, s2, s3⟩
    go_simp
    with_reducible rfl
  rotate_left
  · simp only [Act.put, List.setIfInBounds_toArray, List.set_cons_zero, List.set_cons_succ, i64_w, i32_w]
    rfl
  refine take_ (i := 9) (N := some 60) (v := ?_) (a' := ?_) #[true, false, true, true, false, false, false, false, true, true, false, false, false] rfl rfl (by kernel_rfl) (fun _ _ _ h => h) (Or.inl ⟨by rfl, ?_⟩) hHeld ?_ ?_
  rotate_left
  · rintro w' ⟨s0, s1, s2, s3⟩
    go_simp
    with_reducible rfl
  rotate_left
  · simp only [Act.put, List.setIfInBounds_toArray, List.set_cons_zero, List.set_cons_succ, i64_w, i32_w]
    rfl
  refine one_ (i := 1) (N := some 52) #[true, true, true, true, false, false, false, false, true, true, false, false, false] rfl rfl (by kernel_rfl) (by decide) (fun K hK => ?_)
  refine goes_ Tryd.func22 (by kernel_rfl) rfl #[] (by rfl) rfl rfl (by simp only [List.map_toArray, List.map_cons, List.map_nil]) ?_
  with_reducible refine (services_x 2 (by decide) ⟨#[97, 103, 114, 101, 101, 100]⟩ rfl _).mono ?_
  rintro e v13 ⟨ad, cap, rfl, hx, hb⟩
  refine ⟨_, rfl, ?_⟩
  have HX := Aside0.mk hx
  clear hx
  refine hK.out _ _ ⟨pw_cell_below hb (hHeld.1), pw_cell_below hb (hHeld.2.1), (hb.block _ (blk_lt (hHeld.2.2.1))).trans (hHeld.2.2.1), below_then (hHeld.2.2.2) (hHeld.2.2.2).size hb⟩ (fun hHeld => ?_)
  clear hK K
  refine norm_ (a' := ?_) ?_ ?_
  rotate_left
  · show Act.put _ (some 52) _ = _
    simp only [Act.put, List.setIfInBounds_toArray, List.set_cons_zero, List.set_cons_succ, i64_w, i32_w]
    rfl
  refine pure_ (i := 4) (N := some 55) (v := ?_) (a' := ?_) #[true, true, true, true, true, false, false, false, true, true, false, false, false] rfl rfl (by kernel_rfl) (fun _ _ _ h => h) (Or.inl ⟨by rfl, ?_⟩) ?_ ?_
  rotate_left
  · intro w'
    go_simp
    with_reducible rfl
  rotate_left
  · simp only [Act.put, List.setIfInBounds_toArray, List.set_cons_zero, List.set_cons_succ, i64_w, i32_w]
    rfl
  refine one_ (i := 5) (N := some 56) #[true, true, true, true, true, true, false, false, true, true, false, false, false] rfl rfl (by kernel_rfl) (by decide) (fun K hK => ?_)
  have hz : v13.cell? ⟨ad.block, ad.off + 2, none⟩ = some (.string ⟨#[97, 103, 114, 101, 101, 100]⟩) := HX.out
  refine value_ (w1 := ?_) (v := ?_) (by rfl) rfl ?_ ?_
  rotate_left 2
  · go_simp
    constructor
    · rfl
    · rfl
  clear hz
  refine hK.out _ _ ⟨hHeld.1, hHeld.2.1, hHeld.2.2.1, hHeld.2.2.2⟩ (fun hHeld => ?_)
  clear hK K
  refine norm_ (a' := ?_) ?_ ?_
  rotate_left
  · show Act.put _ (some 56) _ = _
    simp only [Act.put, List.setIfInBounds_toArray, List.set_cons_zero, List.set_cons_succ, i64_w, i32_w]
    rfl
  refine pure_ (i := 6) (N := some 57) (v := ?_) (a' := ?_) #[true, true, true, true, true, true, true, false, true, true, false, false, false] rfl rfl (by kernel_rfl) (fun _ _ _ h => h) (Or.inl ⟨by rfl, ?_⟩) ?_ ?_
  rotate_left
  · intro w'
    go_simp
    with_reducible rfl
  rotate_left
  · simp only [Act.put, List.setIfInBounds_toArray, List.set_cons_zero, List.set_cons_succ, i64_w, i32_w]
    rfl
  refine pure_ (i := 7) (N := some 58) (v := ?_) (a' := ?_) #[true, true, true, true, true, true, true, true, true, true, false, false, false] rfl rfl (by kernel_rfl) (fun _ _ _ h => h) (Or.inl ⟨by rfl, ?_⟩) ?_ ?_
  rotate_left
  · intro w'
    go_simp
    with_reducible rfl
  rotate_left
  · simp only [Act.put, List.setIfInBounds_toArray, List.set_cons_zero, List.set_cons_succ, i64_w, i32_w]
    rfl
  refine pure_ (i := 10) (N := some 61) (v := ?_) (a' := ?_) #[true, true, true, true, true, true, true, true, true, true, true, false, false] rfl rfl (by kernel_rfl) (fun _ _ _ h => h) (Or.inl ⟨by rfl, ?_⟩) ?_ ?_
  rotate_left
  · intro w'
    go_simp
    with_reducible rfl
  rotate_left
  · simp only [Act.put, List.setIfInBounds_toArray, List.set_cons_zero, List.set_cons_succ, i64_w, i32_w]
    rfl
  refine pure_ (i := 11) (N := some 62) (v := ?_) (a' := ?_) #[true, true, true, true, true, true, true, true, true, true, true, true, false] rfl rfl (by kernel_rfl) (fun _ _ _ h => h) (Or.inl ⟨by rfl, ?_⟩) ?_ ?_
  rotate_left
  · intro w'
    go_simp
    with_reducible rfl
  rotate_left
  · simp only [Act.put, List.setIfInBounds_toArray, List.set_cons_zero, List.set_cons_succ, i64_w, i32_w]
    rfl
  refine pure_ (i := 12) (N := some 3) (v := ?_) (a' := ?_) #[true, true, true, true, true, true, true, true, true, true, true, true, true] rfl rfl (by kernel_rfl) (fun _ _ _ h => h) (Or.inl ⟨by rfl, ?_⟩) ?_ ?_
  rotate_left
  · intro w'
    go_simp
    with_reducible rfl
  rotate_left
  · simp only [Act.put, List.setIfInBounds_toArray, List.set_cons_zero, List.set_cons_succ, i64_w, i32_w]
    rfl
  refine done_ (by kernel_rfl) ?_
  have X := Aside0.mk (hHeld.2.2.1)
  have DR13 := Aside0.mk (hHeld.2.2.2)
  clear hHeld eX eD HX e5 e6 z0 z1 z2 z3 z4 z5
  have x0 := (blk_cell X.out 0).trans (show _ = some (.int .i64 6) from rfl)
  have x1 := (blk_cell X.out 1).trans (show _ = some (.int .u64 (a1 : Int)) from rfl)
  have x2 := (blk_cell X.out 2).trans (show _ = some (.int .u64 0) from rfl)
  have x3 := (blk_cell X.out 3).trans (show _ = some (.int .i64 0) from rfl)
  have x4 := (blk_cell X.out 4).trans (show _ = some (.int .i64 (a4 : Int)) from rfl)
  have x5 := (blk_cell X.out 5).trans (show _ = some (.int .i64 2) from rfl)
  have x6 := (blk_cell X.out 6).trans (show _ = some (.string st) from rfl)
  go_wp2
  go_ret
  refine ⟨?_, DR13.out⟩
  rw [HR.out, H_sh.out, H_sg.out, HST.out]
  exact ret_str (by apply ByteArray.ext; simp [ByteArray.data_append])
set_option maxRecDepth 100000 in
set_option maxHeartbeats 8000000 in
theorem rprint_63 (a1 a4 : Nat) (a6 : List UInt8) (w : World) (hf : (⟨6, (a1 : Int), 0, 0, (a4 : Int), 3, a6⟩ : Call7).Fits) (hm : mayL (⟨6, (a1 : Int), 0, 0, (a4 : Int), 3, a6⟩ : Call7) = true) (h_a1 : a1 < 18446744073709551616) (h_a4 : a4 < 9223372036854775808) :
    Calls Tryd.prog 14 #[.agg #[.int .i64 6, .int .u64 (a1 : Int), .int .u64 0, .int .i64 0, .int .i64 (a4 : Int), .int .i64 3, .string ⟨a6.toArray⟩]] w fun e w' => e = .returned (.string ⟨(speltL (⟨6, (a1 : Int), 0, 0, (a4 : Int), 3, a6⟩ : Call7)).toArray⟩) ∧ Below w.heap.size w w' := by
  have HR := Aside0.mk (show speltL (⟨6, (a1 : Int), 0, 0, (a4 : Int), 3, a6⟩ : Call7) = [115, 101, 110, 100] ++ ([32] ++ Lib.decDigits a1) ++ ([32] ++ Lib.decDigits a4) ++ ([32] ++ [115, 97, 102, 101] ++ [32, 61] ++ a6) from by unfold speltL; simp [itoa_nat, svcName])
  have MX : Aside0 (∀ w1 : World, Calls Tryd.prog 12 #[.agg #[.int .i64 6, .int .u64 (a1 : Int), .int .u64 0, .int .i64 0, .int .i64 (a4 : Int), .int .i64 3, .string ⟨a6.toArray⟩]] w1 fun e w' => e = .returned (.bool true) ∧ Below w1.heap.size w1 w') := ⟨fun w1 => by have := rmay_q (⟨6, (a1 : Int), 0, 0, (a4 : Int), 3, a6⟩ : Call7) hf w1; rw [hm] at this; exact this⟩
  have ZT : (⟨a6.toArray⟩ : ByteArray).size ≤ 140737488351232 := by rw [size_arr]; exact hf.txt
  obtain ⟨st, hst⟩ : ∃ st : ByteArray, st = ⟨a6.toArray⟩ := ⟨_, rfl⟩
  rw [← hst] at ZT MX
  rw [← hst]
  have HST := Aside0.mk hst
  clear hst
  have F_sh := fun (w1 : World) => digits_q a1 h_a1 w1
  have Z_sh := dec_small a1 (by omega)
  rw [← size_arr] at Z_sh
  obtain ⟨sh, hsh⟩ : ∃ sh : ByteArray, sh = ⟨(Lib.decDigits a1).toArray⟩ := ⟨_, rfl⟩
  rw [← hsh] at F_sh Z_sh
  replace F_sh := Aside0.mk F_sh
  have H_sh := Aside0.mk hsh
  clear hsh h_a1
  have F_sg := fun (w1 : World) => signed_q a4 h_a4 w1
  have Z_sg := dec_small a4 (by omega)
  rw [← size_arr] at Z_sg
  obtain ⟨sg, hsg⟩ : ∃ sg : ByteArray, sg = ⟨(Lib.decDigits a4).toArray⟩ := ⟨_, rfl⟩
  rw [← hsg] at F_sg Z_sg
  replace F_sg := Aside0.mk F_sg
  have H_sg := Aside0.mk hsg
  clear hsg h_a4
  clear hf hm
  have D0 := Aside0.mk (below_alloc (Below.refl w.heap.size w) (.cells #[.int .i64 6, .int .u64 (a1 : Int), .int .u64 0, .int .i64 0, .int .i64 (a4 : Int), .int .i64 3, .string st] 24))
  have X := Aside0.mk (blk_new w (.cells #[.int .i64 6, .int .u64 (a1 : Int), .int .u64 0, .int .i64 0, .int .i64 (a4 : Int), .int .i64 3, .string st] 24))
  go_enter Tryd.func14, Tryd.ntmps14
  go_wp2_with fail
  refine (MX.out _).mono ?_
  rintro e w1 ⟨rfl, hb⟩
  replace X := Aside0.mk ((hb.block _ (blk_lt X.out)).trans X.out)
  have D1 := Aside0.mk (below_then D0.out D0.out.size hb)
  clear hb D0
  go_wp2_with fail
  have e0 : w1.drew.cell? ⟨w.heap.size, 0, none⟩ = some (.int .i64 6) := (blk_cell X.out 0).trans rfl
  have eX : w1.drew.heap[w.heap.size]? = some (.cells #[.int .i64 6, .int .u64 (a1 : Int), .int .u64 0, .int .i64 0, .int .i64 (a4 : Int), .int .i64 3, .string st] 24 (0, 0)) := X.out
  have eD := below_drew D1.out
  clear X D1
  refine start_ (n := 6) (S := fun w' => w'.cell? ⟨w.heap.size, 0, none⟩ = some (.int .i64 6) ∧ w'.heap[w.heap.size]? = some (.cells #[.int .i64 6, .int .u64 (a1 : Int), .int .u64 0, .int .i64 0, .int .i64 (a4 : Int), .int .i64 3, .string st] 24 (0, 0)) ∧ Below w.heap.size w w') (ds := []) #[false, false, false, false, false, false] (by kernel_rfl) rfl rfl ⟨e0, eX, eD⟩ (fun hHeld => ?_)
  refine pure_ (i := 1) (N := some 8) (v := ?_) (a' := ?_) #[false, true, false, false, false, false] rfl rfl (by kernel_rfl) (fun _ _ _ h => h) (Or.inl ⟨by rfl, ?_⟩) ?_ ?_
  rotate_left
  · intro w'
    go_simp
    with_reducible rfl
  rotate_left
  · simp only [Act.put, List.setIfInBounds_toArray, List.set_cons_zero, List.set_cons_succ, i64_w, i32_w]
    rfl
  refine take_ (i := 2) (N := some 9) (v := ?_) (a' := ?_) #[false, true, true, false, false, false] rfl rfl (by kernel_rfl) (fun _ _ _ h => h) (Or.inl ⟨by rfl, ?_⟩) hHeld ?_ ?_
  rotate_left
  · rintro w' ⟨s0, s1, s2⟩
    go_simp
    with_reducible rfl
  rotate_left
  · simp only [Act.put, List.setIfInBounds_toArray, List.set_cons_zero, List.set_cons_succ, i64_w, i32_w]
    rfl
  refine one_ (i := 0) (N := some 7) #[true, true, true, false, false, false] rfl rfl (by kernel_rfl) (by decide) (fun K hK => ?_)
  refine goes_ Tryd.func16 (by kernel_rfl) rfl #[] (by rfl) rfl rfl (by simp only [List.map_toArray, List.map_cons, List.map_nil]) ?_
  with_reducible refine (kinds_x 6 (by decide) ⟨#[115, 101, 110, 100]⟩ rfl _).mono ?_
  rintro e v3 ⟨ad, cap, rfl, hx, hb⟩
  refine ⟨_, rfl, ?_⟩
  have HX := Aside0.mk hx
  clear hx
  refine hK.out _ _ ⟨pw_cell_below hb (hHeld.1), (hb.block _ (blk_lt (hHeld.2.1))).trans (hHeld.2.1), below_then (hHeld.2.2) (hHeld.2.2).size hb⟩ (fun hHeld => ?_)
  clear hK K
  refine norm_ (a' := ?_) ?_ ?_
  rotate_left
  · show Act.put _ (some 7) _ = _
    simp only [Act.put, List.setIfInBounds_toArray, List.set_cons_zero, List.set_cons_succ, i64_w, i32_w]
    rfl
  refine pure_ (i := 3) (N := some 10) (v := ?_) (a' := ?_) #[true, true, true, true, false, false] rfl rfl (by kernel_rfl) (fun _ _ _ h => h) (Or.inl ⟨by rfl, ?_⟩) ?_ ?_
  rotate_left
  · intro w'
    go_simp
    with_reducible rfl
  rotate_left
  · simp only [Act.put, List.setIfInBounds_toArray, List.set_cons_zero, List.set_cons_succ, i64_w, i32_w]
    rfl
  refine one_ (i := 4) (N := some 11) #[true, true, true, true, true, false] rfl rfl (by kernel_rfl) (by decide) (fun K hK => ?_)
  have hz : v3.cell? ⟨ad.block, ad.off + 6, none⟩ = some (.string ⟨#[115, 101, 110, 100]⟩) := HX.out
  refine value_ (w1 := ?_) (v := ?_) (by rfl) rfl ?_ ?_
  rotate_left 2
  · go_simp
    constructor
    · rfl
    · rfl
  clear hz
  refine hK.out _ _ ⟨hHeld.1, hHeld.2.1, hHeld.2.2⟩ (fun hHeld => ?_)
  clear hK K
  refine norm_ (a' := ?_) ?_ ?_
  rotate_left
  · show Act.put _ (some 11) _ = _
    simp only [Act.put, List.setIfInBounds_toArray, List.set_cons_zero, List.set_cons_succ, i64_w, i32_w]
    rfl
  refine pure_ (i := 5) (N := some 3) (v := ?_) (a' := ?_) #[true, true, true, true, true, true] rfl rfl (by kernel_rfl) (fun _ _ _ h => h) (Or.inl ⟨by rfl, ?_⟩) ?_ ?_
  rotate_left
  · intro w'
    go_simp
    with_reducible rfl
  rotate_left
  · simp only [Act.put, List.setIfInBounds_toArray, List.set_cons_zero, List.set_cons_succ, i64_w, i32_w]
    rfl
  refine done_ (by kernel_rfl) ?_
  have X := Aside0.mk (hHeld.2.1)
  have DR3 := Aside0.mk (hHeld.2.2)
  clear hHeld eX eD HX e0
  have x0 := (blk_cell X.out 0).trans (show _ = some (.int .i64 6) from rfl)
  have x1 := (blk_cell X.out 1).trans (show _ = some (.int .u64 (a1 : Int)) from rfl)
  have x2 := (blk_cell X.out 2).trans (show _ = some (.int .u64 0) from rfl)
  have x3 := (blk_cell X.out 3).trans (show _ = some (.int .i64 0) from rfl)
  have x4 := (blk_cell X.out 4).trans (show _ = some (.int .i64 (a4 : Int)) from rfl)
  have x5 := (blk_cell X.out 5).trans (show _ = some (.int .i64 3) from rfl)
  have x6 := (blk_cell X.out 6).trans (show _ = some (.string st) from rfl)
  go_wp2_with fail
  clear x0 x1 x2 x3 x4 x5 x6
  refine (F_sh.out _).mono ?_
  rintro e w2 ⟨rfl, hb⟩
  replace X := Aside0.mk ((hb.block _ (blk_lt X.out)).trans X.out)
  have D2 := Aside0.mk (below_then DR3.out DR3.out.size hb)
  clear hb DR3
  have x0 := (blk_cell X.out 0).trans (show _ = some (.int .i64 6) from rfl)
  have x1 := (blk_cell X.out 1).trans (show _ = some (.int .u64 (a1 : Int)) from rfl)
  have x2 := (blk_cell X.out 2).trans (show _ = some (.int .u64 0) from rfl)
  have x3 := (blk_cell X.out 3).trans (show _ = some (.int .i64 0) from rfl)
  have x4 := (blk_cell X.out 4).trans (show _ = some (.int .i64 (a4 : Int)) from rfl)
  have x5 := (blk_cell X.out 5).trans (show _ = some (.int .i64 3) from rfl)
  have x6 := (blk_cell X.out 6).trans (show _ = some (.string st) from rfl)
  go_wp2_with fail
  clear x0 x1 x2 x3 x4 x5 x6
  refine (F_sg.out _).mono ?_
  rintro e w3 ⟨rfl, hb⟩
  replace X := Aside0.mk ((hb.block _ (blk_lt X.out)).trans X.out)
  have D3 := Aside0.mk (below_then D2.out D2.out.size hb)
  clear hb D2
  have x0 := (blk_cell X.out 0).trans (show _ = some (.int .i64 6) from rfl)
  have x1 := (blk_cell X.out 1).trans (show _ = some (.int .u64 (a1 : Int)) from rfl)
  have x2 := (blk_cell X.out 2).trans (show _ = some (.int .u64 0) from rfl)
  have x3 := (blk_cell X.out 3).trans (show _ = some (.int .i64 0) from rfl)
  have x4 := (blk_cell X.out 4).trans (show _ = some (.int .i64 (a4 : Int)) from rfl)
  have x5 := (blk_cell X.out 5).trans (show _ = some (.int .i64 3) from rfl)
  have x6 := (blk_cell X.out 6).trans (show _ = some (.string st) from rfl)
  go_wp2_with fail
  clear x0 x1 x2 x3 x4 x5 x6
  have e5 : w3.drew.cell? ⟨w.heap.size, 5, none⟩ = some (.int .i64 3) := (blk_cell X.out 5).trans rfl
  have e6 : w3.drew.cell? ⟨w.heap.size, 6, none⟩ = some (.string st) := (blk_cell X.out 6).trans rfl
  have eX : w3.drew.heap[w.heap.size]? = some (.cells #[.int .i64 6, .int .u64 (a1 : Int), .int .u64 0, .int .i64 0, .int .i64 (a4 : Int), .int .i64 3, .string st] 24 (0, 0)) := X.out
  have eD := below_drew D3.out
  clear X D3
  have z0 : (9223372036854775807 < 1 + 4) = False := eq_false (by omega)
  have z1 : (9223372036854775807 < 1 + 4 + 2) = False := eq_false (by omega)
  have z2 : (9223372036854775807 < 1 + 4 + 2 + st.size) = False := eq_false (by omega)
  have z3 : (9223372036854775807 < 4 + (1 + sh.size) + (1 + sg.size) + (1 + 4 + 2 + st.size)) = False := eq_false (by omega)
  have z4 : (9223372036854775807 < 7 + st.size) = False := eq_false (by omega)
  have z5 : (9223372036854775807 < 4 + (1 + sh.size) + (1 + sg.size) + (7 + st.size)) = False := eq_false (by omega)
  refine start_ (n := 13) (S := fun w' => w'.cell? ⟨w.heap.size, 5, none⟩ = some (.int .i64 3) ∧ w'.cell? ⟨w.heap.size, 6, none⟩ = some (.string st) ∧ w'.heap[w.heap.size]? = some (.cells #[.int .i64 6, .int .u64 (a1 : Int), .int .u64 0, .int .i64 0, .int .i64 (a4 : Int), .int .i64 3, .string st] 24 (0, 0)) ∧ Below w.heap.size w w') (ds := []) #[false, false, false, false, false, false, false, false, false, false, false, false, false] (by kernel_rfl) rfl rfl ⟨e5, e6, eX, eD⟩ (fun hHeld => ?_)
  refine pure_ (i := 0) (N := some 51) (v := ?_) (a' := ?_) #[true, false, false, false, false, false, false, false, false, false, false, false, false] rfl rfl (by kernel_rfl) (fun _ _ _ h => h) (Or.inl ⟨by rfl, ?_⟩) ?_ ?_
  rotate_left
  · intro w'
    go_simp
    with_reducible rfl
  rotate_left
  · simp only [Act.put, List.setIfInBounds_toArray, List.set_cons_zero, List.set_cons_succ, i64_w, i32_w]
    rfl
  refine pure_ (i := 2) (N := some 53) (v := ?_) (a' := ?_) #[true, false, true, false, false, false, false, false, false, false, false, false, false] rfl rfl (by kernel_rfl) (fun _ _ _ h => h) (Or.inl ⟨by rfl, ?_⟩) ?_ ?_
  rotate_left
  · intro w'
    go_simp
    with_reducible rfl
  rotate_left
  · simp only [Act.put, List.setIfInBounds_toArray, List.set_cons_zero, List.set_cons_succ, i64_w, i32_w]
    rfl
  refine pure_ (i := 8) (N := some 59) (v := ?_) (a' := ?_) #[true, false, true, false, false, false, false, false, true, false, false, false, false] rfl rfl (by kernel_rfl) (fun _ _ _ h => h) (Or.inl ⟨by rfl, ?_⟩) ?_ ?_
  rotate_left
  · intro w'
    go_simp
    with_reducible rfl
  rotate_left
  · simp only [Act.put, List.setIfInBounds_toArray, List.set_cons_zero, List.set_cons_succ, i64_w, i32_w]
    rfl
  refine take_ (i := 3) (N := some 54) (v := ?_) (a' := ?_) #[true, false, true, true, false, false, false, false, true, false, false, false, false] rfl rfl (by kernel_rfl) (fun _ _ _ h => h) (Or.inl ⟨by rfl, ?_⟩) hHeld ?_ ?_
  rotate_left
  · rintro w' ⟨s0, s1, s2, s3⟩
    go_simp
    with_reducible rfl
  rotate_left
  · simp only [Act.put, List.setIfInBounds_toArray, List.set_cons_zero, List.set_cons_succ, i64_w, i32_w]
    rfl
  refine take_ (i := 9) (N := some 60) (v := ?_) (a' := ?_) #[true, false, true, true, false, false, false, false, true, true, false, false, false] rfl rfl (by kernel_rfl) (fun _ _ _ h => h) (Or.inl ⟨by rfl, ?_⟩) hHeld ?_ ?_
  rotate_left
  · rintro w' ⟨s0, s1, s2, s3⟩
    go_simp
    with_reducible rfl
  rotate_left
  · simp only [Act.put, List.setIfInBounds_toArray, List.set_cons_zero, List.set_cons_succ, i64_w, i32_w]
    rfl
  refine one_ (i := 1) (N := some 52) #[true, true, true, true, false, false, false, false, true, true, false, false, false] rfl rfl (by kernel_rfl) (by decide) (fun K hK => ?_)
  refine goes_ Tryd.func22 (by kernel_rfl) rfl #[] (by rfl) rfl rfl (by simp only [List.map_toArray, List.map_cons, List.map_nil]) ?_
  with_reducible refine (services_x 3 (by decide) ⟨#[115, 97, 102, 101]⟩ rfl _).mono ?_
  rintro e v13 ⟨ad, cap, rfl, hx, hb⟩
  refine ⟨_, rfl, ?_⟩
  have HX := Aside0.mk hx
  clear hx
  refine hK.out _ _ ⟨pw_cell_below hb (hHeld.1), pw_cell_below hb (hHeld.2.1), (hb.block _ (blk_lt (hHeld.2.2.1))).trans (hHeld.2.2.1), below_then (hHeld.2.2.2) (hHeld.2.2.2).size hb⟩ (fun hHeld => ?_)
  clear hK K
  refine norm_ (a' := ?_) ?_ ?_
  rotate_left
  · show Act.put _ (some 52) _ = _
    simp only [Act.put, List.setIfInBounds_toArray, List.set_cons_zero, List.set_cons_succ, i64_w, i32_w]
    rfl
  refine pure_ (i := 4) (N := some 55) (v := ?_) (a' := ?_) #[true, true, true, true, true, false, false, false, true, true, false, false, false] rfl rfl (by kernel_rfl) (fun _ _ _ h => h) (Or.inl ⟨by rfl, ?_⟩) ?_ ?_
  rotate_left
  · intro w'
    go_simp
    with_reducible rfl
  rotate_left
  · simp only [Act.put, List.setIfInBounds_toArray, List.set_cons_zero, List.set_cons_succ, i64_w, i32_w]
    rfl
  refine one_ (i := 5) (N := some 56) #[true, true, true, true, true, true, false, false, true, true, false, false, false] rfl rfl (by kernel_rfl) (by decide) (fun K hK => ?_)
  have hz : v13.cell? ⟨ad.block, ad.off + 3, none⟩ = some (.string ⟨#[115, 97, 102, 101]⟩) := HX.out
  refine value_ (w1 := ?_) (v := ?_) (by rfl) rfl ?_ ?_
  rotate_left 2
  · go_simp
    constructor
    · rfl
    · rfl
  clear hz
  refine hK.out _ _ ⟨hHeld.1, hHeld.2.1, hHeld.2.2.1, hHeld.2.2.2⟩ (fun hHeld => ?_)
  clear hK K
  refine norm_ (a' := ?_) ?_ ?_
  rotate_left
  · show Act.put _ (some 56) _ = _
    simp only [Act.put, List.setIfInBounds_toArray, List.set_cons_zero, List.set_cons_succ, i64_w, i32_w]
    rfl
  refine pure_ (i := 6) (N := some 57) (v := ?_) (a' := ?_) #[true, true, true, true, true, true, true, false, true, true, false, false, false] rfl rfl (by kernel_rfl) (fun _ _ _ h => h) (Or.inl ⟨by rfl, ?_⟩) ?_ ?_
  rotate_left
  · intro w'
    go_simp
    with_reducible rfl
  rotate_left
  · simp only [Act.put, List.setIfInBounds_toArray, List.set_cons_zero, List.set_cons_succ, i64_w, i32_w]
    rfl
  refine pure_ (i := 7) (N := some 58) (v := ?_) (a' := ?_) #[true, true, true, true, true, true, true, true, true, true, false, false, false] rfl rfl (by kernel_rfl) (fun _ _ _ h => h) (Or.inl ⟨by rfl, ?_⟩) ?_ ?_
  rotate_left
  · intro w'
    go_simp
    with_reducible rfl
  rotate_left
  · simp only [Act.put, List.setIfInBounds_toArray, List.set_cons_zero, List.set_cons_succ, i64_w, i32_w]
    rfl
  refine pure_ (i := 10) (N := some 61) (v := ?_) (a' := ?_) #[true, true, true, true, true, true, true, true, true, true, true, false, false] rfl rfl (by kernel_rfl) (fun _ _ _ h => h) (Or.inl ⟨by rfl, ?_⟩) ?_ ?_
  rotate_left
  · intro w'
    go_simp
    with_reducible rfl
  rotate_left
  · simp only [Act.put, List.setIfInBounds_toArray, List.set_cons_zero, List.set_cons_succ, i64_w, i32_w]
    rfl
  refine pure_ (i := 11) (N := some 62) (v := ?_) (a' := ?_) #[true, true, true, true, true, true, true, true, true, true, true, true, false] rfl rfl (by kernel_rfl) (fun _ _ _ h => h) (Or.inl ⟨by rfl, ?_⟩) ?_ ?_
  rotate_left
  · intro w'
    go_simp
    with_reducible rfl
  rotate_left
  · simp only [Act.put, List.setIfInBounds_toArray, List.set_cons_zero, List.set_cons_succ, i64_w, i32_w]
    rfl
  refine pure_ (i := 12) (N := some 3) (v := ?_) (a' := ?_) #[true, true, true, true, true, true, true, true, true, true, true, true, true] rfl rfl (by kernel_rfl) (fun _ _ _ h => h) (Or.inl ⟨by rfl, ?_⟩) ?_ ?_
  rotate_left
  · intro w'
    go_simp
    with_reducible rfl
  rotate_left
  · simp only [Act.put, List.setIfInBounds_toArray, List.set_cons_zero, List.set_cons_succ, i64_w, i32_w]
    rfl
  refine done_ (by kernel_rfl) ?_
  have X := Aside0.mk (hHeld.2.2.1)
  have DR13 := Aside0.mk (hHeld.2.2.2)
  clear hHeld eX eD HX e5 e6 z0 z1 z2 z3 z4 z5
  have x0 := (blk_cell X.out 0).trans (show _ = some (.int .i64 6) from rfl)
  have x1 := (blk_cell X.out 1).trans (show _ = some (.int .u64 (a1 : Int)) from rfl)
  have x2 := (blk_cell X.out 2).trans (show _ = some (.int .u64 0) from rfl)
  have x3 := (blk_cell X.out 3).trans (show _ = some (.int .i64 0) from rfl)
  have x4 := (blk_cell X.out 4).trans (show _ = some (.int .i64 (a4 : Int)) from rfl)
  have x5 := (blk_cell X.out 5).trans (show _ = some (.int .i64 3) from rfl)
  have x6 := (blk_cell X.out 6).trans (show _ = some (.string st) from rfl)
  go_wp2
  go_ret
  refine ⟨?_, DR13.out⟩
  rw [HR.out, H_sh.out, H_sg.out, HST.out]
  exact ret_str (by apply ByteArray.ext; simp [ByteArray.data_append])
set_option maxRecDepth 100000 in
set_option maxHeartbeats 4000000 in
theorem rprint_not (c : Call7) (hf : c.Fits) (w : World) (hm : mayL c = false) : Calls Tryd.prog 14 #[.agg c.cells] w fun e w' => e = .returned (.string ⟨#[]⟩) ∧ Below w.heap.size w w' := by
  have M0 := rmay_q c hf (w.alloc (.cells c.cells 24))
  rw [hm] at M0
  have DB := Aside0.mk (below_alloc (Below.refl w.heap.size w) (.cells c.cells 24))
  obtain ⟨c0, c1, c2, c3, c4, c5, c6⟩ := c
  change Calls Tryd.prog 14 #[.agg #[.int .i64 c0, .int .u64 c1, .int .u64 c2, .int .i64 c3, .int .i64 c4, .int .i64 c5, .string ⟨c6.toArray⟩]] w _
  replace M0 : Calls Tryd.prog 12 #[.agg #[.int .i64 c0, .int .u64 c1, .int .u64 c2, .int .i64 c3, .int .i64 c4, .int .i64 c5, .string ⟨c6.toArray⟩]] (w.alloc (.cells #[.int .i64 c0, .int .u64 c1, .int .u64 c2, .int .i64 c3, .int .i64 c4, .int .i64 c5, .string ⟨c6.toArray⟩] 24)) fun e w' => e = .returned (.bool false) ∧ Below (w.alloc (.cells #[.int .i64 c0, .int .u64 c1, .int .u64 c2, .int .i64 c3, .int .i64 c4, .int .i64 c5, .string ⟨c6.toArray⟩] 24)).heap.size (w.alloc (.cells #[.int .i64 c0, .int .u64 c1, .int .u64 c2, .int .i64 c3, .int .i64 c4, .int .i64 c5, .string ⟨c6.toArray⟩] 24)) w' := M0
  replace DB : Aside0 (Below w.heap.size w (w.alloc (.cells #[.int .i64 c0, .int .u64 c1, .int .u64 c2, .int .i64 c3, .int .i64 c4, .int .i64 c5, .string ⟨c6.toArray⟩] 24))) := DB
  replace M0 := Aside0.mk M0
  clear hf hm
  go_enter Tryd.func14, Tryd.ntmps14
  go_wp2_with fail
  refine M0.out.mono ?_
  rintro e w1 ⟨rfl, hb⟩
  have D1 := Aside0.mk (below_then DB.out DB.out.size hb)
  clear hb
  go_wp2
  go_ret
  exact ⟨rfl, D1.out⟩
theorem rprint_q (c : Call7) (hf : c.Fits) (w : World) : Calls Tryd.prog 14 #[.agg c.cells] w fun e w' => e = .returned (.string ⟨(printL c).toArray⟩) ∧ Below w.heap.size w w' := by
  cases hm : mayL c
  · rw [print_not hm]
    exact rprint_not c hf w hm
  · rw [print_may hm]
    have hok := (may_ok c hf).1 hm
    obtain ⟨k, a, o, g, gr, sv, tx⟩ := c
    have h0 := hf.handle0
    have h1 := hf.handle1
    have h2 := hf.other0
    have h3 := hf.other1
    simp only at h0 h1 h2 h3
    obtain ⟨an, rfl⟩ := Int.eq_ofNat_of_zero_le h0
    obtain ⟨on, rfl⟩ := Int.eq_ofNat_of_zero_le h2
    unfold okB at hok
    simp only at hok
    rcases hok with ⟨rfl, e1, e2, rfl, rfl, rfl, rfl⟩ | ⟨rfl, e2, rfl, rfl, rfl, rfl⟩ | ⟨rfl, e2, g1, g2, rfl, rfl, rfl⟩ | ⟨rfl, rfl, rfl, rfl, rfl⟩ | ⟨hk, e2, rfl, g1, g2, rfl, rfl⟩ | ⟨rfl, e2, rfl, g1, g2, s1, s2, tl⟩
    · obtain rfl : an = 0 := by omega
      obtain rfl : on = 0 := by omega
      exact rprint_0 w hf hm
    · obtain rfl : on = 0 := by omega
      exact rprint_1 an w hf hm (by omega)
    · obtain rfl : on = 0 := by omega
      obtain ⟨gn, rfl⟩ := Int.eq_ofNat_of_zero_le (show 0 ≤ g by omega)
      exact rprint_2 an gn w hf hm (by omega) (by omega)
    · exact rprint_3 an on w hf hm (by omega) (by omega)
    · obtain rfl : on = 0 := by omega
      obtain ⟨gn, rfl⟩ := Int.eq_ofNat_of_zero_le g1
      rcases hk with rfl | rfl
      · exact rprint_4 an gn w hf hm (by omega) (by omega)
      · exact rprint_5 an gn w hf hm (by omega) (by omega)
    · obtain rfl : on = 0 := by omega
      obtain ⟨gn, rfl⟩ := Int.eq_ofNat_of_zero_le g1
      by_cases q0 : sv = 0
      · subst q0; exact rprint_60 an gn tx w hf hm (by omega) (by omega)
      by_cases q1 : sv = 1
      · subst q1; exact rprint_61 an gn tx w hf hm (by omega) (by omega)
      by_cases q2 : sv = 2
      · subst q2; exact rprint_62 an gn tx w hf hm (by omega) (by omega)
      obtain rfl : sv = 3 := by omega
      exact rprint_63 an gn tx w hf hm (by omega) (by omega)
end Go.Proofs.YtljgmbpfeajmhaaDoor
