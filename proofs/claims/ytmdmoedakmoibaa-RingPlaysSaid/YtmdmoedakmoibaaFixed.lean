/- The calls whose answers the document fixes: they are as it says. -/
import Derived.Test.YtmdmoedakmoibaaQueue
namespace Go.Proofs.Ytmdmoedakmoibaa.P
open Go.RowKit Go.Proofs.YtmdmoedakmoibaaW.PrintWords Go.Proofs.YtmdmoedakmoibaaW.PrintLast Go.Proofs.YtmdmoedakmoibaaW.PrintMore
attribute [local go_sem high] eqA31
set_option linter.unusedVariables false
set_option linter.unusedSimpArgs false

theorem Only.step {w w1 w2 : World} {g B : Nat} (hL : Below w.heap.size w w1) (hg : w.heap.size ≤ g) (hB : w.heap.size ≤ B) (ho : Only w1 w2 g B) : Below w.heap.size w w2 := ho.below hL hg hB hL.size
theorem pop_sent {w : World} {g B room : Nat} {s : ByteArray} {l : List S31} (h : RingQ w g B room (sent s :: l)) :
    Calls Try.prog 10 #[.pointer (some ⟨g, 0, none⟩)] w fun e w' => e = .returned (.tuple #[.agg #[.int .i64 1, .int .i64 0, .int .i64 0, .int .u64 0, .int .u64 0, .string s], .bool true]) ∧ RingQ w' g B room l ∧ Only w w' g B := pop_q h
set_option maxHeartbeats 12800000 in
theorem fixed_q (w : World) : Calls Try.prog 8 #[] w fun e w' => e = .returned (.bool true) ∧ Below w.heap.size w w' := by
  go_enter Try.func8, Try.ntmps8
  go_wp2_with fail
  refine (new_q 2 (by decide) w).mono ?_
  rintro e w1 ⟨g, B, rfl, hg, hB, hR, hL⟩
  have HR := Aside0.mk hR
  have HL := Aside0.mk hL
  have Hg := Aside0.mk hg
  have HB := Aside0.mk hB
  clear hR hL hg hB
  go_wp2_with fail
  refine (congresslaw06_text.calls ⟨#[97]⟩ 1 0 0 0 0 ⟨#[97]⟩ _ rfl).mono ?_
  rintro e w2 ⟨rfl, hb⟩
  have R2 := Aside0.mk (HR.out.below hb)
  have L2 := Aside0.mk (below_then HL.out HL.out.size hb)
  clear hb HR HL
  go_wp2_with fail
  refine (push_lt R2.out (by decide) (sent ⟨#[97]⟩)).mono ?_
  rintro e w3 ⟨rfl, hR, hO⟩
  have R3 := Aside0.mk hR
  have L3 := Aside0.mk (Only.step L2.out Hg.out HB.out hO)
  clear hR hO R2 L2
  go_wp2_with fail
  refine (congresslaw06_text.calls ⟨#[98]⟩ 1 0 0 0 0 ⟨#[98]⟩ _ rfl).mono ?_
  rintro e w4 ⟨rfl, hb⟩
  have R4 := Aside0.mk (R3.out.below hb)
  have L4 := Aside0.mk (below_then L3.out L3.out.size hb)
  clear hb R3 L3
  go_wp2_with fail
  refine (push_lt R4.out (by decide) (sent ⟨#[98]⟩)).mono ?_
  rintro e w5 ⟨rfl, hR, hO⟩
  have R5 := Aside0.mk hR
  have L5 := Aside0.mk (Only.step L4.out Hg.out HB.out hO)
  clear hR hO R4 L4
  go_wp2_with fail
  refine (congresslaw06_text.calls ⟨#[99]⟩ 1 0 0 0 0 ⟨#[99]⟩ _ rfl).mono ?_
  rintro e w6 ⟨rfl, hb⟩
  have R6 := Aside0.mk (R5.out.below hb)
  have L6 := Aside0.mk (below_then L5.out L5.out.size hb)
  clear hb R5 L5
  go_wp2_with fail
  refine (push_ge R6.out (by decide) (sent ⟨#[99]⟩)).mono ?_
  rintro e w7 ⟨rfl, hR, hO⟩
  have R7 := Aside0.mk hR
  have L7 := Aside0.mk (Only.step L6.out Hg.out HB.out hO)
  clear hR hO R6 L6
  go_wp2_with fail
  refine (pop_sent R7.out).mono ?_
  rintro e w8 ⟨rfl, hR, hO⟩
  have L8 := Aside0.mk (Only.step L7.out Hg.out HB.out hO)
  have RR := Aside0.mk (hR.alloc (.cells (ent (sent ⟨#[97]⟩)).toArray 31))
  have LL := Aside0.mk (below_alloc L8.out (.cells (ent (sent ⟨#[97]⟩)).toArray 31))
  have X6 := Aside0.mk (Boxed.new w8 (sent ⟨#[97]⟩))
  have G6 := Aside0.mk (show w8.heap.size ≠ g from fun e_ => by have := hR.lt; omega)
  have B6 := Aside0.mk (show w8.heap.size ≠ B from fun e_ => by have := hR.Blt; omega)
  clear hR hO R7 L7 L8
  go_wp2_with fail
  change Calls _ _ _ (w8.alloc (.cells (ent (sent ⟨#[97]⟩)).toArray 31)) _
  generalize hb6 : w8.heap.size = b6 at *
  generalize w8.alloc (.cells (ent (sent ⟨#[97]⟩)).toArray 31) = v8 at *
  clear hb6
  have R8 := RR
  have L8 := LL
  clear RR LL
  refine (congresslaw06_text.calls ⟨#[99]⟩ 1 0 0 0 0 ⟨#[99]⟩ _ rfl).mono ?_
  rintro e w9 ⟨rfl, hb⟩
  have R9 := Aside0.mk (R8.out.below hb)
  have L9 := Aside0.mk (below_then L8.out L8.out.size hb)
  have X6_n := Aside0.mk (X6.out.below hb)
  clear X6
  have X6 := X6_n
  clear X6_n
  clear hb R8 L8
  go_wp2_with fail
  refine (push_lt R9.out (by decide) (sent ⟨#[99]⟩)).mono ?_
  rintro e w10 ⟨rfl, hR, hO⟩
  have R10 := Aside0.mk hR
  have L10 := Aside0.mk (Only.step L9.out Hg.out HB.out hO)
  have X6_10 := Aside0.mk (X6.out.only hO (by have := G6.out; omega) (by have := B6.out; omega))
  clear X6
  have X6 := X6_10
  clear X6_10
  clear hR hO R9 L9
  go_wp2_with fail
  refine (pop_sent R10.out).mono ?_
  rintro e w11 ⟨rfl, hR, hO⟩
  have L11 := Aside0.mk (Only.step L10.out Hg.out HB.out hO)
  have X6_11 := Aside0.mk (X6.out.only hO (by have := G6.out; omega) (by have := B6.out; omega))
  clear X6
  have X6 := X6_11
  clear X6_11
  have RR := Aside0.mk (hR.alloc (.cells (ent (sent ⟨#[98]⟩)).toArray 31))
  have LL := Aside0.mk (below_alloc L11.out (.cells (ent (sent ⟨#[98]⟩)).toArray 31))
  have X6_n := Aside0.mk (X6.out.below (below_alloc (Below.refl _ _) (.cells (ent (sent ⟨#[98]⟩)).toArray 31)))
  clear X6
  have X6 := X6_n
  clear X6_n
  have X9 := Aside0.mk (Boxed.new w11 (sent ⟨#[98]⟩))
  have G9 := Aside0.mk (show w11.heap.size ≠ g from fun e_ => by have := hR.lt; omega)
  have B9 := Aside0.mk (show w11.heap.size ≠ B from fun e_ => by have := hR.Blt; omega)
  clear hR hO R10 L10 L11
  go_wp2_with fail
  change Calls _ _ _ (w11.alloc (.cells (ent (sent ⟨#[98]⟩)).toArray 31)) _
  generalize hb9 : w11.heap.size = b9 at *
  generalize w11.alloc (.cells (ent (sent ⟨#[98]⟩)).toArray 31) = v11 at *
  clear hb9
  have R11 := RR
  have L11 := LL
  clear RR LL
  refine (pop_sent R11.out).mono ?_
  rintro e w12 ⟨rfl, hR, hO⟩
  have L12 := Aside0.mk (Only.step L11.out Hg.out HB.out hO)
  have X6_12 := Aside0.mk (X6.out.only hO (by have := G6.out; omega) (by have := B6.out; omega))
  clear X6
  have X6 := X6_12
  clear X6_12
  have X9_12 := Aside0.mk (X9.out.only hO (by have := G9.out; omega) (by have := B9.out; omega))
  clear X9
  have X9 := X9_12
  clear X9_12
  have RR := Aside0.mk (hR.alloc (.cells (ent (sent ⟨#[99]⟩)).toArray 31))
  have LL := Aside0.mk (below_alloc L12.out (.cells (ent (sent ⟨#[99]⟩)).toArray 31))
  have X6_n := Aside0.mk (X6.out.below (below_alloc (Below.refl _ _) (.cells (ent (sent ⟨#[99]⟩)).toArray 31)))
  clear X6
  have X6 := X6_n
  clear X6_n
  have X9_n := Aside0.mk (X9.out.below (below_alloc (Below.refl _ _) (.cells (ent (sent ⟨#[99]⟩)).toArray 31)))
  clear X9
  have X9 := X9_n
  clear X9_n
  have X11 := Aside0.mk (Boxed.new w12 (sent ⟨#[99]⟩))
  have G11 := Aside0.mk (show w12.heap.size ≠ g from fun e_ => by have := hR.lt; omega)
  have B11 := Aside0.mk (show w12.heap.size ≠ B from fun e_ => by have := hR.Blt; omega)
  clear hR hO R11 L11 L12
  go_wp2_with fail
  change Calls _ _ _ (w12.alloc (.cells (ent (sent ⟨#[99]⟩)).toArray 31)) _
  generalize hb11 : w12.heap.size = b11 at *
  generalize w12.alloc (.cells (ent (sent ⟨#[99]⟩)).toArray 31) = v12 at *
  clear hb11
  have R12 := RR
  have L12 := LL
  clear RR LL
  refine (pop_nil R12.out).mono ?_
  rintro e w13 ⟨rfl, hR, hO⟩
  have L13 := Aside0.mk (Only.step L12.out Hg.out HB.out hO)
  have X6_13 := Aside0.mk (X6.out.only hO (by have := G6.out; omega) (by have := B6.out; omega))
  clear X6
  have X6 := X6_13
  clear X6_13
  have X9_13 := Aside0.mk (X9.out.only hO (by have := G9.out; omega) (by have := B9.out; omega))
  clear X9
  have X9 := X9_13
  clear X9_13
  have X11_13 := Aside0.mk (X11.out.only hO (by have := G11.out; omega) (by have := B11.out; omega))
  clear X11
  have X11 := X11_13
  clear X11_13
  have RR := Aside0.mk (hR.alloc (.cells (ent z31).toArray 31))
  have LL := Aside0.mk (below_alloc L13.out (.cells (ent z31).toArray 31))
  have X6_n := Aside0.mk (X6.out.below (below_alloc (Below.refl _ _) (.cells (ent z31).toArray 31)))
  clear X6
  have X6 := X6_n
  clear X6_n
  have X9_n := Aside0.mk (X9.out.below (below_alloc (Below.refl _ _) (.cells (ent z31).toArray 31)))
  clear X9
  have X9 := X9_n
  clear X9_n
  have X11_n := Aside0.mk (X11.out.below (below_alloc (Below.refl _ _) (.cells (ent z31).toArray 31)))
  clear X11
  have X11 := X11_n
  clear X11_n
  clear hR hO R12 L12 L13
  go_wp2_with fail
  change Calls _ _ _ (w13.alloc (.cells (ent z31).toArray 31)) _
  generalize w13.alloc (.cells (ent z31).toArray 31) = v13 at *
  refine (new_no 65 (.inr (by decide)) _).mono ?_
  rintro e w14 ⟨rfl, rfl⟩
  go_wp2_with fail
  obtain ⟨a0, a1, a2, a3, a4, a5⟩ := X6.out.cells
  obtain ⟨c0, c1, c2, c3, c4, c5⟩ := X9.out.cells
  obtain ⟨d0, d1, d2, d3, d4, d5⟩ := X11.out.cells
  clear X6 X9 X11
  refine start_ (n := 43) (S := fun w' => w'.cell? ⟨b6, 0, none⟩ = some (.int .i64 1) ∧ w'.cell? ⟨b6, 1, none⟩ = some (.int .i64 0) ∧ w'.cell? ⟨b6, 2, none⟩ = some (.int .i64 0) ∧ w'.cell? ⟨b6, 3, none⟩ = some (.int .u64 0) ∧ w'.cell? ⟨b6, 4, none⟩ = some (.int .u64 0) ∧ w'.cell? ⟨b6, 5, none⟩ = some (.string ⟨#[97]⟩) ∧ w'.cell? ⟨b9, 0, none⟩ = some (.int .i64 1) ∧ w'.cell? ⟨b9, 1, none⟩ = some (.int .i64 0) ∧ w'.cell? ⟨b9, 2, none⟩ = some (.int .i64 0) ∧ w'.cell? ⟨b9, 3, none⟩ = some (.int .u64 0) ∧ w'.cell? ⟨b9, 4, none⟩ = some (.int .u64 0) ∧ w'.cell? ⟨b9, 5, none⟩ = some (.string ⟨#[98]⟩) ∧ w'.cell? ⟨b11, 0, none⟩ = some (.int .i64 1) ∧ w'.cell? ⟨b11, 1, none⟩ = some (.int .i64 0) ∧ w'.cell? ⟨b11, 2, none⟩ = some (.int .i64 0) ∧ w'.cell? ⟨b11, 3, none⟩ = some (.int .u64 0) ∧ w'.cell? ⟨b11, 4, none⟩ = some (.int .u64 0) ∧ w'.cell? ⟨b11, 5, none⟩ = some (.string ⟨#[99]⟩) ∧ RingQ w' g B 2 [] ∧ Below w.heap.size w w') (ds := []) #[false, false, false, false, false, false, false, false, false, false, false, false, false, false, false, false, false, false, false, false, false, false, false, false, false, false, false, false, false, false, false, false, false, false, false, false, false, false, false, false, false, false, false] (by kernel_rfl) rfl rfl ⟨a0, a1, a2, a3, a4, a5, c0, c1, c2, c3, c4, c5, d0, d1, d2, d3, d4, d5, RR.out.drew, LL.out.drew⟩ (fun hHeld => ?_)
  refine pure_ (i := 0) (N := some 63) (v := ?_) (a' := ?_) #[true, false, false, false, false, false, false, false, false, false, false, false, false, false, false, false, false, false, false, false, false, false, false, false, false, false, false, false, false, false, false, false, false, false, false, false, false, false, false, false, false, false, false] rfl rfl (by kernel_rfl) (fun _ _ _ h => h) (Or.inl ⟨by rfl, ?_⟩) ?_ ?_
  rotate_left
  · intro w'
    go_simp
    with_reducible rfl
  rotate_left
  · simp only [Act.put, List.setIfInBounds_toArray, List.set_cons_zero, List.set_cons_succ, i64_w, i32_w]
    rfl
  refine pure_ (i := 1) (N := some 64) (v := ?_) (a' := ?_) #[true, true, false, false, false, false, false, false, false, false, false, false, false, false, false, false, false, false, false, false, false, false, false, false, false, false, false, false, false, false, false, false, false, false, false, false, false, false, false, false, false, false, false] rfl rfl (by kernel_rfl) (fun _ _ _ h => h) (Or.inl ⟨by rfl, ?_⟩) ?_ ?_
  rotate_left
  · intro w'
    go_simp
    with_reducible rfl
  rotate_left
  · simp only [Act.put, List.setIfInBounds_toArray, List.set_cons_zero, List.set_cons_succ, i64_w, i32_w]
    rfl
  refine pure_ (i := 2) (N := some 65) (v := ?_) (a' := ?_) #[true, true, true, false, false, false, false, false, false, false, false, false, false, false, false, false, false, false, false, false, false, false, false, false, false, false, false, false, false, false, false, false, false, false, false, false, false, false, false, false, false, false, false] rfl rfl (by kernel_rfl) (fun _ _ _ h => h) (Or.inl ⟨by rfl, ?_⟩) ?_ ?_
  rotate_left
  · intro w'
    go_simp
    with_reducible rfl
  rotate_left
  · simp only [Act.put, List.setIfInBounds_toArray, List.set_cons_zero, List.set_cons_succ, i64_w, i32_w]
    rfl
  refine pure_ (i := 3) (N := some 66) (v := ?_) (a' := ?_) #[true, true, true, true, false, false, false, false, false, false, false, false, false, false, false, false, false, false, false, false, false, false, false, false, false, false, false, false, false, false, false, false, false, false, false, false, false, false, false, false, false, false, false] rfl rfl (by kernel_rfl) (fun _ _ _ h => h) (Or.inl ⟨by rfl, ?_⟩) ?_ ?_
  rotate_left
  · intro w'
    go_simp
    with_reducible rfl
  rotate_left
  · simp only [Act.put, List.setIfInBounds_toArray, List.set_cons_zero, List.set_cons_succ, i64_w, i32_w]
    rfl
  refine pure_ (i := 4) (N := some 67) (v := ?_) (a' := ?_) #[true, true, true, true, true, false, false, false, false, false, false, false, false, false, false, false, false, false, false, false, false, false, false, false, false, false, false, false, false, false, false, false, false, false, false, false, false, false, false, false, false, false, false] rfl rfl (by kernel_rfl) (fun _ _ _ h => h) (Or.inl ⟨by rfl, ?_⟩) ?_ ?_
  rotate_left
  · intro w'
    go_simp
    with_reducible rfl
  rotate_left
  · simp only [Act.put, List.setIfInBounds_toArray, List.set_cons_zero, List.set_cons_succ, i64_w, i32_w]
    rfl
  refine pure_ (i := 5) (N := some 68) (v := ?_) (a' := ?_) #[true, true, true, true, true, true, false, false, false, false, false, false, false, false, false, false, false, false, false, false, false, false, false, false, false, false, false, false, false, false, false, false, false, false, false, false, false, false, false, false, false, false, false] rfl rfl (by kernel_rfl) (fun _ _ _ h => h) (Or.inl ⟨by rfl, ?_⟩) ?_ ?_
  rotate_left
  · intro w'
    go_simp
    with_reducible rfl
  rotate_left
  · simp only [Act.put, List.setIfInBounds_toArray, List.set_cons_zero, List.set_cons_succ, i64_w, i32_w]
    rfl
  refine pure_ (i := 6) (N := some 69) (v := ?_) (a' := ?_) #[true, true, true, true, true, true, true, false, false, false, false, false, false, false, false, false, false, false, false, false, false, false, false, false, false, false, false, false, false, false, false, false, false, false, false, false, false, false, false, false, false, false, false] rfl rfl (by kernel_rfl) (fun _ _ _ h => h) (Or.inl ⟨by rfl, ?_⟩) ?_ ?_
  rotate_left
  · intro w'
    go_simp
    with_reducible rfl
  rotate_left
  · simp only [Act.put, List.setIfInBounds_toArray, List.set_cons_zero, List.set_cons_succ, i64_w, i32_w]
    rfl
  refine pure_ (i := 7) (N := some 70) (v := ?_) (a' := ?_) #[true, true, true, true, true, true, true, true, false, false, false, false, false, false, false, false, false, false, false, false, false, false, false, false, false, false, false, false, false, false, false, false, false, false, false, false, false, false, false, false, false, false, false] rfl rfl (by kernel_rfl) (fun _ _ _ h => h) (Or.inl ⟨by rfl, ?_⟩) ?_ ?_
  rotate_left
  · intro w'
    go_simp
    with_reducible rfl
  rotate_left
  · simp only [Act.put, List.setIfInBounds_toArray, List.set_cons_zero, List.set_cons_succ, i64_w, i32_w]
    rfl
  refine pure_ (i := 8) (N := some 71) (v := ?_) (a' := ?_) #[true, true, true, true, true, true, true, true, true, false, false, false, false, false, false, false, false, false, false, false, false, false, false, false, false, false, false, false, false, false, false, false, false, false, false, false, false, false, false, false, false, false, false] rfl rfl (by kernel_rfl) (fun _ _ _ h => h) (Or.inl ⟨by rfl, ?_⟩) ?_ ?_
  rotate_left
  · intro w'
    go_simp
    with_reducible rfl
  rotate_left
  · simp only [Act.put, List.setIfInBounds_toArray, List.set_cons_zero, List.set_cons_succ, i64_w, i32_w]
    rfl
  refine pure_ (i := 9) (N := some 72) (v := ?_) (a' := ?_) #[true, true, true, true, true, true, true, true, true, true, false, false, false, false, false, false, false, false, false, false, false, false, false, false, false, false, false, false, false, false, false, false, false, false, false, false, false, false, false, false, false, false, false] rfl rfl (by kernel_rfl) (fun _ _ _ h => h) (Or.inl ⟨by rfl, ?_⟩) ?_ ?_
  rotate_left
  · intro w'
    go_simp
    with_reducible rfl
  rotate_left
  · simp only [Act.put, List.setIfInBounds_toArray, List.set_cons_zero, List.set_cons_succ, i64_w, i32_w]
    rfl
  refine pure_ (i := 10) (N := some 73) (v := ?_) (a' := ?_) #[true, true, true, true, true, true, true, true, true, true, true, false, false, false, false, false, false, false, false, false, false, false, false, false, false, false, false, false, false, false, false, false, false, false, false, false, false, false, false, false, false, false, false] rfl rfl (by kernel_rfl) (fun _ _ _ h => h) (Or.inl ⟨by rfl, ?_⟩) ?_ ?_
  rotate_left
  · intro w'
    go_simp
    with_reducible rfl
  rotate_left
  · simp only [Act.put, List.setIfInBounds_toArray, List.set_cons_zero, List.set_cons_succ, i64_w, i32_w]
    rfl
  refine pure_ (i := 11) (N := some 74) (v := ?_) (a' := ?_) #[true, true, true, true, true, true, true, true, true, true, true, true, false, false, false, false, false, false, false, false, false, false, false, false, false, false, false, false, false, false, false, false, false, false, false, false, false, false, false, false, false, false, false] rfl rfl (by kernel_rfl) (fun _ _ _ h => h) (Or.inl ⟨by rfl, ?_⟩) ?_ ?_
  rotate_left
  · intro w'
    go_simp
    with_reducible rfl
  rotate_left
  · simp only [Act.put, List.setIfInBounds_toArray, List.set_cons_zero, List.set_cons_succ, i64_w, i32_w]
    rfl
  refine take_ (i := 12) (N := some 75) (v := ?_) (a' := ?_) #[true, true, true, true, true, true, true, true, true, true, true, true, true, false, false, false, false, false, false, false, false, false, false, false, false, false, false, false, false, false, false, false, false, false, false, false, false, false, false, false, false, false, false] rfl rfl (by kernel_rfl) (fun _ _ _ h => h) (Or.inl ⟨by rfl, ?_⟩) hHeld ?_ ?_
  rotate_left
  · rintro w' ⟨s0, s1, s2, s3, s4, s5, s6, s7, s8, s9, s10, s11, s12, s13, s14, s15, s16, s17, s18, s19⟩
    go_simp
    with_reducible rfl
  rotate_left
  · simp only [Act.put, List.setIfInBounds_toArray, List.set_cons_zero, List.set_cons_succ, i64_w, i32_w]
    rfl
  refine one_ (i := 13) (N := some 76) #[true, true, true, true, true, true, true, true, true, true, true, true, true, true, false, false, false, false, false, false, false, false, false, false, false, false, false, false, false, false, false, false, false, false, false, false, false, false, false, false, false, false, false] rfl rfl (by kernel_rfl) (by decide) (fun K hK => ?_)
  refine goes_ Try.func15 (by kernel_rfl) rfl #[.string ⟨#[97]⟩] (by rfl) rfl rfl (by simp only [List.map_toArray, List.map_cons, List.map_nil]; rfl) ?_
  with_reducible refine (congresslaw06_text.calls ⟨#[97]⟩ 1 0 0 0 0 ⟨#[97]⟩ _ rfl).mono ?_
  rintro e w3 ⟨rfl, hb3⟩
  refine ⟨_, rfl, ?_⟩
  refine hK.out _ _ ⟨(pw_cell_below hb3 (hHeld.1)), (pw_cell_below hb3 (hHeld.2.1)), (pw_cell_below hb3 (hHeld.2.2.1)), (pw_cell_below hb3 (hHeld.2.2.2.1)), (pw_cell_below hb3 (hHeld.2.2.2.2.1)), (pw_cell_below hb3 (hHeld.2.2.2.2.2.1)), (pw_cell_below hb3 (hHeld.2.2.2.2.2.2.1)), (pw_cell_below hb3 (hHeld.2.2.2.2.2.2.2.1)), (pw_cell_below hb3 (hHeld.2.2.2.2.2.2.2.2.1)), (pw_cell_below hb3 (hHeld.2.2.2.2.2.2.2.2.2.1)), (pw_cell_below hb3 (hHeld.2.2.2.2.2.2.2.2.2.2.1)), (pw_cell_below hb3 (hHeld.2.2.2.2.2.2.2.2.2.2.2.1)), (pw_cell_below hb3 (hHeld.2.2.2.2.2.2.2.2.2.2.2.2.1)), (pw_cell_below hb3 (hHeld.2.2.2.2.2.2.2.2.2.2.2.2.2.1)), (pw_cell_below hb3 (hHeld.2.2.2.2.2.2.2.2.2.2.2.2.2.2.1)), (pw_cell_below hb3 (hHeld.2.2.2.2.2.2.2.2.2.2.2.2.2.2.2.1)), (pw_cell_below hb3 (hHeld.2.2.2.2.2.2.2.2.2.2.2.2.2.2.2.2.1)), (pw_cell_below hb3 (hHeld.2.2.2.2.2.2.2.2.2.2.2.2.2.2.2.2.2.1)), (hHeld.2.2.2.2.2.2.2.2.2.2.2.2.2.2.2.2.2.2.1).below hb3, below_then (hHeld.2.2.2.2.2.2.2.2.2.2.2.2.2.2.2.2.2.2.2) (hHeld.2.2.2.2.2.2.2.2.2.2.2.2.2.2.2.2.2.2.2).size hb3⟩ (fun hHeld => ?_)
  clear hK K
  refine norm_ (a' := ?_) ?_ ?_
  rotate_left
  · show Act.put _ (some 76) _ = _
    simp only [Act.put, List.setIfInBounds_toArray, List.set_cons_zero, List.set_cons_succ, i64_w, i32_w]
    rfl
  refine pure_ (i := 14) (N := some 77) (v := ?_) (a' := ?_) #[true, true, true, true, true, true, true, true, true, true, true, true, true, true, true, false, false, false, false, false, false, false, false, false, false, false, false, false, false, false, false, false, false, false, false, false, false, false, false, false, false, false, false] rfl rfl (by kernel_rfl) (fun _ _ _ h => h) (Or.inl ⟨by rfl, ?_⟩) ?_ ?_
  rotate_left
  · intro w'
    go_simp
    with_reducible rfl
  rotate_left
  · simp only [Act.put, List.setIfInBounds_toArray, List.set_cons_zero, List.set_cons_succ, i64_w, i32_w]
    rfl
  refine pure_ (i := 15) (N := some 78) (v := ?_) (a' := ?_) #[true, true, true, true, true, true, true, true, true, true, true, true, true, true, true, true, false, false, false, false, false, false, false, false, false, false, false, false, false, false, false, false, false, false, false, false, false, false, false, false, false, false, false] rfl rfl (by kernel_rfl) (fun _ _ _ h => h) (Or.inl ⟨by rfl, ?_⟩) ?_ ?_
  rotate_left
  · intro w'
    go_simp
    with_reducible rfl
  rotate_left
  · simp only [Act.put, List.setIfInBounds_toArray, List.set_cons_zero, List.set_cons_succ, i64_w, i32_w]
    rfl
  refine pure_ (i := 16) (N := some 79) (v := ?_) (a' := ?_) #[true, true, true, true, true, true, true, true, true, true, true, true, true, true, true, true, true, false, false, false, false, false, false, false, false, false, false, false, false, false, false, false, false, false, false, false, false, false, false, false, false, false, false] rfl rfl (by kernel_rfl) (fun _ _ _ h => h) (Or.inl ⟨by rfl, ?_⟩) ?_ ?_
  rotate_left
  · intro w'
    go_simp
    with_reducible rfl
  rotate_left
  · simp only [Act.put, List.setIfInBounds_toArray, List.set_cons_zero, List.set_cons_succ, i64_w, i32_w]
    rfl
  refine pure_ (i := 17) (N := some 80) (v := ?_) (a' := ?_) #[true, true, true, true, true, true, true, true, true, true, true, true, true, true, true, true, true, true, false, false, false, false, false, false, false, false, false, false, false, false, false, false, false, false, false, false, false, false, false, false, false, false, false] rfl rfl (by kernel_rfl) (fun _ _ _ h => h) (Or.inl ⟨by rfl, ?_⟩) ?_ ?_
  rotate_left
  · intro w'
    go_simp
    with_reducible rfl
  rotate_left
  · simp only [Act.put, List.setIfInBounds_toArray, List.set_cons_zero, List.set_cons_succ, i64_w, i32_w]
    rfl
  refine pure_ (i := 18) (N := some 81) (v := ?_) (a' := ?_) #[true, true, true, true, true, true, true, true, true, true, true, true, true, true, true, true, true, true, true, false, false, false, false, false, false, false, false, false, false, false, false, false, false, false, false, false, false, false, false, false, false, false, false] rfl rfl (by kernel_rfl) (fun _ _ _ h => h) (Or.inl ⟨by rfl, ?_⟩) ?_ ?_
  rotate_left
  · intro w'
    go_simp
    with_reducible rfl
  rotate_left
  · simp only [Act.put, List.setIfInBounds_toArray, List.set_cons_zero, List.set_cons_succ, i64_w, i32_w]
    rfl
  refine pure_ (i := 19) (N := some 82) (v := ?_) (a' := ?_) #[true, true, true, true, true, true, true, true, true, true, true, true, true, true, true, true, true, true, true, true, false, false, false, false, false, false, false, false, false, false, false, false, false, false, false, false, false, false, false, false, false, false, false] rfl rfl (by kernel_rfl) (fun _ _ _ h => h) (Or.inl ⟨by rfl, ?_⟩) ?_ ?_
  rotate_left
  · intro w'
    go_simp
    with_reducible rfl
  rotate_left
  · simp only [Act.put, List.setIfInBounds_toArray, List.set_cons_zero, List.set_cons_succ, i64_w, i32_w]
    rfl
  refine take_ (i := 20) (N := some 83) (v := ?_) (a' := ?_) #[true, true, true, true, true, true, true, true, true, true, true, true, true, true, true, true, true, true, true, true, true, false, false, false, false, false, false, false, false, false, false, false, false, false, false, false, false, false, false, false, false, false, false] rfl rfl (by kernel_rfl) (fun _ _ _ h => h) (Or.inl ⟨by rfl, ?_⟩) hHeld ?_ ?_
  rotate_left
  · rintro w' ⟨s0, s1, s2, s3, s4, s5, s6, s7, s8, s9, s10, s11, s12, s13, s14, s15, s16, s17, s18, s19⟩
    go_simp
    with_reducible rfl
  rotate_left
  · simp only [Act.put, List.setIfInBounds_toArray, List.set_cons_zero, List.set_cons_succ, i64_w, i32_w]
    rfl
  refine one_ (i := 21) (N := some 84) #[true, true, true, true, true, true, true, true, true, true, true, true, true, true, true, true, true, true, true, true, true, true, false, false, false, false, false, false, false, false, false, false, false, false, false, false, false, false, false, false, false, false, false] rfl rfl (by kernel_rfl) (by decide) (fun K hK => ?_)
  refine goes_ Try.func15 (by kernel_rfl) rfl #[.string ⟨#[98]⟩] (by rfl) rfl rfl (by simp only [List.map_toArray, List.map_cons, List.map_nil]; rfl) ?_
  with_reducible refine (congresslaw06_text.calls ⟨#[98]⟩ 1 0 0 0 0 ⟨#[98]⟩ _ rfl).mono ?_
  rintro e w3 ⟨rfl, hb3⟩
  refine ⟨_, rfl, ?_⟩
  refine hK.out _ _ ⟨(pw_cell_below hb3 (hHeld.1)), (pw_cell_below hb3 (hHeld.2.1)), (pw_cell_below hb3 (hHeld.2.2.1)), (pw_cell_below hb3 (hHeld.2.2.2.1)), (pw_cell_below hb3 (hHeld.2.2.2.2.1)), (pw_cell_below hb3 (hHeld.2.2.2.2.2.1)), (pw_cell_below hb3 (hHeld.2.2.2.2.2.2.1)), (pw_cell_below hb3 (hHeld.2.2.2.2.2.2.2.1)), (pw_cell_below hb3 (hHeld.2.2.2.2.2.2.2.2.1)), (pw_cell_below hb3 (hHeld.2.2.2.2.2.2.2.2.2.1)), (pw_cell_below hb3 (hHeld.2.2.2.2.2.2.2.2.2.2.1)), (pw_cell_below hb3 (hHeld.2.2.2.2.2.2.2.2.2.2.2.1)), (pw_cell_below hb3 (hHeld.2.2.2.2.2.2.2.2.2.2.2.2.1)), (pw_cell_below hb3 (hHeld.2.2.2.2.2.2.2.2.2.2.2.2.2.1)), (pw_cell_below hb3 (hHeld.2.2.2.2.2.2.2.2.2.2.2.2.2.2.1)), (pw_cell_below hb3 (hHeld.2.2.2.2.2.2.2.2.2.2.2.2.2.2.2.1)), (pw_cell_below hb3 (hHeld.2.2.2.2.2.2.2.2.2.2.2.2.2.2.2.2.1)), (pw_cell_below hb3 (hHeld.2.2.2.2.2.2.2.2.2.2.2.2.2.2.2.2.2.1)), (hHeld.2.2.2.2.2.2.2.2.2.2.2.2.2.2.2.2.2.2.1).below hb3, below_then (hHeld.2.2.2.2.2.2.2.2.2.2.2.2.2.2.2.2.2.2.2) (hHeld.2.2.2.2.2.2.2.2.2.2.2.2.2.2.2.2.2.2.2).size hb3⟩ (fun hHeld => ?_)
  clear hK K
  refine norm_ (a' := ?_) ?_ ?_
  rotate_left
  · show Act.put _ (some 84) _ = _
    simp only [Act.put, List.setIfInBounds_toArray, List.set_cons_zero, List.set_cons_succ, i64_w, i32_w]
    rfl
  refine pure_ (i := 22) (N := some 85) (v := ?_) (a' := ?_) #[true, true, true, true, true, true, true, true, true, true, true, true, true, true, true, true, true, true, true, true, true, true, true, false, false, false, false, false, false, false, false, false, false, false, false, false, false, false, false, false, false, false, false] rfl rfl (by kernel_rfl) (fun _ _ _ h => h) (Or.inl ⟨by rfl, ?_⟩) ?_ ?_
  rotate_left
  · intro w'
    go_simp
    with_reducible rfl
  rotate_left
  · simp only [Act.put, List.setIfInBounds_toArray, List.set_cons_zero, List.set_cons_succ, i64_w, i32_w]
    rfl
  refine pure_ (i := 23) (N := some 86) (v := ?_) (a' := ?_) #[true, true, true, true, true, true, true, true, true, true, true, true, true, true, true, true, true, true, true, true, true, true, true, true, false, false, false, false, false, false, false, false, false, false, false, false, false, false, false, false, false, false, false] rfl rfl (by kernel_rfl) (fun _ _ _ h => h) (Or.inl ⟨by rfl, ?_⟩) ?_ ?_
  rotate_left
  · intro w'
    go_simp
    with_reducible rfl
  rotate_left
  · simp only [Act.put, List.setIfInBounds_toArray, List.set_cons_zero, List.set_cons_succ, i64_w, i32_w]
    rfl
  refine pure_ (i := 24) (N := some 87) (v := ?_) (a' := ?_) #[true, true, true, true, true, true, true, true, true, true, true, true, true, true, true, true, true, true, true, true, true, true, true, true, true, false, false, false, false, false, false, false, false, false, false, false, false, false, false, false, false, false, false] rfl rfl (by kernel_rfl) (fun _ _ _ h => h) (Or.inl ⟨by rfl, ?_⟩) ?_ ?_
  rotate_left
  · intro w'
    go_simp
    with_reducible rfl
  rotate_left
  · simp only [Act.put, List.setIfInBounds_toArray, List.set_cons_zero, List.set_cons_succ, i64_w, i32_w]
    rfl
  refine take_ (i := 25) (N := some 88) (v := ?_) (a' := ?_) #[true, true, true, true, true, true, true, true, true, true, true, true, true, true, true, true, true, true, true, true, true, true, true, true, true, true, false, false, false, false, false, false, false, false, false, false, false, false, false, false, false, false, false] rfl rfl (by kernel_rfl) (fun _ _ _ h => h) (Or.inl ⟨by rfl, ?_⟩) hHeld ?_ ?_
  rotate_left
  · rintro w' ⟨s0, s1, s2, s3, s4, s5, s6, s7, s8, s9, s10, s11, s12, s13, s14, s15, s16, s17, s18, s19⟩
    go_simp
    with_reducible rfl
  rotate_left
  · simp only [Act.put, List.setIfInBounds_toArray, List.set_cons_zero, List.set_cons_succ, i64_w, i32_w]
    rfl
  refine one_ (i := 26) (N := some 89) #[true, true, true, true, true, true, true, true, true, true, true, true, true, true, true, true, true, true, true, true, true, true, true, true, true, true, true, false, false, false, false, false, false, false, false, false, false, false, false, false, false, false, false] rfl rfl (by kernel_rfl) (by decide) (fun K hK => ?_)
  refine goes_ Try.func15 (by kernel_rfl) rfl #[.string ⟨#[99]⟩] (by rfl) rfl rfl (by simp only [List.map_toArray, List.map_cons, List.map_nil]; rfl) ?_
  with_reducible refine (congresslaw06_text.calls ⟨#[99]⟩ 1 0 0 0 0 ⟨#[99]⟩ _ rfl).mono ?_
  rintro e w3 ⟨rfl, hb3⟩
  refine ⟨_, rfl, ?_⟩
  refine hK.out _ _ ⟨(pw_cell_below hb3 (hHeld.1)), (pw_cell_below hb3 (hHeld.2.1)), (pw_cell_below hb3 (hHeld.2.2.1)), (pw_cell_below hb3 (hHeld.2.2.2.1)), (pw_cell_below hb3 (hHeld.2.2.2.2.1)), (pw_cell_below hb3 (hHeld.2.2.2.2.2.1)), (pw_cell_below hb3 (hHeld.2.2.2.2.2.2.1)), (pw_cell_below hb3 (hHeld.2.2.2.2.2.2.2.1)), (pw_cell_below hb3 (hHeld.2.2.2.2.2.2.2.2.1)), (pw_cell_below hb3 (hHeld.2.2.2.2.2.2.2.2.2.1)), (pw_cell_below hb3 (hHeld.2.2.2.2.2.2.2.2.2.2.1)), (pw_cell_below hb3 (hHeld.2.2.2.2.2.2.2.2.2.2.2.1)), (pw_cell_below hb3 (hHeld.2.2.2.2.2.2.2.2.2.2.2.2.1)), (pw_cell_below hb3 (hHeld.2.2.2.2.2.2.2.2.2.2.2.2.2.1)), (pw_cell_below hb3 (hHeld.2.2.2.2.2.2.2.2.2.2.2.2.2.2.1)), (pw_cell_below hb3 (hHeld.2.2.2.2.2.2.2.2.2.2.2.2.2.2.2.1)), (pw_cell_below hb3 (hHeld.2.2.2.2.2.2.2.2.2.2.2.2.2.2.2.2.1)), (pw_cell_below hb3 (hHeld.2.2.2.2.2.2.2.2.2.2.2.2.2.2.2.2.2.1)), (hHeld.2.2.2.2.2.2.2.2.2.2.2.2.2.2.2.2.2.2.1).below hb3, below_then (hHeld.2.2.2.2.2.2.2.2.2.2.2.2.2.2.2.2.2.2.2) (hHeld.2.2.2.2.2.2.2.2.2.2.2.2.2.2.2.2.2.2.2).size hb3⟩ (fun hHeld => ?_)
  clear hK K
  refine norm_ (a' := ?_) ?_ ?_
  rotate_left
  · show Act.put _ (some 89) _ = _
    simp only [Act.put, List.setIfInBounds_toArray, List.set_cons_zero, List.set_cons_succ, i64_w, i32_w]
    rfl
  refine pure_ (i := 27) (N := some 90) (v := ?_) (a' := ?_) #[true, true, true, true, true, true, true, true, true, true, true, true, true, true, true, true, true, true, true, true, true, true, true, true, true, true, true, true, false, false, false, false, false, false, false, false, false, false, false, false, false, false, false] rfl rfl (by kernel_rfl) (fun _ _ _ h => h) (Or.inl ⟨by rfl, ?_⟩) ?_ ?_
  rotate_left
  · intro w'
    go_simp
    with_reducible rfl
  rotate_left
  · simp only [Act.put, List.setIfInBounds_toArray, List.set_cons_zero, List.set_cons_succ, i64_w, i32_w]
    rfl
  refine pure_ (i := 28) (N := some 91) (v := ?_) (a' := ?_) #[true, true, true, true, true, true, true, true, true, true, true, true, true, true, true, true, true, true, true, true, true, true, true, true, true, true, true, true, true, false, false, false, false, false, false, false, false, false, false, false, false, false, false] rfl rfl (by kernel_rfl) (fun _ _ _ h => h) (Or.inl ⟨by rfl, ?_⟩) ?_ ?_
  rotate_left
  · intro w'
    go_simp
    with_reducible rfl
  rotate_left
  · simp only [Act.put, List.setIfInBounds_toArray, List.set_cons_zero, List.set_cons_succ, i64_w, i32_w]
    rfl
  refine pure_ (i := 29) (N := some 92) (v := ?_) (a' := ?_) #[true, true, true, true, true, true, true, true, true, true, true, true, true, true, true, true, true, true, true, true, true, true, true, true, true, true, true, true, true, true, false, false, false, false, false, false, false, false, false, false, false, false, false] rfl rfl (by kernel_rfl) (fun _ _ _ h => h) (Or.inl ⟨by rfl, ?_⟩) ?_ ?_
  rotate_left
  · intro w'
    go_simp
    with_reducible rfl
  rotate_left
  · simp only [Act.put, List.setIfInBounds_toArray, List.set_cons_zero, List.set_cons_succ, i64_w, i32_w]
    rfl
  refine pure_ (i := 30) (N := some 93) (v := ?_) (a' := ?_) #[true, true, true, true, true, true, true, true, true, true, true, true, true, true, true, true, true, true, true, true, true, true, true, true, true, true, true, true, true, true, true, false, false, false, false, false, false, false, false, false, false, false, false] rfl rfl (by kernel_rfl) (fun _ _ _ h => h) (Or.inl ⟨by rfl, ?_⟩) ?_ ?_
  rotate_left
  · intro w'
    go_simp
    with_reducible rfl
  rotate_left
  · simp only [Act.put, List.setIfInBounds_toArray, List.set_cons_zero, List.set_cons_succ, i64_w, i32_w]
    rfl
  refine pure_ (i := 31) (N := some 94) (v := ?_) (a' := ?_) #[true, true, true, true, true, true, true, true, true, true, true, true, true, true, true, true, true, true, true, true, true, true, true, true, true, true, true, true, true, true, true, true, false, false, false, false, false, false, false, false, false, false, false] rfl rfl (by kernel_rfl) (fun _ _ _ h => h) (Or.inl ⟨by rfl, ?_⟩) ?_ ?_
  rotate_left
  · intro w'
    go_simp
    with_reducible rfl
  rotate_left
  · simp only [Act.put, List.setIfInBounds_toArray, List.set_cons_zero, List.set_cons_succ, i64_w, i32_w]
    rfl
  refine pure_ (i := 32) (N := some 95) (v := ?_) (a' := ?_) #[true, true, true, true, true, true, true, true, true, true, true, true, true, true, true, true, true, true, true, true, true, true, true, true, true, true, true, true, true, true, true, true, true, false, false, false, false, false, false, false, false, false, false] rfl rfl (by kernel_rfl) (fun _ _ _ h => h) (Or.inl ⟨by rfl, ?_⟩) ?_ ?_
  rotate_left
  · intro w'
    go_simp
    with_reducible rfl
  rotate_left
  · simp only [Act.put, List.setIfInBounds_toArray, List.set_cons_zero, List.set_cons_succ, i64_w, i32_w]
    rfl
  refine pure_ (i := 33) (N := some 96) (v := ?_) (a' := ?_) #[true, true, true, true, true, true, true, true, true, true, true, true, true, true, true, true, true, true, true, true, true, true, true, true, true, true, true, true, true, true, true, true, true, true, false, false, false, false, false, false, false, false, false] rfl rfl (by kernel_rfl) (fun _ _ _ h => h) (Or.inl ⟨by rfl, ?_⟩) ?_ ?_
  rotate_left
  · intro w'
    go_simp
    with_reducible rfl
  rotate_left
  · simp only [Act.put, List.setIfInBounds_toArray, List.set_cons_zero, List.set_cons_succ, i64_w, i32_w]
    rfl
  refine pure_ (i := 34) (N := some 97) (v := ?_) (a' := ?_) #[true, true, true, true, true, true, true, true, true, true, true, true, true, true, true, true, true, true, true, true, true, true, true, true, true, true, true, true, true, true, true, true, true, true, true, false, false, false, false, false, false, false, false] rfl rfl (by kernel_rfl) (fun _ _ _ h => h) (Or.inl ⟨by rfl, ?_⟩) ?_ ?_
  rotate_left
  · intro w'
    go_simp
    with_reducible rfl
  rotate_left
  · simp only [Act.put, List.setIfInBounds_toArray, List.set_cons_zero, List.set_cons_succ, i64_w, i32_w]
    rfl
  refine pure_ (i := 35) (N := some 98) (v := ?_) (a' := ?_) #[true, true, true, true, true, true, true, true, true, true, true, true, true, true, true, true, true, true, true, true, true, true, true, true, true, true, true, true, true, true, true, true, true, true, true, true, false, false, false, false, false, false, false] rfl rfl (by kernel_rfl) (fun _ _ _ h => h) (Or.inl ⟨by rfl, ?_⟩) ?_ ?_
  rotate_left
  · intro w'
    go_simp
    with_reducible rfl
  rotate_left
  · simp only [Act.put, List.setIfInBounds_toArray, List.set_cons_zero, List.set_cons_succ, i64_w, i32_w]
    rfl
  refine pure_ (i := 36) (N := some 99) (v := ?_) (a' := ?_) #[true, true, true, true, true, true, true, true, true, true, true, true, true, true, true, true, true, true, true, true, true, true, true, true, true, true, true, true, true, true, true, true, true, true, true, true, true, false, false, false, false, false, false] rfl rfl (by kernel_rfl) (fun _ _ _ h => h) (Or.inl ⟨by rfl, ?_⟩) ?_ ?_
  rotate_left
  · intro w'
    go_simp
    with_reducible rfl
  rotate_left
  · simp only [Act.put, List.setIfInBounds_toArray, List.set_cons_zero, List.set_cons_succ, i64_w, i32_w]
    rfl
  refine pure_ (i := 37) (N := some 100) (v := ?_) (a' := ?_) #[true, true, true, true, true, true, true, true, true, true, true, true, true, true, true, true, true, true, true, true, true, true, true, true, true, true, true, true, true, true, true, true, true, true, true, true, true, true, false, false, false, false, false] rfl rfl (by kernel_rfl) (fun _ _ _ h => h) (Or.inl ⟨by rfl, ?_⟩) ?_ ?_
  rotate_left
  · intro w'
    go_simp
    with_reducible rfl
  rotate_left
  · simp only [Act.put, List.setIfInBounds_toArray, List.set_cons_zero, List.set_cons_succ, i64_w, i32_w]
    rfl
  refine pure_ (i := 38) (N := some 101) (v := ?_) (a' := ?_) #[true, true, true, true, true, true, true, true, true, true, true, true, true, true, true, true, true, true, true, true, true, true, true, true, true, true, true, true, true, true, true, true, true, true, true, true, true, true, true, false, false, false, false] rfl rfl (by kernel_rfl) (fun _ _ _ h => h) (Or.inl ⟨by rfl, ?_⟩) ?_ ?_
  rotate_left
  · intro w'
    go_simp
    with_reducible rfl
  rotate_left
  · simp only [Act.put, List.setIfInBounds_toArray, List.set_cons_zero, List.set_cons_succ, i64_w, i32_w]
    rfl
  refine one_ (i := 39) (N := some 102) #[true, true, true, true, true, true, true, true, true, true, true, true, true, true, true, true, true, true, true, true, true, true, true, true, true, true, true, true, true, true, true, true, true, true, true, true, true, true, true, true, false, false, false] rfl rfl (by kernel_rfl) (by decide) (fun K hK => ?_)
  refine goes_ Try.func13 (by kernel_rfl) rfl #[.pointer (some ⟨g, 0, none⟩)] (by rfl) rfl rfl (by simp only [List.map_toArray, List.map_cons, List.map_nil]; rfl) ?_
  with_reducible refine (room_q (hHeld.2.2.2.2.2.2.2.2.2.2.2.2.2.2.2.2.2.2.1)).mono ?_
  rintro e w3 ⟨rfl, n3, rfl⟩
  refine ⟨_, rfl, ?_⟩
  refine hK.out _ _ ⟨hHeld.1, hHeld.2.1, hHeld.2.2.1, hHeld.2.2.2.1, hHeld.2.2.2.2.1, hHeld.2.2.2.2.2.1, hHeld.2.2.2.2.2.2.1, hHeld.2.2.2.2.2.2.2.1, hHeld.2.2.2.2.2.2.2.2.1, hHeld.2.2.2.2.2.2.2.2.2.1, hHeld.2.2.2.2.2.2.2.2.2.2.1, hHeld.2.2.2.2.2.2.2.2.2.2.2.1, hHeld.2.2.2.2.2.2.2.2.2.2.2.2.1, hHeld.2.2.2.2.2.2.2.2.2.2.2.2.2.1, hHeld.2.2.2.2.2.2.2.2.2.2.2.2.2.2.1, hHeld.2.2.2.2.2.2.2.2.2.2.2.2.2.2.2.1, hHeld.2.2.2.2.2.2.2.2.2.2.2.2.2.2.2.2.1, hHeld.2.2.2.2.2.2.2.2.2.2.2.2.2.2.2.2.2.1, (hHeld.2.2.2.2.2.2.2.2.2.2.2.2.2.2.2.2.2.2.1).drewN n3, pw_below_drewN (hHeld.2.2.2.2.2.2.2.2.2.2.2.2.2.2.2.2.2.2.2) n3⟩ (fun hHeld => ?_)
  clear hK K
  refine norm_ (a' := ?_) ?_ ?_
  rotate_left
  · show Act.put _ (some 102) _ = _
    simp only [Act.put, List.setIfInBounds_toArray, List.set_cons_zero, List.set_cons_succ, i64_w, i32_w]
    rfl
  refine pure_ (i := 40) (N := some 103) (v := ?_) (a' := ?_) #[true, true, true, true, true, true, true, true, true, true, true, true, true, true, true, true, true, true, true, true, true, true, true, true, true, true, true, true, true, true, true, true, true, true, true, true, true, true, true, true, true, false, false] rfl rfl (by kernel_rfl) (fun _ _ _ h => h) (Or.inl ⟨by rfl, ?_⟩) ?_ ?_
  rotate_left
  · intro w'
    go_simp
    with_reducible rfl
  rotate_left
  · simp only [Act.put, List.setIfInBounds_toArray, List.set_cons_zero, List.set_cons_succ, i64_w, i32_w]
    rfl
  refine pure_ (i := 41) (N := some 104) (v := ?_) (a' := ?_) #[true, true, true, true, true, true, true, true, true, true, true, true, true, true, true, true, true, true, true, true, true, true, true, true, true, true, true, true, true, true, true, true, true, true, true, true, true, true, true, true, true, true, false] rfl rfl (by kernel_rfl) (fun _ _ _ h => h) (Or.inl ⟨by rfl, ?_⟩) ?_ ?_
  rotate_left
  · intro w'
    go_simp
    with_reducible rfl
  rotate_left
  · simp only [Act.put, List.setIfInBounds_toArray, List.set_cons_zero, List.set_cons_succ, i64_w, i32_w]
    rfl
  refine pure_ (i := 42) (N := some 0) (v := ?_) (a' := ?_) #[true, true, true, true, true, true, true, true, true, true, true, true, true, true, true, true, true, true, true, true, true, true, true, true, true, true, true, true, true, true, true, true, true, true, true, true, true, true, true, true, true, true, true] rfl rfl (by kernel_rfl) (fun _ _ _ h => h) (Or.inl ⟨by rfl, ?_⟩) ?_ ?_
  rotate_left
  · intro w'
    go_simp
    with_reducible rfl
  rotate_left
  · simp only [Act.put, List.setIfInBounds_toArray, List.set_cons_zero, List.set_cons_succ, i64_w, i32_w]
    rfl
  refine done_ (by kernel_rfl) ?_
  go_wp2
  go_ret
  exact ⟨rfl, hHeld.2.2.2.2.2.2.2.2.2.2.2.2.2.2.2.2.2.2.2⟩
end Go.Proofs.Ytmdmoedakmoibaa.P
