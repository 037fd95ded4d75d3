/- The ring's Push: what it answers and leaves. -/
import Derived.Test.YtmdmoedakmoibaaRing
namespace Go.Proofs.Ytmdmoedakmoibaa.P
open Go.RowKit Go.Proofs.YtmdmoedakmoibaaW.PrintWords Go.Proofs.YtmdmoedakmoibaaW.PrintLast Go.Proofs.YtmdmoedakmoibaaW.PrintMore
set_option linter.unusedVariables false
set_option linter.unusedSimpArgs false

set_option maxHeartbeats 1600000 in
theorem push_room {w : World} {g B room cap head held : Nat} {E : List S31} (h : RingX w g B room cap head held E) (hr : held < room) (x : S31) :
    Calls Try.prog 9 #[.pointer (some ⟨g, 0, none⟩), entV x] w fun e w' => e = .returned (.bool true) ∧ RingX w' g B room cap head (held + 1) (E.set ((head + held) % room) x) ∧ Only w w' g B := by
  have h2 := h.alloc (.cells (ent x).toArray 31)
  have HO := Aside0.mk (Only.of_below (below_alloc (Below.refl w.heap.size w) (.cells (ent x).toArray 31)) g B)
  have HX := Aside0.mk (Boxed.new w x)
  have HG := Aside0.mk h.lt
  have HBl := Aside0.mk h.Blt
  have c0 := h2.c0
  have c2 := h2.c2
  have f2 := h2.fr 2
  have h1 := h.roomLe
  have H2 := Aside0.mk h2
  clear h h2
  have hd : ((held : Int) == room) = false := beq_eq_false_iff_ne.mpr (by omega)
  unfold entV
  go_enter Try.func9, Try.ntmps9
  go_wp2
  change Code.wp _ _ _ _ (w.alloc (.cells (ent x).toArray 31))
  generalize w.alloc (.cells (ent x).toArray 31) = W at c0 c2 HO H2 HX f2
  go_quiet (fail)
  go_wp2
  have R2 : RingX ((W.drewN nq).setCell ⟨g, 2, none⟩ (.int .i64 ((held : Int) + 1))) g B room cap head (held + 1) E := (H2.out.drewN nq).setHeld (held + 1) (by omega)
  have O2 : Only w ((W.drewN nq).setCell ⟨g, 2, none⟩ (.int .i64 ((held : Int) + 1))) g B := (HO.out.drewN nq).setCell (.inl rfl) _
  have X2 : Boxed ((W.drewN nq).setCell ⟨g, 2, none⟩ (.int .i64 ((held : Int) + 1))) w.heap.size x := HX.out.only (((Only.refl W g B).drewN nq).setCell (.inl rfl) _) (by have := HG.out; omega) (by have := HBl.out; omega)
  generalize (W.drewN nq).setCell ⟨g, 2, none⟩ (.int .i64 ((held : Int) + 1)) = W2 at R2 O2 X2
  have k2 : W2.cell? ⟨g, 2, none⟩ = some (.int .i64 ((held : Int) + 1)) := R2.c2
  obtain ⟨x0, x1, x2, x3, x4, x5⟩ := X2.cells
  have hpos : (head + held) % room < room := Nat.mod_lt _ (by omega)
  have hw : IntKind.i64.wrap (held : Int) = (held : Int) := IntWalk.i64_in _ (by omega)
  clear c0 c2 f2 HX HO H2 X2
  refine start_ (n := 10) (S := fun w' => w'.cell? ⟨g, 2, none⟩ = some (.int .i64 ((held : Int) + 1)) ∧ w'.cell? ⟨w.heap.size, 0, none⟩ = some (.int .i64 x.f0) ∧ w'.cell? ⟨w.heap.size, 1, none⟩ = some (.int .i64 x.f1) ∧ w'.cell? ⟨w.heap.size, 2, none⟩ = some (.int .i64 x.f2) ∧ w'.cell? ⟨w.heap.size, 3, none⟩ = some (.int .u64 x.f3) ∧ w'.cell? ⟨w.heap.size, 4, none⟩ = some (.int .u64 x.f4) ∧ w'.cell? ⟨w.heap.size, 5, none⟩ = some (.string x.f5) ∧ RingX w' g B room cap head (held + 1) E ∧ Only w w' g B) (ds := [9]) #[false, false, false, false, false, false, false, false, false, false] (by kernel_rfl) rfl rfl ⟨k2, x0, x1, x2, x3, x4, x5, R2.drew, O2.drew⟩ (fun hHeld => ?_)
  refine pure_ (i := 0) (N := some 22) (v := ?_) (a' := ?_) #[true, false, false, false, false, false, false, false, false, false] rfl rfl (by kernel_rfl) (fun _ _ _ h => h) (Or.inl ⟨by rfl, ?_⟩) ?_ ?_
  rotate_left
  · intro w'
    go_simp
    with_reducible rfl
  rotate_left
  · simp only [Act.put, List.setIfInBounds_toArray, List.set_cons_zero, List.set_cons_succ, i64_w, i32_w]
    rfl
  refine pure_ (i := 1) (N := some 23) (v := ?_) (a' := ?_) #[true, true, false, false, false, false, false, false, false, false] rfl rfl (by kernel_rfl) (fun _ _ _ h => h) (Or.inl ⟨by rfl, ?_⟩) ?_ ?_
  rotate_left
  · intro w'
    go_simp
    with_reducible rfl
  rotate_left
  · simp only [Act.put, List.setIfInBounds_toArray, List.set_cons_zero, List.set_cons_succ, i64_w, i32_w]
    rfl
  refine pure_ (i := 2) (N := some 24) (v := ?_) (a' := ?_) #[true, true, true, false, false, false, false, false, false, false] rfl rfl (by kernel_rfl) (fun _ _ _ h => h) (Or.inl ⟨by rfl, ?_⟩) ?_ ?_
  rotate_left
  · intro w'
    go_simp
    with_reducible rfl
  rotate_left
  · simp only [Act.put, List.setIfInBounds_toArray, List.set_cons_zero, List.set_cons_succ, i64_w, i32_w]
    rfl
  refine pure_ (i := 3) (N := some 25) (v := ?_) (a' := ?_) #[true, true, true, true, false, false, false, false, false, false] rfl rfl (by kernel_rfl) (fun _ _ _ h => h) (Or.inl ⟨by rfl, ?_⟩) ?_ ?_
  rotate_left
  · intro w'
    go_simp
    with_reducible rfl
  rotate_left
  · simp only [Act.put, List.setIfInBounds_toArray, List.set_cons_zero, List.set_cons_succ, i64_w, i32_w]
    rfl
  refine take_ (i := 4) (N := some 26) (v := ?_) (a' := ?_) #[true, true, true, true, true, false, false, false, false, false] rfl rfl (by kernel_rfl) (fun _ _ _ h => h) (Or.inl ⟨by rfl, ?_⟩) hHeld ?_ ?_
  rotate_left
  · rintro w' ⟨s0, s1, s2, s3, s4, s5, s6, s7, s8⟩
    go_simp
    with_reducible rfl
  rotate_left
  · simp only [Act.put, List.setIfInBounds_toArray, List.set_cons_zero, List.set_cons_succ, i64_w, i32_w]
    rfl
  refine pure_ (i := 5) (N := some 27) (v := ?_) (a' := ?_) #[true, true, true, true, true, true, false, false, false, false] rfl rfl (by kernel_rfl) (fun _ _ _ h => h) (Or.inl ⟨by rfl, ?_⟩) ?_ ?_
  rotate_left
  · intro w'
    go_simp
    with_reducible rfl
  rotate_left
  · simp only [Act.put, List.setIfInBounds_toArray, List.set_cons_zero, List.set_cons_succ, i64_w, i32_w]
    rfl
  refine take_ (i := 7) (N := some 29) (v := ?_) (a' := ?_) #[true, true, true, true, true, true, false, true, false, false] rfl rfl (by kernel_rfl) (fun _ _ _ h => h) (Or.inl ⟨by rfl, ?_⟩) hHeld ?_ ?_
  rotate_left
  · rintro w' ⟨s0, s1, s2, s3, s4, s5, s6, s7, s8⟩
    go_simp
    with_reducible rfl
  rotate_left
  · simp only [Act.put, List.setIfInBounds_toArray, List.set_cons_zero, List.set_cons_succ, i64_w, i32_w]
    rfl
  refine one_ (i := 6) (N := some 28) #[true, true, true, true, true, true, true, true, false, false] rfl rfl (by kernel_rfl) (by decide) (fun K hK => ?_)
  refine goes_ Try.func20 (by kernel_rfl) rfl #[.pointer (some ⟨g, 0, none⟩), .int .i64 held] (by rfl) rfl rfl (by simp only [List.map_toArray, List.map_cons, List.map_nil]; rfl) ?_
  with_reducible refine (at_any hHeld.2.2.2.2.2.2.2.1 held (by omega) (by omega)).mono ?_
  rintro e w3 ⟨rfl, n3, rfl⟩
  refine ⟨_, rfl, ?_⟩
  refine hK.out _ _ ⟨hHeld.1, hHeld.2.1, hHeld.2.2.1, hHeld.2.2.2.1, hHeld.2.2.2.2.1, hHeld.2.2.2.2.2.1, hHeld.2.2.2.2.2.2.1, (hHeld.2.2.2.2.2.2.2.1).drewN n3, (hHeld.2.2.2.2.2.2.2.2).drewN n3⟩ (fun hHeld => ?_)
  clear hK K
  refine norm_ (a' := ?_) ?_ ?_
  rotate_left
  · show Act.put _ (some 28) _ = _
    simp only [Act.put, List.setIfInBounds_toArray, List.set_cons_zero, List.set_cons_succ, i64_w, i32_w]
    rfl
  refine pure_ (i := 8) (N := some 30) (v := ?_) (a' := ?_) #[true, true, true, true, true, true, true, true, true, false] rfl rfl (by kernel_rfl) (fun _ _ _ h => h) (Or.inl ⟨by rfl, ?_⟩) ?_ ?_
  rotate_left
  · intro w'
    go_simp
    with_reducible rfl
  rotate_left
  · simp only [Act.put, List.setIfInBounds_toArray, List.set_cons_zero, List.set_cons_succ, i64_w, i32_w]
    rfl
  refine last_ (i := 9) (N := none) #[true, true, true, true, true, true, true, true, true, true] rfl rfl (by kernel_rfl) (by decide) (fun K hK => ?_)
  refine skip_ (w1 := _) (by rfl) rfl (store_step rfl rfl rfl (store_el (x := x) (hHeld.2.2.2.2.2.2.2.1) _ hpos).1) ?_
  refine hK.out _ _ ?_
  clear hK K
  refine done_ (by kernel_rfl) ?_
  go_wp2
  go_ret
  have hs := store_el (R2.drew.drewN n3) _ hpos (x := x)
  exact ⟨rfl, hs.2.1, (O2.drew.drewN n3).trans hs.2.2⟩
end Go.Proofs.Ytmdmoedakmoibaa.P
