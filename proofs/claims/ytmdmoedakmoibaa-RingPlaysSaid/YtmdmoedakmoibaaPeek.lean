/- The ring's Peek, Many, Room: what they answer. -/
import Derived.Test.YtmdmoedakmoibaaRing

namespace Go.Proofs.Ytmdmoedakmoibaa.P
open Go.RowKit Go.Proofs.YtmdmoedakmoibaaW.PrintWords Go.Proofs.YtmdmoedakmoibaaW.PrintLast Go.Proofs.YtmdmoedakmoibaaW.PrintMore
set_option linter.unusedVariables false
set_option linter.unusedSimpArgs false

theorem el_cells {w : World} {g B room cap head held : Nat} {E : List S31} (h : RingX w g B room cap head held E) (p : Nat) (hp : p < room) :
    w.cell? ⟨B, p * 6, none⟩ = some (.int .i64 (E.getD p z31).f0) ∧ w.cell? ⟨B, p * 6 + 1, none⟩ = some (.int .i64 (E.getD p z31).f1) ∧ w.cell? ⟨B, p * 6 + 2, none⟩ = some (.int .i64 (E.getD p z31).f2) ∧
    w.cell? ⟨B, p * 6 + 3, none⟩ = some (.int .u64 (E.getD p z31).f3) ∧ w.cell? ⟨B, p * 6 + 4, none⟩ = some (.int .u64 (E.getD p z31).f4) ∧ w.cell? ⟨B, p * 6 + 5, none⟩ = some (.string (E.getD p z31).f5) := by
  obtain ⟨c, hcl, hcM, hcc, _⟩ := Kd.R_elem h.buf z31 (p : Int) (by omega) (by omega)
  rw [Int.toNat_natCast] at hcc hcM
  have hsz : k31.sz = 6 := rfl
  rw [hsz] at hcc
  obtain rfl := k31_openM hcM
  exact ⟨hcc 0 _ rfl, hcc 1 _ rfl, hcc 2 _ rfl, hcc 3 _ rfl, hcc 4 _ rfl, hcc 5 _ rfl⟩

set_option maxHeartbeats 1600000 in
theorem many_any {w : World} {g B room cap head held : Nat} {E : List S31} (h : RingX w g B room cap head held E) :
    Calls Try.prog 11 #[.pointer (some ⟨g, 0, none⟩)] w fun e w' => e = .returned (.int .i64 held) ∧ ∃ n, w' = w.drewN n := by
  have c2 := h.c2
  clear h
  go_enter Try.func11, Try.ntmps11
  go_wp2
  go_ret
  exact ⟨rfl, 0, rfl⟩
set_option maxHeartbeats 1600000 in
theorem room_any {w : World} {g B room cap head held : Nat} {E : List S31} (h : RingX w g B room cap head held E) :
    Calls Try.prog 13 #[.pointer (some ⟨g, 0, none⟩)] w fun e w' => e = .returned (.int .i64 room) ∧ ∃ n, w' = w.drewN n := by
  have c0 := h.c0
  clear h
  go_enter Try.func13, Try.ntmps13
  go_wp2
  go_ret
  exact ⟨rfl, 0, rfl⟩
set_option maxHeartbeats 1600000 in
theorem peek_none {w : World} {g B room cap head held : Nat} {E : List S31} (h : RingX w g B room cap head held E) (i : Int) (hi : i < 0 ∨ (held : Int) ≤ i) :
    Calls Try.prog 18 #[.pointer (some ⟨g, 0, none⟩), .int .i64 i] w fun e w' => e = .returned (.tuple #[entV z31, .bool false]) ∧ Below w.heap.size w w' := by
  have c2 := (h.alloc (.cells #[.int .i64 0, .int .i64 0, .int .i64 0, .int .u64 0, .int .u64 0, .string ⟨#[]⟩] 31)).c2
  clear h
  have HB := Aside0.mk (below_alloc (Below.refl w.heap.size w) (.cells #[.int .i64 0, .int .i64 0, .int .i64 0, .int .u64 0, .int .u64 0, .string ⟨#[]⟩] 31))
  by_cases h0 : i < 0
  · have d0 : decide (i < 0) = true := decide_eq_true h0
    go_enter Try.func18, Try.ntmps18
    go_wp2
    refine bodyPost_ret (v := .tuple #[entV z31, .bool false]) (by simp [results, Try.results18, go_sem, entV, z31]) rfl ⟨rfl, HB.out⟩
  · have d0 : decide (i < 0) = false := decide_eq_false h0
    have d1 : decide ((held : Int) ≤ i) = true := decide_eq_true (by omega)
    go_enter Try.func18, Try.ntmps18
    go_wp2
    refine bodyPost_ret (v := .tuple #[entV z31, .bool false]) (by simp [results, Try.results18, go_sem, entV, z31]) rfl ⟨rfl, HB.out⟩
set_option maxHeartbeats 1600000 in
theorem peek_some {w : World} {g B room cap head held : Nat} {E : List S31} (h : RingX w g B room cap head held E) (i : Nat) (hi : i < held) :
    Calls Try.prog 18 #[.pointer (some ⟨g, 0, none⟩), .int .i64 i] w fun e w' => e = .returned (.tuple #[entV (E.getD ((head + i) % room) z31), .bool true]) ∧ Below w.heap.size w w' := by
  have h2 := h.alloc (.cells #[.int .i64 0, .int .i64 0, .int .i64 0, .int .u64 0, .int .u64 0, .string ⟨#[]⟩] 31)
  have c2 := h2.c2
  have hh := h.heldLe
  have hr := h.roomLe
  have hpos : (head + i) % room < room := Nat.mod_lt _ (by omega)
  have d0 : decide ((i : Int) < 0) = false := decide_eq_false (by omega)
  have d1 : decide ((held : Int) ≤ i) = false := decide_eq_false (by omega)
  have H2 := Aside0.mk h2
  have HB := Aside0.mk (below_alloc (Below.refl w.heap.size w) (.cells #[.int .i64 0, .int .i64 0, .int .i64 0, .int .u64 0, .int .u64 0, .string ⟨#[]⟩] 31))
  go_enter Try.func18, Try.ntmps18
  go_wp2_with fail
  refine (at_any H2.out i (by omega) (by omega)).mono ?_
  rintro e w2 ⟨rfl, n3, rfl⟩
  have R3 := H2.out.drewN n3
  obtain ⟨x0, x1, x2, x3, x4, x5⟩ := el_cells R3 _ hpos
  obtain ⟨p, hp⟩ : ∃ p, (head + i) % room = p := ⟨_, rfl⟩
  rw [hp] at x0 x1 x2 x3 x4 x5 hpos ⊢
  obtain ⟨x, hx⟩ : ∃ x, E.getD p z31 = x := ⟨_, rfl⟩
  rw [hx] at x0 x1 x2 x3 x4 x5
  have HP := Aside0.mk hp
  have HX := Aside0.mk hx
  clear hp hx
  go_wp2
  refine bodyPost_ret (v := .tuple #[entV x, .bool true]) (by simp [results, Try.results18, go_sem, entV]) rfl ⟨by rw [HP.out, HX.out], ?_⟩
  have b0 := pw_below_drewN HB.out n3
  exact (((((b0.setCell (Nat.le_refl _) _).setCell (Nat.le_refl _) _).setCell (Nat.le_refl _) _).setCell (Nat.le_refl _) _).setCell (Nat.le_refl _) _).setCell (Nat.le_refl _) _
end Go.Proofs.Ytmdmoedakmoibaa.P
