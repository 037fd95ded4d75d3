/- The ring's Pop: what it answers and leaves. -/
import Derived.Test.YtmdmoedakmoibaaPeek
import Derived.StillTailTactics
namespace Go.Proofs.Ytmdmoedakmoibaa.P
open Go.RowKit Go.Proofs.YtmdmoedakmoibaaW.PrintWords Go.Proofs.YtmdmoedakmoibaaW.PrintLast Go.Proofs.YtmdmoedakmoibaaW.PrintMore
set_option linter.unusedVariables false
set_option linter.unusedSimpArgs false

theorem at_zero {w : World} {g B room cap head held : Nat} {E : List S31} (h : RingX w g B room cap head held E) (h0 : 0 < room) :
    Calls Try.prog 20 #[.pointer (some ⟨g, 0, none⟩), .int .i64 0] w fun e w' => e = .returned (.pointer (some ⟨B, (head % room) * 6, none⟩)) ∧ ∃ n, w' = w.drewN n := at_any h 0 (by omega) h0
theorem peek_zero {w : World} {g B room cap head held : Nat} {E : List S31} (h : RingX w g B room cap head held E) (h0 : 0 < held) :
    Calls Try.prog 18 #[.pointer (some ⟨g, 0, none⟩), .int .i64 0] w fun e w' => e = .returned (.tuple #[entV (E.getD (head % room) z31), .bool true]) ∧ Below w.heap.size w w' := peek_some h 0 h0

theorem Only.setNew {w w' : World} {g B : Nat} (h : Only w w' g B) {p : Addr} (hp : w.heap.size ≤ p.block) (u : Value) : Only w (w'.setCell p u) g B :=
  ⟨h.os, h.tape, h.output, by simp [World.setCell]; exact h.size, fun k hk h1 h2 => (Below.heap_setCell _ _ _ _ (by omega)).trans (h.block k hk h1 h2)⟩
theorem RingX.far {w : World} {g B room cap head held : Nat} {E : List S31} (h : RingX w g B room cap head held E) {p : Addr} (hg : p.block ≠ g) (hB : p.block ≠ B) (u : Value) : RingX (w.setCell p u) g B room cap head held E :=
  ⟨h.len, h.heldLe, h.roomLe, h.headLt, (Below.heap_setCell _ _ _ _ (fun e => hg e.symm)).trans h.blk, Kd.R_far h.buf (fun k hk => by rw [hk]; exact fun e => hB e.symm) _, h.ne⟩
set_option maxHeartbeats 1600000 in
theorem pop_none {w : World} {g B room cap head : Nat} {E : List S31} (h : RingX w g B room cap head 0 E) :
    Calls Try.prog 10 #[.pointer (some ⟨g, 0, none⟩)] w fun e w' => e = .returned (.tuple #[entV z31, .bool false]) ∧ Below w.heap.size w w' := by
  have H2 := Aside0.mk (h.alloc (.cells #[.int .i64 0, .int .i64 0, .int .i64 0, .int .u64 0, .int .u64 0, .string ⟨#[]⟩] 31))
  have HB := Aside0.mk (below_alloc (Below.refl w.heap.size w) (.cells #[.int .i64 0, .int .i64 0, .int .i64 0, .int .u64 0, .int .u64 0, .string ⟨#[]⟩] 31))
  have HX := Aside0.mk (blk_new w (.cells #[.int .i64 0, .int .i64 0, .int .i64 0, .int .u64 0, .int .u64 0, .string ⟨#[]⟩] 31))
  go_enter Try.func10, Try.ntmps10
  go_wp2_with fail
  refine (peek_none H2.out 0 (.inr (by decide))).mono ?_
  rintro e w2 ⟨rfl, hb⟩
  have HB2 := Aside0.mk (below_then HB.out HB.out.size hb)
  have X2 : Boxed w2 w.heap.size z31 := Boxed.below ⟨HX.out⟩ hb
  obtain ⟨x0, x1, x2, x3, x4, x5⟩ := X2.cells
  have hlt : w.heap.size < w2.heap.size := blk_lt X2.blk
  have fz : ∀ j, w2.frozen? ⟨w.heap.size, j, none⟩ = false := fun j => blk_frozen X2.blk j
  clear hb X2 HX
  unfold entV
  go_wp2
  refine bodyPost_ret (v := .tuple #[entV z31, .bool false]) (by simp [results, Try.results10, go_sem, entV, x0, x1, x2, x3, x4, x5, hlt]) rfl ⟨rfl, ?_⟩
  exact ((((((HB2.out.setCell (Nat.le_refl _) _).setCell (Nat.le_refl _) _).setCell (Nat.le_refl _) _).setCell (Nat.le_refl _) _).setCell (Nat.le_refl _) _).setCell (Nat.le_refl _) _).alloc (by simp; omega) _
set_option maxHeartbeats 3200000 in
theorem pop_some {w : World} {g B room cap head held : Nat} {E : List S31} (h : RingX w g B room cap head held E) (h0 : 0 < held) :
    Calls Try.prog 10 #[.pointer (some ⟨g, 0, none⟩)] w fun e w' => e = .returned (.tuple #[entV (E.getD (head % room) z31), .bool true]) ∧ RingX w' g B room cap ((head + 1) % room) (held - 1) (E.set (head % room) z31) ∧ Only w w' g B := by
  have h64 := h.roomLe
  have hh := h.heldLe
  have hpos : head % room < room := Nat.mod_lt _ (by omega)
  have hpos2 : (head + 1) % room < room := Nat.mod_lt _ (by omega)
  have hlt0 := h.headLt (by omega)
  have hm : ((head : Int) + 1).tmod room = (((head + 1) % room : Nat) : Int) := by
    have : ((head : Int) + 1) = ((head + 1 : Nat) : Int) := by omega
    rw [this]; exact (Int.ofNat_tmod _ _).symm
  have HG := Aside0.mk h.lt
  have HBl := Aside0.mk h.Blt
  have H2 := Aside0.mk (h.alloc (.cells #[.int .i64 0, .int .i64 0, .int .i64 0, .int .u64 0, .int .u64 0, .string ⟨#[]⟩] 31))
  have HO := Aside0.mk (Only.of_below (below_alloc (Below.refl w.heap.size w) (.cells #[.int .i64 0, .int .i64 0, .int .i64 0, .int .u64 0, .int .u64 0, .string ⟨#[]⟩] 31)) g B)
  have HX := Aside0.mk (blk_new w (.cells #[.int .i64 0, .int .i64 0, .int .i64 0, .int .u64 0, .int .u64 0, .string ⟨#[]⟩] 31))
  clear h
  go_enter Try.func10, Try.ntmps10
  go_wp2_with fail
  refine (peek_zero H2.out h0).mono ?_
  rintro e w2 ⟨rfl, hb⟩
  obtain ⟨x, hx⟩ : ∃ x, E.getD (head % room) z31 = x := ⟨_, rfl⟩
  have HEX := Aside0.mk hx
  rw [hx]
  clear hx
  have R2 := H2.out.below hb
  have O2 := HO.out.trans (Only.of_below hb g B)
  have X2 : Boxed w2 w.heap.size z31 := Boxed.below ⟨HX.out⟩ hb
  have hlt : w.heap.size < w2.heap.size := blk_lt X2.blk
  -- the second box
  have R3 := Aside0.mk (R2.alloc (.cells (ent x).toArray 31))
  have O3 := Aside0.mk (O2.alloc (.cells (ent x).toArray 31))
  have X3 := Aside0.mk (X2.below (below_alloc (Below.refl _ _) (.cells (ent x).toArray 31)))
  have Y3 := Aside0.mk (Boxed.new w2 x)
  have HL := Aside0.mk hlt
  clear hb R2 O2 X2 H2 HO HX
  unfold entV
  go_wp2_with fail
  change Calls _ _ _ (w2.alloc (.cells (ent x).toArray 31)) _
  generalize w2.alloc (.cells (ent x).toArray 31) = W at R3 O3 X3 Y3
  refine (at_zero R3.out (by omega)).mono ?_
  rintro e w4 ⟨rfl, n4, rfl⟩
  have R4 := Aside0.mk (R3.out.drewN n4)
  have O4 := Aside0.mk (O3.out.drewN n4)
  have X4 := Aside0.mk (X3.out.below (pw_below_drewN (Below.refl _ _) n4))
  have Y4 := Aside0.mk (Y3.out.below (pw_below_drewN (Below.refl _ _) n4))
  clear R3 O3 X3 Y3
  generalize W.drewN n4 = W4 at R4 O4 X4 Y4
  have hst := (store_el R4.out (head % room) hpos (x := z31))
  have O5 := Aside0.mk (O4.out.trans hst.2.2)
  have R5 := Aside0.mk hst.2.1
  have X5 := Aside0.mk (X4.out.only hst.2.2 (by have := HG.out; omega) (by have := HBl.out; omega))
  have Y5 := Aside0.mk (Y4.out.only hst.2.2 (by have := HG.out; have := HL.out; omega) (by have := HBl.out; have := HL.out; omega))
  have HST := Aside0.mk hst.1
  clear hst R4 O4 X4 Y4
  go_wp2_with (first | ((with_reducible refine gate_store (t := 31) (p := 15) rfl ?_); refine store_event (t := 31) (p := 15) (w1 := _) rfl rfl rfl (store_step rfl rfl rfl HST.out) ?_; intro w5 hw5; rw [← hw5] at R5 O5 X5 Y5; clear hw5))
  have c0 := R5.out.c0
  have c1 := R5.out.c1
  have hw1 : IntKind.i64.wrap ((head : Int) + 1) = (head : Int) + 1 := IntWalk.i64_in _ (by omega)
  have hr0 : ((room : Int) == 0) = false := beq_eq_false_iff_ne.mpr (by omega)
  have hrz : ¬ room = 0 := by omega
  obtain ⟨nh, hnh⟩ : ∃ nh, (head + 1) % room = nh := ⟨_, rfl⟩
  have HN := Aside0.mk hnh
  rw [hnh] at hm hpos2
  clear hnh
  have hw2 : IntKind.i64.wrap (nh : Int) = (nh : Int) := IntWalk.i64_in _ (by omega)
  have hfr := R5.out.fr 1
  go_still_tail 14, (by kernel_rfl)
  change wpList _ _ _ _ _ w5.drew
  have k1 : w5.drew.cell? ⟨g, 1, none⟩ = some (.int .i64 head) := c1
  have hf1 : w5.drew.frozen? ⟨g, 1, none⟩ = false := hfr
  have R6 := Aside0.mk (R5.out.drew.setHead nh (fun _ => hpos2))
  have O6 := Aside0.mk (O5.out.drew.setCell (p := ⟨g, 1, none⟩) (.inl rfl) (.int .i64 nh))
  have X6 := Aside0.mk ((X5.out.below (below_drew (Below.refl _ _))).only ((Only.refl w5.drew g B).setCell (p := ⟨g, 1, none⟩) (.inl rfl) (.int .i64 nh)) (by have := HG.out; omega) (by have := HBl.out; omega))
  have Y6 := Aside0.mk ((Y5.out.below (below_drew (Below.refl _ _))).only ((Only.refl w5.drew g B).setCell (p := ⟨g, 1, none⟩) (.inl rfl) (.int .i64 nh)) (by have := HG.out; have := HL.out; omega) (by have := HBl.out; have := HL.out; omega))
  generalize w5.drew = w6 at k1 hf1 R6 O6 X6 Y6
  clear c0 c1 hfr R5 O5 X5 Y5
  refine store_event (t := 3) (p := 29) (w1 := w6.setCell ⟨g, 1, none⟩ (.int .i64 nh)) rfl rfl rfl ?hr ?_
  case hr => go_simp
  intro w7 hw7
  rw [← hw7] at R6 O6 X6 Y6
  clear hw7 k1 hf1
  have k2 := R6.out.c2
  have hf2 := R6.out.fr 2
  have h1h : ((held - 1 : Nat) : Int) = (held : Int) - 1 := by omega
  have R8 := Aside0.mk (R6.out.setHeld (held - 1) (by omega))
  have O8 := Aside0.mk (O6.out.setCell (p := ⟨g, 2, none⟩) (.inl rfl) (.int .i64 ((held - 1 : Nat) : Int)))
  have X8 := Aside0.mk (X6.out.only ((Only.refl w7 g B).setCell (p := ⟨g, 2, none⟩) (.inl rfl) (.int .i64 ((held - 1 : Nat) : Int))) (by have := HG.out; omega) (by have := HBl.out; omega))
  have Y8 := Aside0.mk (Y6.out.only ((Only.refl w7 g B).setCell (p := ⟨g, 2, none⟩) (.inl rfl) (.int .i64 ((held - 1 : Nat) : Int))) (by have := HG.out; have := HL.out; omega) (by have := HBl.out; have := HL.out; omega))
  rw [h1h] at R8 O8 X8 Y8
  clear h1h R6 O6 X6 Y6
  go_wp2_with (first | ((with_reducible refine gate_store (t := 3) (p := 36) rfl ?_); refine store_event (t := 3) (p := 36) (w1 := w7.setCell ⟨g, 2, none⟩ (.int .i64 ((held : Int) - 1))) rfl rfl rfl ?hr2 ?_; (case hr2 => go_simp); intro w8 hw8; rw [← hw8] at R8 O8 X8 Y8; clear hw8 k2 hf2; obtain ⟨x0, x1, x2, x3, x4, x5⟩ := X8.out.cells; obtain ⟨y0, y1, y2, y3, y4, y5⟩ := Y8.out.cells; have fz : ∀ j, w8.frozen? ⟨w.heap.size, j, none⟩ = false := fun j => blk_frozen X8.out.blk j))
  refine bodyPost_ret (v := .tuple #[entV x, .bool true]) (by simp [results, Try.results10, go_sem, entV, x0, x1, x2, x3, x4, x5]) rfl ⟨by rw [HEX.out], ?_, ?_⟩
  · rw [HN.out]
    have e1 : w.heap.size ≠ g := by have := HG.out; omega
    have e2 : w.heap.size ≠ B := by have := HBl.out; omega
    exact (((((R8.out.far (p := ⟨w.heap.size, 0, none⟩) e1 e2 _).far (p := ⟨w.heap.size, 1, none⟩) e1 e2 _).far (p := ⟨w.heap.size, 2, none⟩) e1 e2 _).far (p := ⟨w.heap.size, 3, none⟩) e1 e2 _).far (p := ⟨w.heap.size, 4, none⟩) e1 e2 _).far (p := ⟨w.heap.size, 5, none⟩) e1 e2 _
  · exact (((((O8.out.setNew (p := ⟨w.heap.size, 0, none⟩) (Nat.le_refl _) _).setNew (p := ⟨w.heap.size, 1, none⟩) (Nat.le_refl _) _).setNew (p := ⟨w.heap.size, 2, none⟩) (Nat.le_refl _) _).setNew (p := ⟨w.heap.size, 3, none⟩) (Nat.le_refl _) _).setNew (p := ⟨w.heap.size, 4, none⟩) (Nat.le_refl _) _).setNew (p := ⟨w.heap.size, 5, none⟩) (Nat.le_refl _) _
end Go.Proofs.Ytmdmoedakmoibaa.P
