/- A ring in memory: what its methods answer and leave. -/
import Derived.Test.YtmdmoedakmoibaaP
namespace Go.Proofs.Ytmdmoedakmoibaa.P
open Go.RowKit Go.Proofs.YtmdmoedakmoibaaW.PrintWords Go.Proofs.YtmdmoedakmoibaaW.PrintLast Go.Proofs.YtmdmoedakmoibaaW.PrintMore
set_option linter.unusedVariables false

/-- A ring in memory: its struct at block g, its buffers at block B. -/
structure RingX (w : World) (g B room cap head held : Nat) (E : List S31) : Prop where
  len : E.length = room
  heldLe : held ≤ room
  roomLe : room ≤ 64
  headLt : 0 < room → head < room
  blk : w.heap[g]? = some (.cells #[.slice (some ⟨B, 0, none⟩) room cap, .int .i64 head, .int .i64 held] 50 (0, 0))
  buf : Kd.R k31 31 w B (fun k => k = B) (.slice (some ⟨B, 0, none⟩) room cap) E
  ne : g ≠ B

set_option maxHeartbeats 1600000 in
theorem at_any {w : World} {g B room cap head held : Nat} {E : List S31} (h : RingX w g B room cap head held E) (i : Nat) (hi : i ≤ 64) (h0 : 0 < room) :
    Calls Try.prog 20 #[.pointer (some ⟨g, 0, none⟩), .int .i64 i] w fun e w' => e = .returned (.pointer (some ⟨B, ((head + i) % room) * 6, none⟩)) ∧ ∃ n, w' = w.drewN n := by
  have c0 : w.cell? ⟨g, 0, none⟩ = some (.slice (some ⟨B, 0, none⟩) room cap) := by rw [blk_cell h.blk]; rfl
  have c1 : w.cell? ⟨g, 1, none⟩ = some (.int .i64 head) := by rw [blk_cell h.blk]; rfl
  have h1 := h.roomLe
  have h2 := h.headLt h0
  clear h
  have hm : ((head : Int) + i).tmod room = (((head + i) % room : Nat) : Int) := by
    rw [← Int.natCast_add]; exact (Int.ofNat_tmod _ _).symm
  have hl : (head + i) % room < room := Nat.mod_lt _ h0
  go_enter Try.func20, Try.ntmps20
  go_wp2
  have hw1 : IntKind.i64.wrap ((head : Int) + i) = (head : Int) + i := IntWalk.i64_in _ (by omega)
  have hr0 : ((room : Int) == 0) = false := beq_eq_false_iff_ne.mpr (by omega)
  have hw2 : IntKind.i64.wrap (((head + i) % room : Nat) : Int) = (((head + i) % room : Nat) : Int) := IntWalk.i64_in _ (by omega)
  have hp : (0 : Int) ≤ (((head + i) % room : Nat) : Int) := by omega
  have hq : (((head + i) % room : Nat) : Int) < (room : Int) := by omega
  have ht : ((((head + i) % room : Nat) : Int)).toNat = (head + i) % room := Int.toNat_natCast _
  obtain ⟨at_, ha⟩ : ∃ at_, (head + i) % room = at_ := ⟨_, rfl⟩
  have HA := Aside0.mk ha
  rw [ha] at hm hl hw2 hp hq ht
  clear ha
  go_quiet (fail)
  go_wp2
  go_ret
  exact ⟨by rw [HA.out]; rfl, nq, rfl⟩

def ent (x : S31) : List Value := [.int .i64 x.f0, .int .i64 x.f1, .int .i64 x.f2, .int .u64 x.f3, .int .u64 x.f4, .string x.f5]
def entV (x : S31) : Value := .agg #[.int .i64 x.f0, .int .i64 x.f1, .int .i64 x.f2, .int .u64 x.f3, .int .u64 x.f4, .string x.f5]
/-- All but two blocks is as it was. -/
structure Only (w w' : World) (g B : Nat) : Prop where
  os : w'.os = w.os
  tape : w'.tape = w.tape
  output : w'.output = w.output
  size : w.heap.size ≤ w'.heap.size
  block : ∀ k, k < w.heap.size → k ≠ g → k ≠ B → w'.heap[k]? = w.heap[k]?
theorem Only.refl (w : World) (g B : Nat) : Only w w g B := ⟨rfl, rfl, rfl, Nat.le_refl _, fun _ _ _ _ => rfl⟩
theorem Only.trans {w w1 w2 : World} {g B : Nat} (h : Only w w1 g B) (k : Only w1 w2 g B) : Only w w2 g B :=
  ⟨k.os.trans h.os, k.tape.trans h.tape, k.output.trans h.output, Nat.le_trans h.size k.size, fun i hi h1 h2 => (k.block i (Nat.lt_of_lt_of_le hi h.size) h1 h2).trans (h.block i hi h1 h2)⟩
theorem Only.of_below {w w' : World} (h : Below w.heap.size w w') (g B : Nat) : Only w w' g B := ⟨h.os, h.tape, h.output, h.size, fun k hk _ _ => h.block k hk⟩
theorem Only.below {n : Nat} {w0 w w' : World} {g B : Nat} (hb : Below n w0 w) (h : Only w w' g B) (hg : n ≤ g) (hB : n ≤ B) (hn : n ≤ w.heap.size) : Below n w0 w' :=
  ⟨h.os.trans hb.os, h.tape.trans hb.tape, h.output.trans hb.output, Nat.le_trans hb.size h.size, fun k hk => (h.block k (by omega) (by omega) (by omega)).trans (hb.block k hk)⟩
theorem RingX.below {w w' : World} {g B room cap head held : Nat} {E : List S31} (h : RingX w g B room cap head held E) (hb : Below w.heap.size w w') : RingX w' g B room cap head held E :=
  ⟨h.len, h.heldLe, h.roomLe, h.headLt, (hb.block g (blk_lt h.blk)).trans h.blk, Kd.R_below h.buf hb, h.ne⟩
theorem RingX.drewN {w : World} {g B room cap head held : Nat} {E : List S31} (h : RingX w g B room cap head held E) (n : Nat) : RingX (w.drewN n) g B room cap head held E := h.below (pw_below_drewN (Below.refl _ _) n)
/-- Its count is written. -/
theorem RingX.setHeld {w : World} {g B room cap head held : Nat} {E : List S31} (h : RingX w g B room cap head held E) (m : Nat) (hm : m ≤ room) : RingX (w.setCell ⟨g, 2, none⟩ (.int .i64 m)) g B room cap head m E :=
  ⟨h.len, hm, h.roomLe, h.headLt, by rw [blk_set h.blk]; rfl, Kd.R_far h.buf (fun k hk => by rw [hk]; exact h.ne.symm) _, h.ne⟩
/-- Its head is written. -/
theorem RingX.setHead {w : World} {g B room cap head held : Nat} {E : List S31} (h : RingX w g B room cap head held E) (m : Nat) (hm : 0 < room → m < room) : RingX (w.setCell ⟨g, 1, none⟩ (.int .i64 m)) g B room cap m held E :=
  ⟨h.len, h.heldLe, h.roomLe, hm, by rw [blk_set h.blk]; rfl, Kd.R_far h.buf (fun k hk => by rw [hk]; exact h.ne.symm) _, h.ne⟩
theorem Only.setCell {w w' : World} {g B : Nat} (h : Only w w' g B) {p : Addr} (hp : p.block = g ∨ p.block = B) (u : Value) : Only w (w'.setCell p u) g B :=
  h.trans ⟨rfl, rfl, rfl, by simp [World.setCell], fun k _ h1 h2 => Below.heap_setCell _ _ _ _ (by rcases hp with e | e <;> omega)⟩
theorem Only.grown {w w' : World} {g B : Nat} (hg : w.grownBy w' (some B)) : Only w w' g B := ⟨hg.os, hg.tape, hg.output, hg.size, fun k hk _ h2 => hg.block k hk (fun e => h2 (by injection e))⟩
theorem RingX.c0 {w : World} {g B room cap head held : Nat} {E : List S31} (h : RingX w g B room cap head held E) : w.cell? ⟨g, 0, none⟩ = some (.slice (some ⟨B, 0, none⟩) room cap) := by rw [blk_cell h.blk]; rfl
theorem RingX.c1 {w : World} {g B room cap head held : Nat} {E : List S31} (h : RingX w g B room cap head held E) : w.cell? ⟨g, 1, none⟩ = some (.int .i64 head) := by rw [blk_cell h.blk]; rfl
theorem RingX.c2 {w : World} {g B room cap head held : Nat} {E : List S31} (h : RingX w g B room cap head held E) : w.cell? ⟨g, 2, none⟩ = some (.int .i64 held) := by rw [blk_cell h.blk]; rfl
theorem RingX.fr {w : World} {g B room cap head held : Nat} {E : List S31} (h : RingX w g B room cap head held E) (i : Nat) : w.frozen? ⟨g, i, none⟩ = false := blk_frozen h.blk i
/-- The ring was put in a new world: what stood there stands. -/
theorem RingX.alloc {w : World} {g B room cap head held : Nat} {E : List S31} (h : RingX w g B room cap head held E) (o : Obj) : RingX (w.alloc o) g B room cap head held E := h.below (below_alloc (Below.refl _ _) o)

/-- An entry in a box of its own. -/
structure Boxed (w : World) (b : Nat) (x : S31) : Prop where
  blk : w.heap[b]? = some (.cells (ent x).toArray 31 (0, 0))
theorem Boxed.new (w : World) (x : S31) : Boxed (w.alloc (.cells (ent x).toArray 31)) w.heap.size x := ⟨blk_new w _⟩
theorem Boxed.below {w w' : World} {b : Nat} {x : S31} (h : Boxed w b x) (hb : Below w.heap.size w w') : Boxed w' b x := ⟨(hb.block b (blk_lt h.blk)).trans h.blk⟩
theorem Boxed.only {w w' : World} {b g B : Nat} {x : S31} (h : Boxed w b x) (hb : Only w w' g B) (h1 : b ≠ g) (h2 : b ≠ B) : Boxed w' b x := ⟨(hb.block b (blk_lt h.blk) h1 h2).trans h.blk⟩
theorem Boxed.cells {w : World} {b : Nat} {x : S31} (h : Boxed w b x) : w.cell? ⟨b, 0, none⟩ = some (.int .i64 x.f0) ∧ w.cell? ⟨b, 1, none⟩ = some (.int .i64 x.f1) ∧ w.cell? ⟨b, 2, none⟩ = some (.int .i64 x.f2) ∧
    w.cell? ⟨b, 3, none⟩ = some (.int .u64 x.f3) ∧ w.cell? ⟨b, 4, none⟩ = some (.int .u64 x.f4) ∧ w.cell? ⟨b, 5, none⟩ = some (.string x.f5) := by
  refine ⟨?_, ?_, ?_, ?_, ?_, ?_⟩ <;> (rw [blk_cell h.blk]; rfl)
theorem RingX.lt {w : World} {g B room cap head held : Nat} {E : List S31} (h : RingX w g B room cap head held E) : g < w.heap.size := blk_lt h.blk
theorem RingX.Blt {w : World} {g B room cap head held : Nat} {E : List S31} (h : RingX w g B room cap head held E) : B < w.heap.size := Kd.R_lt h.buf B (by simp [Value.ownBlock])

set_option maxHeartbeats 1600000 in
theorem push_full {w : World} {g B room cap head : Nat} {E : List S31} (h : RingX w g B room cap head room E) (x : S31) :
    Calls Try.prog 9 #[.pointer (some ⟨g, 0, none⟩), entV x] w fun e w' => e = .returned (.bool false) ∧ Below w.heap.size w w' := by
  have h2 := h.alloc (.cells (ent x).toArray 31)
  have HB := Aside0.mk (below_alloc (Below.refl w.heap.size w) (.cells (ent x).toArray 31))
  have c0 := h2.c0
  have c2 := h2.c2
  have h1 := h.roomLe
  clear h h2
  unfold entV
  go_enter Try.func9, Try.ntmps9
  go_wp2
  change Code.wp _ _ _ _ (w.alloc (.cells (ent x).toArray 31))
  generalize w.alloc (.cells (ent x).toArray 31) = W at c0 c2 HB
  go_quiet (fail)
  go_wp2
  go_ret
  exact ⟨rfl, pw_below_drewN HB.out _⟩
theorem Only.drewN {w w' : World} {g B : Nat} (h : Only w w' g B) (n : Nat) : Only w (w'.drewN n) g B := ⟨h.os, h.tape, h.output, h.size, h.block⟩
theorem Only.alloc {w w' : World} {g B : Nat} (h : Only w w' g B) (o : Obj) : Only w (w'.alloc o) g B := h.trans (Only.of_below (below_alloc (Below.refl _ _) o) g B)
theorem Only.drew {w w' : World} {g B : Nat} (h : Only w w' g B) : Only w w'.drew g B := ⟨h.os, h.tape, h.output, h.size, h.block⟩
theorem RingX.drew {w : World} {g B room cap head held : Nat} {E : List S31} (h : RingX w g B room cap head held E) : RingX w.drew g B room cap head held E := h.below (below_drew (Below.refl _ _))
/-- A store through a pointer, as the operation carries it out. -/
theorem store_step {P : Program} {o : Oper} {a : Act} {t : TypeId} {p v : Operand} {ad : Addr} {u : Value} {w w1 : World} (ho : o.op = .store t p v) (hp : a.eval p = .pointer (some ad)) (hv : a.eval v = u)
    (hrun : (Instr.storeAt t (.pointer (some ad)) u).run P w = .ok () w1) : (execOp a.eval o).run P w = .ok .skip w1 := by
  unfold execOp
  simp only [ho, hp, hv, Sem.run_bind, Sem.run_pure, Result.andThen_ok, hrun]
theorem ent_one (x : S31) : ∀ q ∈ ent x, q.oneCell' = true := by
  intro q hq
  simp only [ent, List.mem_cons, List.not_mem_nil, or_false] at hq
  rcases hq with rfl | rfl | rfl | rfl | rfl | rfl <;> rfl
theorem ent_cells (x : S31) : (entV x).cells.toList = ent x := rfl
/-- An element is stored. -/
theorem store_el {w : World} {g B room cap head held : Nat} {E : List S31} (h : RingX w g B room cap head held E) (p : Nat) (hp : p < room) {x : S31} :
    (Instr.storeAt 31 (.pointer (some ⟨B, p * 6, none⟩)) (entV x)).run Try.prog w = .ok () (w.setCells B (p * 6) (ent x)) ∧
    RingX (w.setCells B (p * 6) (ent x)) g B room cap head held (E.set p x) ∧ Only w (w.setCells B (p * 6) (ent x)) g B := by
  obtain ⟨c, hcl, hcM, hcc, hcf⟩ := Kd.R_elem h.buf z31 (p : Int) (by omega) (by omega)
  rw [Int.toNat_natCast] at hcc hcf
  have hsz : k31.sz = 6 := rfl
  have hM : k31.M w B (fun k => k = B ∧ k ≠ B) x (c.take 0 ++ ent x ++ c.drop (0 + (ent x).length)) := by
    rw [List.take_zero, List.nil_append, List.drop_eq_nil_of_le (by rw [hcl, hsz]; exact Nat.le_refl 6), List.append_nil]
    exact k31_mkM _ _ _ _
  have hs := Kd.R_seg h.buf (p : Int) (by omega) (by omega) (c := c) (seg := ent x) (j := 0) (okp := fun k => k = B ∧ k ≠ B) hcl (by rw [Int.toNat_natCast]; exact hcc) (by rw [hsz]; exact Nat.le_refl 6) hM (fun k hk => hk)
  rw [Int.toNat_natCast, Nat.add_zero, hsz] at hs
  refine ⟨?_, ⟨by rw [List.length_set]; exact h.len, h.heldLe, h.roomLe, h.headLt, ?_, hs.1, h.ne⟩, Only.grown hs.2⟩
  · obtain ⟨cells, hb⟩ := Kd.R_typed h.buf B (by simp [Value.ownBlock])
    obtain ⟨inner, ho⟩ := Kd.R_own h.buf
    rcases ho.2 with ⟨hv, _⟩ | ⟨g', cap', cur, hv, hbb, hh, hnc, hcm, hcs, _⟩
    · cases hv
    injection hv with ha _ hc
    injection ha with ha
    injection ha with hg'
    subst hg'; subst hc
    refine run_store_run 31 (entV x) (ent x) hh (ent_cells x) (by kernel_rfl) ?_ (ent_one x)
    have h6 : (ent x).length = 6 := rfl
    rw [h6, hcs, hsz]
    have hl := h.len
    omega
  · exact (hs.2.block g h.lt (fun e => h.ne (by injection e))).trans h.blk
end Go.Proofs.Ytmdmoedakmoibaa.P
