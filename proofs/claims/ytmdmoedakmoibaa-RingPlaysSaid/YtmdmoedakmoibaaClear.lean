/- The ring's Clear: what it leaves. -/
import Derived.Test.YtmdmoedakmoibaaRing
namespace Go.Proofs.Ytmdmoedakmoibaa.P
open Go.RowKit Go.Proofs.YtmdmoedakmoibaaW.PrintWords Go.Proofs.YtmdmoedakmoibaaW.PrintLast Go.Proofs.YtmdmoedakmoibaaW.PrintMore
set_option linter.unusedVariables false
set_option linter.unusedSimpArgs false

def zV : Value := .agg #[.int .i64 0, .int .i64 0, .int .i64 0, .int .u64 0, .int .u64 0, .string ⟨#[]⟩]
theorem zero31 (w : World) : (zeroValue 31).run Try.prog w = .ok zV w := by kernel_rfl
def zs (n : Nat) : List Value := (madeCells zV.cells (n * 6)).toList
theorem zs_length (n : Nat) : (zs n).length = n * 6 := by unfold zs; rw [Array.length_toList, size_madeCells]
theorem zs_reps (n : Nat) (w : World) (b : Nat) (ok : Nat → Prop) : Reps (k31.M w b ok) 6 (List.replicate n z31) (zs n) :=
  Kd.reps_made (R := k31.M w b ok) (z := zV) (size := 6) (z0 := z31) rfl (by decide) (k31_mkM w b ok z31) n
theorem zs_one (n : Nat) : ∀ q ∈ zs n, q.oneCell' = true := by
  intro q hq
  obtain ⟨j, hj, rfl⟩ := List.mem_iff_getElem.mp hq
  have hr := (zs_reps n default 0 (fun _ => True))
  have hl := zs_length n
  have hn : j / 6 < n := by omega
  have hk := hr.2 (j / 6) z31 (by rw [List.getElem?_replicate, if_pos hn])
  have := k31.K_one (k31.K_of_M hk) ((zs n)[j]) (by
    rw [List.mem_iff_getElem?]
    refine ⟨j % 6, ?_⟩
    rw [List.getElem?_take, if_pos (Nat.mod_lt _ (by decide)), List.getElem?_drop, show j / 6 * 6 + j % 6 = j by omega, List.getElem?_eq_getElem hj])
  exact this
theorem clear_run {w : World} {g B room cap head held : Nat} {E : List S31} (h : RingX w g B room cap head held E) (ty : TypeId) :
    ∃ w1, (Builtin.clear_ #[22] ty #[.slice (some ⟨B, 0, none⟩) room cap]).run Try.prog w = .ok (.tuple #[]) w1 ∧ RingX w1 g B room cap head held (List.replicate room z31) ∧ Only w w1 g B := by
  obtain ⟨inner, ho⟩ := Kd.R_own h.buf
  have hsz : k31.sz = 6 := rfl
  rcases ho.2 with ⟨hv, _⟩ | ⟨g', cap', cur, hv, hbb, hh, hnc, hcm, hcs, _⟩
  · cases hv
  injection hv with ha _ hc
  injection ha with ha
  injection ha with hg'
  subst hg'; subst hc
  rw [hsz] at hcs
  have hl := h.len
  have hcr : room ≤ cap := by omega
  obtain ⟨cur', h3, h4, h5⟩ := setCells_row (zs room) 0 w cur hh (by rw [zs_length]; omega)
  obtain ⟨s1, s2, s3, s4⟩ := setCells_same B (zs room) 0 w
  have hfar : ∀ k, k ≠ B → (w.setCells B 0 (zs room)).heap[k]? = w.heap[k]? := fun k hk => setCells_far _ _ k hk
  refine ⟨w.setCells B 0 (zs room), ?_, ⟨List.length_replicate, h.heldLe, h.roomLe, h.headLt, (hfar g h.ne).trans h.blk, ⟨fun k hk => ?_, zs room, ⟨by rw [zs_length, List.length_replicate]; rfl, .inr ⟨B, cap, cur', by rw [List.length_replicate], hbb, h3, by rw [List.length_replicate]; exact hcr, hcm, by rw [h4, hcs]; rfl, ?_⟩⟩, zs_reps room _ _ _⟩, h.ne⟩, ⟨s1, s2, s3, by rw [s4]; exact Nat.le_refl _, fun k _ _ h2 => hfar k h2⟩⟩
  · have hst := run_storeCells_cells (P := Try.prog) B 0 (zs room) 0 w (fun j hj => by rw [cell_of_row w B _ cur 31 (0, 0) hh]; rw [zs_length] at hj; simp; omega) (fun j _ => blk_frozen hh _) (zs_one room)
    cases room with
    | zero =>
      have e : zs 0 = [] := by simp [zs, madeCells]
      rw [e]
      simp [Builtin.clear_, run_underlying Try.underlying22, World.setCells]
    | succ m =>
      have e : (Builtin.zeroCells (Value.agg #[.int .i64 0, .int .i64 0, .int .i64 0, .int .u64 0, .int .u64 0, .string ⟨#[]⟩]).cells (m + 1)).toList = zs (m + 1) := rfl
      rw [Nat.add_zero] at hst
      simp [Builtin.clear_, run_underlying Try.underlying22, zero31, zV, e, hst, Result.andThen]
  · simpa [Value.ownBlock] using hk.symm
  · rw [h5, List.length_replicate, hsz]
    simp [zs_length]
set_option maxHeartbeats 1600000 in
theorem clear_any {w : World} {g B room cap head held : Nat} {E : List S31} (h : RingX w g B room cap head held E) :
    Calls Try.prog 12 #[.pointer (some ⟨g, 0, none⟩)] w fun e w' => e = .returned (.tuple #[]) ∧ RingX w' g B room cap 0 0 (List.replicate room z31) ∧ Only w w' g B := by
  have c0 := h.c0
  have H := Aside0.mk h
  go_enter Try.func12, Try.ntmps12
  obtain ⟨w1, h1, R1, O1⟩ := clear_run h 0
  have hc : ∀ ty, (Builtin.clear_ #[22] ty #[.slice (some ⟨B, 0, none⟩) room cap]).run Try.prog w = .ok (.tuple #[]) w1 := fun _ => h1
  have HR := Aside0.mk R1
  have HO := Aside0.mk O1
  have k1 := R1.c1
  have k2 := R1.c2
  have hfr := R1.fr
  clear h h1 R1 O1 H
  go_wp2
  go_end0
  have R2 := (HR.out.setHead 0 (fun h => h)).setHeld 0 (Nat.zero_le _)
  exact ⟨rfl, R2, (HO.out.setCell (p := ⟨g, 1, none⟩) (.inl rfl) _).setCell (p := ⟨g, 2, none⟩) (.inl rfl) _⟩
end Go.Proofs.Ytmdmoedakmoibaa.P
