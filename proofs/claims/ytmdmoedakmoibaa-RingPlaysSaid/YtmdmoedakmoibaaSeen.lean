/- A list that is read, beside a ring; the document's own functions on it; an act's cells. -/
import Derived.Test.YtmdmoedakmoibaaMine
namespace Go.Proofs.Ytmdmoedakmoibaa.P
open Go.RowKit Go.Proofs.YtmdmoedakmoibaaW.PrintWords Go.Proofs.YtmdmoedakmoibaaW.PrintLast Go.Proofs.YtmdmoedakmoibaaW.PrintMore
set_option linter.unusedVariables false
set_option linter.unusedSimpArgs false

theorem add_block' (a : Addr) (n : Nat) : (a.add n).block = a.block := by unfold Addr.add; split <;> rfl
/-- A slice that reads as q, in none of a ring's blocks. -/
structure Seen (w : World) (g B : Nat) (A : Option Addr) (c : Nat) (q : List S31) : Prop where
  le : q.length ≤ c
  read : Kd.C k31 w A q.length q
  off : ∀ ad, A = some ad → 0 < q.length → ad.block ≠ g ∧ ad.block ≠ B ∧ ad.block < w.heap.size
section
variable {w w' : World} {g B c : Nat} {A : Option Addr} {q : List S31}
theorem Seen.below (h : Seen w g B A c q) (hb : Below w.heap.size w w') : Seen w' g B A c q :=
  ⟨h.le, Kd.C_below h.read hb, fun ad e h0 => by obtain ⟨h1, h2, h3⟩ := h.off ad e h0; exact ⟨h1, h2, Nat.lt_of_lt_of_le h3 hb.size⟩⟩
theorem Seen.drewN (h : Seen w g B A c q) (n : Nat) : Seen (w.drewN n) g B A c q := h.below (pw_below_drewN (Below.refl _ _) n)
theorem Seen.alloc (h : Seen w g B A c q) (o : Obj) : Seen (w.alloc o) g B A c q := h.below (below_alloc (Below.refl _ _) o)
theorem Seen.only (h : Seen w g B A c q) (ho : Only w w' g B) : Seen w' g B A c q := by
  refine ⟨h.le, ⟨Kd.C_len h.read ▸ rfl, h.read.2.1, fun hp => ?_⟩, fun ad e h0 => by obtain ⟨h1, h2, h3⟩ := h.off ad e h0; exact ⟨h1, h2, Nat.lt_of_lt_of_le h3 ho.size⟩⟩
  obtain ⟨ad, e, hr⟩ := h.read.2.2 hp
  obtain ⟨h1, h2, h3⟩ := h.off ad e (by omega)
  refine ⟨ad, e, fun j p hj => ?_⟩
  obtain ⟨c', hl, hK, hc⟩ := hr j p hj
  refine ⟨c', hl, by obtain rfl := k31_open hK; exact k31_mk _ _, fun i u hu => ?_⟩
  rw [← hc i u hu]
  have hb : w'.heap[ad.block]? = w.heap[ad.block]? := ho.block _ h3 h1 h2
  exact World.cell?_of_block (by rw [add_block']; exact hb)
theorem Seen.of_row {w0 : World} {ok : Nat → Prop} (hr : Kd.R k31 31 w' w0.heap.size ok (.slice A q.length c) q) (hg : g < w0.heap.size) (hB : B < w0.heap.size) : Seen w' g B A c q := by
  obtain ⟨_, h1, h2⟩ := Kd.R_reads' hr
  refine ⟨h1, h2, fun ad e h0 => ?_⟩
  subst e
  have b1 := Kd.R_base hr ad.block rfl
  have b2 := Kd.R_lt hr ad.block rfl
  exact ⟨by omega, by omega, b2⟩
theorem Seen.nil (w : World) (g B : Nat) : Seen w g B none 0 [] := ⟨Nat.le_refl _, Kd.C_nil k31 w, fun ad e h => by cases e⟩
end
/-! ### the document's own functions -/
set_option maxHeartbeats 3200000 in
theorem rpush_ge (A : Option Addr) (c : Nat) (q : List S31) (a : Int) (x : S31) (w : World) (h : a ≤ (q.length : Int)) :
    Calls Try.prog 16 #[.slice A q.length c, .int .i64 a, .agg #[.int .i64 x.f0, .int .i64 x.f1, .int .i64 x.f2, .int .u64 x.f3, .int .u64 x.f4, .string x.f5]] w fun e w' => e = .returned (.tuple #[.slice A q.length c, .bool false]) ∧ Below w.heap.size w w' := by
  have HB := Aside0.mk (below_alloc (Below.refl w.heap.size w) (.cells (ent x).toArray 31))
  have hd : decide (a ≤ (q.length : Int)) = true := decide_eq_true h
  go_enter Try.func16, Try.ntmps16
  go_wp2
  go_ret2
  exact ⟨rfl, HB.out⟩
set_option maxHeartbeats 8000000 in
set_option maxRecDepth 100000 in
theorem rpush_lt (A : Option Addr) (c : Nat) (q : List S31) (a : Int) (x : S31) (w : World) (hC : Kd.C k31 w A q.length q) (h : (q.length : Int) < a) (hq : q.length ≤ 64) :
    Calls Try.prog 16 #[.slice A q.length c, .int .i64 a, .agg #[.int .i64 x.f0, .int .i64 x.f1, .int .i64 x.f2, .int .u64 x.f3, .int .u64 x.f4, .string x.f5]] w fun e w' => ∃ v, e = .returned (.tuple #[v, .bool true]) ∧ Kd.R k31 31 w' w.heap.size (fun _ => True) v (q ++ [x]) ∧ Below w.heap.size w w' := by
  have HC := Aside0.mk hC
  have HQ := Aside0.mk hq
  have HB := Aside0.mk (Below.refl w.heap.size w)
  have hd : decide (a ≤ (q.length : Int)) = false := decide_eq_false (by omega)
  obtain ⟨y0, hy0⟩ : ∃ y : List S31, y = ([] : List S31) := ⟨_, rfl⟩
  obtain ⟨y1, hy1⟩ : ∃ y : List S31, y = y0 ++ q := ⟨_, rfl⟩
  have N0 := Aside0.mk hy0
  have N1 := Aside0.mk hy1
  have LM := Aside0.mk (show y1.length ≤ 64 ∧ y0.length = 0 from by rw [hy1, hy0, List.nil_append]; exact ⟨hq, rfl⟩)
  clear hC h hq hy0 hy1
  go_enter Try.func16, Try.ntmps16
  go_wp2_with (first
    | ((with_reducible refine gate_dst (N := 5) rfl ?_); refine box_event ?hg (N := 5) ?hd (cs := #[.int .i64 x.f0, .int .i64 x.f1, .int .i64 x.f2, .int .u64 x.f3, .int .u64 x.f4, .string x.f5]) (t := 31) ?hr ?_; (case hd => rfl); (case hg => rfl); (case hr => first | (go_simp; done) | (go_simp; rfl)); intro gb hg w1 hbox hb; have HB1 := Aside0.mk (below_step HB.out hb); have BK := Aside0.mk hbox; clear HB hb hbox hg)
    | ((with_reducible refine gate_dst (N := 14) rfl ?_); refine Kd.R_lit k31 _ 31 ?hg (N := 14) ?hd (xs := ([] : List S31)) (inner := []) (ok := fun _ => True) (okp := fun _ => True) ?hr ?hp (fun _ hk => hk) trivial (Below.refl _ _) (Nat.le_refl _) (by simp) ?_; (case hd => rfl); (case hg => rfl); (case hr => first | (go_simp; done) | (go_simp; rfl)); (case hp => exact Reps.none _ _); intro v1 w2 ho hb hg_ hnew; rw [← N0.out] at ho;
        have OF := Aside0.mk (Off.new (blk_lt BK.out) (blk_lt BK.out) hnew); have HO := Aside0.mk (Kd.R_lower ho HB1.out.size); have BK2 := Aside0.mk (blk_below BK.out hb); have HB2 := Aside0.mk (below_step HB1.out hb); clear BK HB1 ho hb hg_ hnew)
    | ((with_reducible refine gate_builtin (b := .append) (xs := #[.tmp 14, .tmp 15]) rfl ?_); at_builtin; refine Kd.R_append_rows k31 (w0 := w) w.heap.size rfl (.tmp 14) (.tmp 15) 22 31 (.agg #[(.int .i64 0), (.int .i64 0), (.int .i64 0), (.int .u64 0), (.int .u64 0), (.string ⟨#[]⟩)]) 56 rfl Try.underlying22 info31 rfl (by decide) (by omega) v1 y0 q _ _ _ (fun _ => True) (fun _ => False) rfl rfl ?aO ?aR (fun _ _ h => h) (fun _ h => h.elim) ?aF ?aB ?aS ?aL ?_; (case aR => exact Kd.C_below HC.out HB2.out); (case aB => exact HB2.out); (case aF => exact fun _ _ => trivial); (case aO => exact HO.out); (case aS => exact HB2.out.size); (case aL => have := LM.out.2; have := HQ.out; omega); intro v2 w3 ho hb hg hat; rw [← N1.out] at ho;
        have BK3 := Aside0.mk (blk_grown BK2.out hg (fun e => (OF.out gb e.symm).1 rfl)); have OF3 := Aside0.mk (OF.out.after (blk_lt BK2.out) (blk_lt BK2.out) hat); have HO3 := Aside0.mk ho; have HB3 := Aside0.mk hb; clear HO BK2 HB2 OF ho hb hg hat;
        have c0 : w3.cell? ⟨gb, 0, none⟩ = some (.int .i64 x.f0) := (blk_cell BK3.out 0).trans rfl; have c1 : w3.cell? ⟨gb, 1, none⟩ = some (.int .i64 x.f1) := (blk_cell BK3.out 1).trans rfl; have c2 : w3.cell? ⟨gb, 2, none⟩ = some (.int .i64 x.f2) := (blk_cell BK3.out 2).trans rfl; have c3 : w3.cell? ⟨gb, 3, none⟩ = some (.int .u64 x.f3) := (blk_cell BK3.out 3).trans rfl; have c4 : w3.cell? ⟨gb, 4, none⟩ = some (.int .u64 x.f4) := (blk_cell BK3.out 4).trans rfl; have c5 : w3.cell? ⟨gb, 5, none⟩ = some (.string x.f5) := (blk_cell BK3.out 5).trans rfl)
    | ((with_reducible refine gate_builtin (b := .append) (xs := #[.tmp 17, .tmp 19]) rfl ?_); at_builtin; refine Kd.R_append k31 (w0 := w) w.heap.size rfl (.tmp 17) (.tmp 19) 22 31 (.agg #[(.int .i64 0), (.int .i64 0), (.int .i64 0), (.int .u64 0), (.int .u64 0), (.string ⟨#[]⟩)]) 56 rfl Try.underlying22 info31 rfl (by decide) (by omega) v2 y1 x [.int .i64 x.f0, .int .i64 x.f1, .int .i64 x.f2, .int .u64 x.f3, .int .u64 x.f4, .string x.f5] (fun _ => True) (fun _ => False) rfl rfl ?aP (fun _ hk => hk.elim) ?aF ?aO ?aB ?aS ?aL ?_; (case aP => exact k31_mkM _ _ _ x); (case aB => exact HB3.out); (case aF => exact fun _ _ => trivial); (case aO => exact HO3.out); (case aS => exact HB3.out.size); (case aL => have := LM.out.1; omega); intro v3 w4 ho hb hg hat; have HO4 := Aside0.mk ho; have HB4 := Aside0.mk hb; clear HO3 BK3 HB3 OF3 ho hb hg hat c0 c1 c2 c3 c4 c5))
  go_ret2
  refine ⟨_, rfl, ?_, HB4.out⟩
  have := HO4.out
  rw [N1.out, N0.out, List.nil_append] at this
  exact this
/-- The document's drop, with enough fuel. -/
theorem drop_fuel (q : List S31) (s : Int) (hq : q.length ≤ 64) : ∀ n (y : List S31), n ≤ q.length → y.length + n ≤ 64 → congressref06_Drop.l0 (n + 1) q s y ((q.length - n : Nat) : Int) = some (y ++ filt s (q.drop (q.length - n))) := by
  intro n
  induction n with
  | zero =>
    intro y _ _
    rw [congressref06_Drop.l0, if_neg (by omega)]
    simp [filt]
  | succ n ih =>
    intro y hn hy
    have hi : q.length - (n + 1) < q.length := by omega
    have hw : wrap64 (((q.length - (n + 1) : Nat) : Int) + 1) = ((q.length - n : Nat) : Int) := by
      unfold wrap64; omega
    have hrd : rd_T31 q ((q.length - (n + 1) : Nat) : Int) = q[q.length - (n + 1)] := by
      unfold rd_T31
      rw [Int.toNat_natCast, List.getD_eq_getElem?_getD, List.getElem?_eq_getElem hi, Option.getD_some]
    have hd : q.drop (q.length - (n + 1)) = q[q.length - (n + 1)] :: q.drop (q.length - n) := by
      rw [List.drop_eq_getElem_cons hi, show q.length - (n + 1) + 1 = q.length - n from by omega]
    rw [congressref06_Drop.l0, if_pos (by omega), if_pos (by omega), hw, hrd, hd]
    by_cases e : q[q.length - (n + 1)].f3 = s
    · rw [if_pos e, ih y (by omega) (by omega)]
      unfold filt
      rw [List.filter_cons_of_neg (by simp [e])]
    · rw [if_neg e, if_pos (by omega), ih _ (by omega) (by rw [List.length_append, List.length_singleton]; omega)]
      unfold filt
      rw [List.filter_cons_of_pos (by simp [e]), List.append_assoc]
      rfl
theorem rdrop_q (A : Option Addr) (c : Nat) (q : List S31) (s : Int) (w : World) (hC : Kd.C k31 w A q.length q) (hc : q.length ≤ c) (hq : q.length ≤ 64) :
    Calls Try.prog 19 #[.slice A q.length c, .int .u64 s] w fun e w' => ∃ v, e = .returned v ∧ Kd.R k31 31 w' w.heap.size (fun _ => True) v (filt s q) ∧ Below w.heap.size w w' := by
  refine congressref06_Drop.calls (q.length + 1) A c q s _ w hC hc ?_
  have := drop_fuel q s hq q.length [] (Nat.le_refl _) (by simpa using hq)
  rw [Nat.sub_self, List.drop_zero, List.nil_append] at this
  exact this
theorem rpeek_q (A : Option Addr) (c : Nat) (q : List S31) (i : Int) (w : World) (hC : Kd.C k31 w A q.length q) (hc : q.length ≤ c) :
    Calls Try.prog 17 #[.slice A q.length c, .int .i64 i] w fun e w' => e = .returned (.tuple #[entV (if 0 ≤ i ∧ i < q.length then q.getD i.toNat z31 else z31), .bool (decide (0 ≤ i ∧ i < q.length))]) ∧ Below w.heap.size w w' := by
  by_cases h : 0 ≤ i ∧ i < q.length
  · rw [if_pos h, decide_eq_true h]
    exact congressref06_Peek.calls A c q i _ _ _ _ _ _ _ w hC hc (by
      unfold congressref06_Peek.f
      rw [if_neg (by omega), if_neg (by omega), if_pos h.1, if_pos h.2]
      rfl)
  · rw [if_neg h, decide_eq_false h]
    exact congressref06_Peek.calls A c q i _ _ _ _ _ _ _ w hC hc (by
      unfold congressref06_Peek.f
      by_cases h0 : i < 0
      · rw [if_pos h0]; rfl
      · rw [if_neg h0, if_pos (by omega)]; rfl)
end Go.Proofs.Ytmdmoedakmoibaa.P
