-- Written by a program of this session (wip/pprint.sh), out of the translation's own print. Not trusted: Lean checks it.
import Derived.Test.YtoeioacgpildpaaDoorP0
import Derived.Test.YtoeioacgpildpaaDoorP1
namespace Go.Proofs.YtoeioacgpildpaaDoor.P
open Go.RowKit Go.Proofs.YtoeioacgpildpaaDoorW.PrintWords Go.Proofs.YtoeioacgpildpaaDoorW.PrintLast Go.Proofs.YtoeioacgpildpaaDoorW.PrintMore
attribute [local go_sem] max2_int min2_int max_two min_two max_three min_three max_four min_four   -- for this text's walks alone
set_option linter.unusedVariables false
set_option linter.unusedSimpArgs false

attribute [local go_sem high] eqA27
-- NOT PRINTED: function 24 (api_Record)

-- NOT PRINTED: function 8 (audit_Add)

/-! ### audit_Check: function 12 -/
def audit_Check.l0 : Nat → List (S27) → List (S27) → Int → Int → Option (Bool)
  | 0, _, _, _, _ => none
  | k + 1, x0, x5, x6, x7 => if x7 < x6 then (if 0 ≤ x7 then (if x7 < (x5.length : Int) then (if ((rd_T27 x5 x7).f0) = (IntKind.u64.wrap ((IntKind.u64.wrap (x7)) + 1)) then (if x7 > 0 then (if 0 ≤ (wrap64 (x7 - 1)) then (if (wrap64 (x7 - 1)) < (x0.length : Int) then (if ((rd_T27 x5 x7).f1) < ((rd_T27 x0 (wrap64 (x7 - 1))).f1) then (some false) else (audit_Check.l0 k x0 x5 x6 (wrap64 (x7 + 1)))) else (none)) else (none)) else (audit_Check.l0 k x0 x5 x6 (wrap64 (x7 + 1)))) else (some false)) else (none)) else (none)) else (some true)
def audit_Check.f (k : Nat) (l0 : List (S27)) : Option (Bool) := audit_Check.l0 k l0 l0 (l0.length : Int) 0
theorem audit_Check.mono_l : ∀ k, (∀ y0 y1 y2 y3, LeO (audit_Check.l0 k y0 y1 y2 y3) (audit_Check.l0 (k + 1) y0 y1 y2 y3))
  | 0 => fun _ _ _ _ r h => by simp [audit_Check.l0] at h
  | k + 1 => by
    have ih0 := audit_Check.mono_l k
    · intro y0 y1 y2 y3
      unfold audit_Check.l0
      repeat' first
      | (with_reducible exact ih0 _ _ _ _)
      | (with_reducible exact LeO.refl _)
      | (with_reducible exact LeO.none _)
      | (with_reducible refine LeO.ite ?_ ?_)
      | (with_reducible refine LeO.bind ?_ (fun _ => ?_))
      | exact ih0 _ _ _ _
      | exact LeO.none _
      | refine LeO.ite ?_ ?_
      | refine LeO.bind ?_ (fun _ => ?_)
theorem audit_Check.mono : ∀ a0 k, LeO (audit_Check.f k a0) (audit_Check.f (k + 1) a0) := by
  intro a0 k
  have ih0 := audit_Check.mono_l k
  unfold audit_Check.f
  repeat' first
      | (with_reducible exact ih0 _ _ _ _)
      | (with_reducible exact LeO.refl _)
      | (with_reducible exact LeO.none _)
      | (with_reducible refine LeO.ite ?_ ?_)
      | (with_reducible refine LeO.bind ?_ (fun _ => ?_))
      | exact ih0 _ _ _ _
      | exact LeO.none _
      | refine LeO.ite ?_ ?_
      | refine LeO.bind ?_ (fun _ => ?_)
set_option maxHeartbeats 8000000 in
set_option maxRecDepth 100000 in
theorem audit_Check.calls (k : Nat) (A0 : Option Addr) (c0 : Nat) (l0 : List (S27)) (r : Bool) (w : World) (hr0 : Kd.C k27 w A0 l0.length l0) (hc0 : l0.length ≤ c0) (h : audit_Check.f k l0 = some r) :
    Calls Tryd.prog 12 #[.slice A0 l0.length c0] w fun e w' => e = .returned (.bool r) ∧ Below w.heap.size w w' := by
  have hu27 := Tryd.underlying27
  have HR0 := Aside0.mk hr0
  have HC0 := Aside0.mk hc0
  clear hr0 hc0
  have HB := Aside0.mk (Below.refl w.heap.size w)
  have H : (audit_Check.l0 k l0 l0 (l0.length : Int) 0) = some r := h
  clear h
  have H' := Aside0.mk H
  clear H
  go_enter Tryd.func12, Tryd.ntmps12
  go_wp2
  repeat (go_quiet (fail); try go_wp2)
  go_loopg [7] k (fun kq v7 w' => ∃ (x7_1 : Int), v7 = .int .i64 x7_1 ∧ Aside0 (audit_Check.l0 kq l0 l0 (l0.length : Int) x7_1 = some r) ∧ Aside0 (kq ≤ k) ∧ Aside0 (Below w.heap.size w w'))
  case atStart => exact ⟨(0), (by first | rfl | (simp; done) | (simp [*]; done)), H', ⟨Nat.le_refl _⟩, ⟨by repeat (first | (with_reducible first | exact HB.out | apply below_alloc | apply pw_below_drewN | apply below_drew1) | exact HB.out)⟩⟩
  case round =>
    clear H'
    try clear c1
    obtain ⟨x7_1, rfl, HA, HK1, HB⟩ := hrel
    cases gk with
    | zero => exact absurd HA.out (by simp [audit_Check.l0])
    | succ k1 =>
      have H := HA.out
      clear HA
      simp only [audit_Check.l0] at H
      by_cases c2 : x7_1 < (l0.length : Int)
      · rw [if_pos c2] at H
        have c2b0 : decide (x7_1 < (l0.length : Int)) = true := decide_eq_true c2
        clear c2
        by_cases c3 : 0 ≤ x7_1
        · rw [if_pos c3] at H
          have c3b0 : decide (0 ≤ x7_1) = true := decide_eq_true c3
          clear c3
          by_cases c4 : x7_1 < (l0.length : Int)
          · rw [if_pos c4] at H
            have c4b0 : decide (x7_1 < (l0.length : Int)) = true := decide_eq_true c4
            clear c4
            by_cases c5 : ((rd_T27 l0 x7_1).f0) = (IntKind.u64.wrap ((IntKind.u64.wrap (x7_1)) + 1))
            · rw [if_pos c5] at H
              have c5b0 : (((rd_T27 l0 x7_1).f0) == (IntKind.u64.wrap ((IntKind.u64.wrap (x7_1)) + 1))) = true := beq_iff_eq.mpr c5
              have c5b1 : (((rd_T27 l0 x7_1).f0) != (IntKind.u64.wrap ((IntKind.u64.wrap (x7_1)) + 1))) = false := bne_eq_false_iff_eq.mpr c5
              clear c5
              by_cases c6 : x7_1 > 0
              · rw [if_pos c6] at H
                have c6b0 : decide (0 < x7_1) = true := decide_eq_true c6
                clear c6
                obtain ⟨ji7, hji7⟩ : ∃ j_ : Int, (wrap64 (x7_1 - 1)) = j_ := ⟨_, rfl⟩
                replace H : (if 0 ≤ (ji7) then (if (ji7) < (l0.length : Int) then (if ((rd_T27 l0 x7_1).f1) < ((rd_T27 l0 (ji7)).f1) then (some false) else (audit_Check.l0 k1 l0 l0 (l0.length : Int) (wrap64 (x7_1 + 1)))) else (none)) else (none)) = some r := by first | (rw [hji7] at H; exact H) | (simp only [hji7] at H ⊢; exact H)
                have hji7w : (IntKind.i64.wrap (x7_1 - 1)) = ji7 := (i64_w _).trans hji7
                by_cases c8 : 0 ≤ (ji7)
                · rw [if_pos c8] at H
                  have c8b0 : decide (0 ≤ (ji7)) = true := decide_eq_true c8
                  clear c8
                  by_cases c9 : (ji7) < (l0.length : Int)
                  · rw [if_pos c9] at H
                    have c9b0 : decide ((ji7) < (l0.length : Int)) = true := decide_eq_true c9
                    clear c9
                    by_cases c10 : ((rd_T27 l0 x7_1).f1) < ((rd_T27 l0 (ji7)).f1)
                    · rw [if_pos c10] at H
                      have c10b0 : decide (((rd_T27 l0 x7_1).f1) < ((rd_T27 l0 (ji7)).f1)) = true := decide_eq_true c10
                      clear c10
                      obtain rfl := Option.some.inj H
                      have p119 : 0 ≤ (x7_1 : Int) := of_decide_eq_true (by first | (with_reducible assumption) | assumption)
                      have q119 : x7_1 < (l0.length : Int) := of_decide_eq_true (by first | (with_reducible assumption) | assumption)
                      obtain ⟨ad119, e119, hx119_0, hx119_1, hx119_2, hx119_3⟩ := at_T27 HR0.out x7_1 p119 q119
                      cases e119
                      replace hx119_0 := (HB.out.cell (World.block_lt_of_cell? w _ hx119_0)).trans hx119_0
                      replace hx119_1 := (HB.out.cell (World.block_lt_of_cell? w _ hx119_1)).trans hx119_1
                      replace hx119_2 := (HB.out.cell (World.block_lt_of_cell? w _ hx119_2)).trans hx119_2
                      replace hx119_3 := (HB.out.cell (World.block_lt_of_cell? w _ hx119_3)).trans hx119_3
                      replace p119 := eq_true p119
                      replace q119 := eq_true q119
                      go_wp2_with (first | ((with_reducible refine gate_dst (N := 4) rfl ?_); refine box_event ?hg (N := 4) ?hd (cs := #[.int .u64 0, .int .u32 0, .string (⟨#[]⟩ : ByteArray), .int .i64 0]) (t := 27) ?hr ?_; (case hd => rfl); (case hg => rfl); (case hr => first | (go_simp; done) | (go_simp; rfl)); intro gb120 hg w11 hbox hb; have n0_ := Aside0.mk (below_step (by repeat (first | (with_reducible first | exact HB.out | apply below_alloc | apply pw_below_drewN | apply below_drew1) | exact HB.out)) hb); have n1_ := Aside0.mk (hbox); have n2_ := Aside0.mk ((by rw [hg]; exact (below_size (by repeat (first | (with_reducible first | exact HB.out | apply below_alloc | apply pw_below_drewN | apply below_drew1) | exact HB.out))) : w.heap.size ≤ gb120)); have n3_ := Aside0.mk ((by rw [hg]; exact (below_size (by repeat (first | (with_reducible first | exact HB.out | apply below_alloc | apply pw_below_drewN | apply below_drew1) | exact HB.out))) : w.heap.size ≤ gb120)); clear HB; have HB := n0_; have BK120 := n1_; have GW120 := n2_; have GE120 := n3_; clear n0_ n1_ n2_ n3_; clear hb hbox hg; have hcz12_0 : w11.cell? ⟨gb120, 0, none⟩ = some (.int .u64 0) := (blk_cell BK120.out 0).trans rfl; have hcz12_1 : w11.cell? ⟨gb120, 1, none⟩ = some (.int .u32 0) := (blk_cell BK120.out 1).trans rfl; have hcz12_2 : w11.cell? ⟨gb120, 2, none⟩ = some (.string (⟨#[]⟩ : ByteArray)) := (blk_cell BK120.out 2).trans rfl; have hcz12_3 : w11.cell? ⟨gb120, 3, none⟩ = some (.int .i64 0) := (blk_cell BK120.out 3).trans rfl; have hfz12_0 := blk_frozen BK120.out 0; have hfz12_1 := blk_frozen BK120.out 1; have hfz12_2 := blk_frozen BK120.out 2; have hfz12_3 := blk_frozen BK120.out 3; have p121 : 0 ≤ ((ji7) : Int) := of_decide_eq_true (by first | (with_reducible assumption) | assumption); have q121 : (ji7) < (l0.length : Int) := of_decide_eq_true (by first | (with_reducible assumption) | assumption); obtain ⟨ad121, e121, hx121_0, hx121_1, hx121_2, hx121_3⟩ := at_T27 HR0.out (ji7) p121 q121; obtain rfl : ad119 = ad121 := (by injection e121); have hn121_0 : ad119.block ≠ gb120 := Nat.ne_of_lt (Nat.lt_of_lt_of_le (by have := World.block_lt_of_cell? _ _ hx121_0; first | rwa [add_block] at this | exact this) GW120.out); have hn121_1 : ad119.block ≠ gb120 := Nat.ne_of_lt (Nat.lt_of_lt_of_le (by have := World.block_lt_of_cell? _ _ hx121_0; first | rwa [add_block] at this | exact this) GW120.out); have hn121_2 : ad119.block ≠ gb120 := Nat.ne_of_lt (Nat.lt_of_lt_of_le (by have := World.block_lt_of_cell? _ _ hx121_0; first | rwa [add_block] at this | exact this) GW120.out); have hn121_3 : ad119.block ≠ gb120 := Nat.ne_of_lt (Nat.lt_of_lt_of_le (by have := World.block_lt_of_cell? _ _ hx121_0; first | rwa [add_block] at this | exact this) GW120.out); replace hx121_0 := (HB.out.cell (World.block_lt_of_cell? w _ hx121_0)).trans hx121_0; replace hx121_1 := (HB.out.cell (World.block_lt_of_cell? w _ hx121_1)).trans hx121_1; replace hx121_2 := (HB.out.cell (World.block_lt_of_cell? w _ hx121_2)).trans hx121_2; replace hx121_3 := (HB.out.cell (World.block_lt_of_cell? w _ hx121_3)).trans hx121_3; replace hx121_0 := (cell_far (p := ⟨gb120, 0, none⟩) (by first | (rw [add_block]; exact hn121_0) | (show (Addr.add _ _).block ≠ _; rw [add_block]; exact hn121_0) | exact hn121_0) (.int .u64 ((rd_T27 l0 x7_1).f0))).trans hx121_0; replace hx121_1 := (cell_far (p := ⟨gb120, 0, none⟩) (by first | (rw [add_block]; exact hn121_0) | (show (Addr.add _ _).block ≠ _; rw [add_block]; exact hn121_0) | exact hn121_0) (.int .u64 ((rd_T27 l0 x7_1).f0))).trans hx121_1; replace hx121_2 := (cell_far (p := ⟨gb120, 0, none⟩) (by first | (rw [add_block]; exact hn121_0) | (show (Addr.add _ _).block ≠ _; rw [add_block]; exact hn121_0) | exact hn121_0) (.int .u64 ((rd_T27 l0 x7_1).f0))).trans hx121_2; replace hx121_3 := (cell_far (p := ⟨gb120, 0, none⟩) (by first | (rw [add_block]; exact hn121_0) | (show (Addr.add _ _).block ≠ _; rw [add_block]; exact hn121_0) | exact hn121_0) (.int .u64 ((rd_T27 l0 x7_1).f0))).trans hx121_3; replace hx121_0 := (cell_far (p := ⟨gb120, 1, none⟩) (by first | (rw [add_block]; exact hn121_1) | (show (Addr.add _ _).block ≠ _; rw [add_block]; exact hn121_1) | exact hn121_1) (.int .u32 ((rd_T27 l0 x7_1).f1))).trans hx121_0; replace hx121_1 := (cell_far (p := ⟨gb120, 1, none⟩) (by first | (rw [add_block]; exact hn121_1) | (show (Addr.add _ _).block ≠ _; rw [add_block]; exact hn121_1) | exact hn121_1) (.int .u32 ((rd_T27 l0 x7_1).f1))).trans hx121_1; replace hx121_2 := (cell_far (p := ⟨gb120, 1, none⟩) (by first | (rw [add_block]; exact hn121_1) | (show (Addr.add _ _).block ≠ _; rw [add_block]; exact hn121_1) | exact hn121_1) (.int .u32 ((rd_T27 l0 x7_1).f1))).trans hx121_2; replace hx121_3 := (cell_far (p := ⟨gb120, 1, none⟩) (by first | (rw [add_block]; exact hn121_1) | (show (Addr.add _ _).block ≠ _; rw [add_block]; exact hn121_1) | exact hn121_1) (.int .u32 ((rd_T27 l0 x7_1).f1))).trans hx121_3; replace hx121_0 := (cell_far (p := ⟨gb120, 2, none⟩) (by first | (rw [add_block]; exact hn121_2) | (show (Addr.add _ _).block ≠ _; rw [add_block]; exact hn121_2) | exact hn121_2) (.string ((rd_T27 l0 x7_1).f2))).trans hx121_0; replace hx121_1 := (cell_far (p := ⟨gb120, 2, none⟩) (by first | (rw [add_block]; exact hn121_2) | (show (Addr.add _ _).block ≠ _; rw [add_block]; exact hn121_2) | exact hn121_2) (.string ((rd_T27 l0 x7_1).f2))).trans hx121_1; replace hx121_2 := (cell_far (p := ⟨gb120, 2, none⟩) (by first | (rw [add_block]; exact hn121_2) | (show (Addr.add _ _).block ≠ _; rw [add_block]; exact hn121_2) | exact hn121_2) (.string ((rd_T27 l0 x7_1).f2))).trans hx121_2; replace hx121_3 := (cell_far (p := ⟨gb120, 2, none⟩) (by first | (rw [add_block]; exact hn121_2) | (show (Addr.add _ _).block ≠ _; rw [add_block]; exact hn121_2) | exact hn121_2) (.string ((rd_T27 l0 x7_1).f2))).trans hx121_3; replace hx121_0 := (cell_far (p := ⟨gb120, 3, none⟩) (by first | (rw [add_block]; exact hn121_3) | (show (Addr.add _ _).block ≠ _; rw [add_block]; exact hn121_3) | exact hn121_3) (.int .i64 ((rd_T27 l0 x7_1).f3))).trans hx121_0; replace hx121_1 := (cell_far (p := ⟨gb120, 3, none⟩) (by first | (rw [add_block]; exact hn121_3) | (show (Addr.add _ _).block ≠ _; rw [add_block]; exact hn121_3) | exact hn121_3) (.int .i64 ((rd_T27 l0 x7_1).f3))).trans hx121_1; replace hx121_2 := (cell_far (p := ⟨gb120, 3, none⟩) (by first | (rw [add_block]; exact hn121_3) | (show (Addr.add _ _).block ≠ _; rw [add_block]; exact hn121_3) | exact hn121_3) (.int .i64 ((rd_T27 l0 x7_1).f3))).trans hx121_2; replace hx121_3 := (cell_far (p := ⟨gb120, 3, none⟩) (by first | (rw [add_block]; exact hn121_3) | (show (Addr.add _ _).block ≠ _; rw [add_block]; exact hn121_3) | exact hn121_3) (.int .i64 ((rd_T27 l0 x7_1).f3))).trans hx121_3; (try have hy121_0 := fun (n_ : Nat) => (show ((((((w11.drewN n_).setCell ⟨gb120, 0, none⟩ (.int .u64 ((rd_T27 l0 x7_1).f0))).setCell ⟨gb120, 1, none⟩ (.int .u32 ((rd_T27 l0 x7_1).f1))).setCell ⟨gb120, 2, none⟩ (.string ((rd_T27 l0 x7_1).f2))).setCell ⟨gb120, 3, none⟩ (.int .i64 ((rd_T27 l0 x7_1).f3)))).cell? _ = some _ from hx121_0)); (try have hy121_1 := fun (n_ : Nat) => (show ((((((w11.drewN n_).setCell ⟨gb120, 0, none⟩ (.int .u64 ((rd_T27 l0 x7_1).f0))).setCell ⟨gb120, 1, none⟩ (.int .u32 ((rd_T27 l0 x7_1).f1))).setCell ⟨gb120, 2, none⟩ (.string ((rd_T27 l0 x7_1).f2))).setCell ⟨gb120, 3, none⟩ (.int .i64 ((rd_T27 l0 x7_1).f3)))).cell? _ = some _ from hx121_1)); (try have hy121_2 := fun (n_ : Nat) => (show ((((((w11.drewN n_).setCell ⟨gb120, 0, none⟩ (.int .u64 ((rd_T27 l0 x7_1).f0))).setCell ⟨gb120, 1, none⟩ (.int .u32 ((rd_T27 l0 x7_1).f1))).setCell ⟨gb120, 2, none⟩ (.string ((rd_T27 l0 x7_1).f2))).setCell ⟨gb120, 3, none⟩ (.int .i64 ((rd_T27 l0 x7_1).f3)))).cell? _ = some _ from hx121_2)); (try have hy121_3 := fun (n_ : Nat) => (show ((((((w11.drewN n_).setCell ⟨gb120, 0, none⟩ (.int .u64 ((rd_T27 l0 x7_1).f0))).setCell ⟨gb120, 1, none⟩ (.int .u32 ((rd_T27 l0 x7_1).f1))).setCell ⟨gb120, 2, none⟩ (.string ((rd_T27 l0 x7_1).f2))).setCell ⟨gb120, 3, none⟩ (.int .i64 ((rd_T27 l0 x7_1).f3)))).cell? _ = some _ from hx121_3)); clear hn121_0; clear hn121_1; clear hn121_2; clear hn121_3; replace p121 := eq_true p121; replace q121 := eq_true q121))
                      repeat (go_quiet (first | ((with_reducible refine gate_dst (N := 4) rfl ?_); refine box_event ?hg (N := 4) ?hd (cs := #[.int .u64 0, .int .u32 0, .string (⟨#[]⟩ : ByteArray), .int .i64 0]) (t := 27) ?hr ?_; (case hd => rfl); (case hg => rfl); (case hr => first | (go_simp; done) | (go_simp; rfl)); intro gb120 hg w11 hbox hb; have n0_ := Aside0.mk (below_step (by repeat (first | (with_reducible first | exact HB.out | apply below_alloc | apply pw_below_drewN | apply below_drew1) | exact HB.out)) hb); have n1_ := Aside0.mk (hbox); have n2_ := Aside0.mk ((by rw [hg]; exact (below_size (by repeat (first | (with_reducible first | exact HB.out | apply below_alloc | apply pw_below_drewN | apply below_drew1) | exact HB.out))) : w.heap.size ≤ gb120)); have n3_ := Aside0.mk ((by rw [hg]; exact (below_size (by repeat (first | (with_reducible first | exact HB.out | apply below_alloc | apply pw_below_drewN | apply below_drew1) | exact HB.out))) : w.heap.size ≤ gb120)); clear HB; have HB := n0_; have BK120 := n1_; have GW120 := n2_; have GE120 := n3_; clear n0_ n1_ n2_ n3_; clear hb hbox hg; have hcz12_0 : w11.cell? ⟨gb120, 0, none⟩ = some (.int .u64 0) := (blk_cell BK120.out 0).trans rfl; have hcz12_1 : w11.cell? ⟨gb120, 1, none⟩ = some (.int .u32 0) := (blk_cell BK120.out 1).trans rfl; have hcz12_2 : w11.cell? ⟨gb120, 2, none⟩ = some (.string (⟨#[]⟩ : ByteArray)) := (blk_cell BK120.out 2).trans rfl; have hcz12_3 : w11.cell? ⟨gb120, 3, none⟩ = some (.int .i64 0) := (blk_cell BK120.out 3).trans rfl; have hfz12_0 := blk_frozen BK120.out 0; have hfz12_1 := blk_frozen BK120.out 1; have hfz12_2 := blk_frozen BK120.out 2; have hfz12_3 := blk_frozen BK120.out 3; have p121 : 0 ≤ ((ji7) : Int) := of_decide_eq_true (by first | (with_reducible assumption) | assumption); have q121 : (ji7) < (l0.length : Int) := of_decide_eq_true (by first | (with_reducible assumption) | assumption); obtain ⟨ad121, e121, hx121_0, hx121_1, hx121_2, hx121_3⟩ := at_T27 HR0.out (ji7) p121 q121; obtain rfl : ad119 = ad121 := (by injection e121); have hn121_0 : ad119.block ≠ gb120 := Nat.ne_of_lt (Nat.lt_of_lt_of_le (by have := World.block_lt_of_cell? _ _ hx121_0; first | rwa [add_block] at this | exact this) GW120.out); have hn121_1 : ad119.block ≠ gb120 := Nat.ne_of_lt (Nat.lt_of_lt_of_le (by have := World.block_lt_of_cell? _ _ hx121_0; first | rwa [add_block] at this | exact this) GW120.out); have hn121_2 : ad119.block ≠ gb120 := Nat.ne_of_lt (Nat.lt_of_lt_of_le (by have := World.block_lt_of_cell? _ _ hx121_0; first | rwa [add_block] at this | exact this) GW120.out); have hn121_3 : ad119.block ≠ gb120 := Nat.ne_of_lt (Nat.lt_of_lt_of_le (by have := World.block_lt_of_cell? _ _ hx121_0; first | rwa [add_block] at this | exact this) GW120.out); replace hx121_0 := (HB.out.cell (World.block_lt_of_cell? w _ hx121_0)).trans hx121_0; replace hx121_1 := (HB.out.cell (World.block_lt_of_cell? w _ hx121_1)).trans hx121_1; replace hx121_2 := (HB.out.cell (World.block_lt_of_cell? w _ hx121_2)).trans hx121_2; replace hx121_3 := (HB.out.cell (World.block_lt_of_cell? w _ hx121_3)).trans hx121_3; replace hx121_0 := (cell_far (p := ⟨gb120, 0, none⟩) (by first | (rw [add_block]; exact hn121_0) | (show (Addr.add _ _).block ≠ _; rw [add_block]; exact hn121_0) | exact hn121_0) (.int .u64 ((rd_T27 l0 x7_1).f0))).trans hx121_0; replace hx121_1 := (cell_far (p := ⟨gb120, 0, none⟩) (by first | (rw [add_block]; exact hn121_0) | (show (Addr.add _ _).block ≠ _; rw [add_block]; exact hn121_0) | exact hn121_0) (.int .u64 ((rd_T27 l0 x7_1).f0))).trans hx121_1; replace hx121_2 := (cell_far (p := ⟨gb120, 0, none⟩) (by first | (rw [add_block]; exact hn121_0) | (show (Addr.add _ _).block ≠ _; rw [add_block]; exact hn121_0) | exact hn121_0) (.int .u64 ((rd_T27 l0 x7_1).f0))).trans hx121_2; replace hx121_3 := (cell_far (p := ⟨gb120, 0, none⟩) (by first | (rw [add_block]; exact hn121_0) | (show (Addr.add _ _).block ≠ _; rw [add_block]; exact hn121_0) | exact hn121_0) (.int .u64 ((rd_T27 l0 x7_1).f0))).trans hx121_3; replace hx121_0 := (cell_far (p := ⟨gb120, 1, none⟩) (by first | (rw [add_block]; exact hn121_1) | (show (Addr.add _ _).block ≠ _; rw [add_block]; exact hn121_1) | exact hn121_1) (.int .u32 ((rd_T27 l0 x7_1).f1))).trans hx121_0; replace hx121_1 := (cell_far (p := ⟨gb120, 1, none⟩) (by first | (rw [add_block]; exact hn121_1) | (show (Addr.add _ _).block ≠ _; rw [add_block]; exact hn121_1) | exact hn121_1) (.int .u32 ((rd_T27 l0 x7_1).f1))).trans hx121_1; replace hx121_2 := (cell_far (p := ⟨gb120, 1, none⟩) (by first | (rw [add_block]; exact hn121_1) | (show (Addr.add _ _).block ≠ _; rw [add_block]; exact hn121_1) | exact hn121_1) (.int .u32 ((rd_T27 l0 x7_1).f1))).trans hx121_2; replace hx121_3 := (cell_far (p := ⟨gb120, 1, none⟩) (by first | (rw [add_block]; exact hn121_1) | (show (Addr.add _ _).block ≠ _; rw [add_block]; exact hn121_1) | exact hn121_1) (.int .u32 ((rd_T27 l0 x7_1).f1))).trans hx121_3; replace hx121_0 := (cell_far (p := ⟨gb120, 2, none⟩) (by first | (rw [add_block]; exact hn121_2) | (show (Addr.add _ _).block ≠ _; rw [add_block]; exact hn121_2) | exact hn121_2) (.string ((rd_T27 l0 x7_1).f2))).trans hx121_0; replace hx121_1 := (cell_far (p := ⟨gb120, 2, none⟩) (by first | (rw [add_block]; exact hn121_2) | (show (Addr.add _ _).block ≠ _; rw [add_block]; exact hn121_2) | exact hn121_2) (.string ((rd_T27 l0 x7_1).f2))).trans hx121_1; replace hx121_2 := (cell_far (p := ⟨gb120, 2, none⟩) (by first | (rw [add_block]; exact hn121_2) | (show (Addr.add _ _).block ≠ _; rw [add_block]; exact hn121_2) | exact hn121_2) (.string ((rd_T27 l0 x7_1).f2))).trans hx121_2; replace hx121_3 := (cell_far (p := ⟨gb120, 2, none⟩) (by first | (rw [add_block]; exact hn121_2) | (show (Addr.add _ _).block ≠ _; rw [add_block]; exact hn121_2) | exact hn121_2) (.string ((rd_T27 l0 x7_1).f2))).trans hx121_3; replace hx121_0 := (cell_far (p := ⟨gb120, 3, none⟩) (by first | (rw [add_block]; exact hn121_3) | (show (Addr.add _ _).block ≠ _; rw [add_block]; exact hn121_3) | exact hn121_3) (.int .i64 ((rd_T27 l0 x7_1).f3))).trans hx121_0; replace hx121_1 := (cell_far (p := ⟨gb120, 3, none⟩) (by first | (rw [add_block]; exact hn121_3) | (show (Addr.add _ _).block ≠ _; rw [add_block]; exact hn121_3) | exact hn121_3) (.int .i64 ((rd_T27 l0 x7_1).f3))).trans hx121_1; replace hx121_2 := (cell_far (p := ⟨gb120, 3, none⟩) (by first | (rw [add_block]; exact hn121_3) | (show (Addr.add _ _).block ≠ _; rw [add_block]; exact hn121_3) | exact hn121_3) (.int .i64 ((rd_T27 l0 x7_1).f3))).trans hx121_2; replace hx121_3 := (cell_far (p := ⟨gb120, 3, none⟩) (by first | (rw [add_block]; exact hn121_3) | (show (Addr.add _ _).block ≠ _; rw [add_block]; exact hn121_3) | exact hn121_3) (.int .i64 ((rd_T27 l0 x7_1).f3))).trans hx121_3; (try have hy121_0 := fun (n_ : Nat) => (show ((((((w11.drewN n_).setCell ⟨gb120, 0, none⟩ (.int .u64 ((rd_T27 l0 x7_1).f0))).setCell ⟨gb120, 1, none⟩ (.int .u32 ((rd_T27 l0 x7_1).f1))).setCell ⟨gb120, 2, none⟩ (.string ((rd_T27 l0 x7_1).f2))).setCell ⟨gb120, 3, none⟩ (.int .i64 ((rd_T27 l0 x7_1).f3)))).cell? _ = some _ from hx121_0)); (try have hy121_1 := fun (n_ : Nat) => (show ((((((w11.drewN n_).setCell ⟨gb120, 0, none⟩ (.int .u64 ((rd_T27 l0 x7_1).f0))).setCell ⟨gb120, 1, none⟩ (.int .u32 ((rd_T27 l0 x7_1).f1))).setCell ⟨gb120, 2, none⟩ (.string ((rd_T27 l0 x7_1).f2))).setCell ⟨gb120, 3, none⟩ (.int .i64 ((rd_T27 l0 x7_1).f3)))).cell? _ = some _ from hx121_1)); (try have hy121_2 := fun (n_ : Nat) => (show ((((((w11.drewN n_).setCell ⟨gb120, 0, none⟩ (.int .u64 ((rd_T27 l0 x7_1).f0))).setCell ⟨gb120, 1, none⟩ (.int .u32 ((rd_T27 l0 x7_1).f1))).setCell ⟨gb120, 2, none⟩ (.string ((rd_T27 l0 x7_1).f2))).setCell ⟨gb120, 3, none⟩ (.int .i64 ((rd_T27 l0 x7_1).f3)))).cell? _ = some _ from hx121_2)); (try have hy121_3 := fun (n_ : Nat) => (show ((((((w11.drewN n_).setCell ⟨gb120, 0, none⟩ (.int .u64 ((rd_T27 l0 x7_1).f0))).setCell ⟨gb120, 1, none⟩ (.int .u32 ((rd_T27 l0 x7_1).f1))).setCell ⟨gb120, 2, none⟩ (.string ((rd_T27 l0 x7_1).f2))).setCell ⟨gb120, 3, none⟩ (.int .i64 ((rd_T27 l0 x7_1).f3)))).cell? _ = some _ from hx121_3)); clear hn121_0; clear hn121_1; clear hn121_2; clear hn121_3; replace p121 := eq_true p121; replace q121 := eq_true q121)); try go_wp2_with (first | ((with_reducible refine gate_dst (N := 4) rfl ?_); refine box_event ?hg (N := 4) ?hd (cs := #[.int .u64 0, .int .u32 0, .string (⟨#[]⟩ : ByteArray), .int .i64 0]) (t := 27) ?hr ?_; (case hd => rfl); (case hg => rfl); (case hr => first | (go_simp; done) | (go_simp; rfl)); intro gb120 hg w11 hbox hb; have n0_ := Aside0.mk (below_step (by repeat (first | (with_reducible first | exact HB.out | apply below_alloc | apply pw_below_drewN | apply below_drew1) | exact HB.out)) hb); have n1_ := Aside0.mk (hbox); have n2_ := Aside0.mk ((by rw [hg]; exact (below_size (by repeat (first | (with_reducible first | exact HB.out | apply below_alloc | apply pw_below_drewN | apply below_drew1) | exact HB.out))) : w.heap.size ≤ gb120)); have n3_ := Aside0.mk ((by rw [hg]; exact (below_size (by repeat (first | (with_reducible first | exact HB.out | apply below_alloc | apply pw_below_drewN | apply below_drew1) | exact HB.out))) : w.heap.size ≤ gb120)); clear HB; have HB := n0_; have BK120 := n1_; have GW120 := n2_; have GE120 := n3_; clear n0_ n1_ n2_ n3_; clear hb hbox hg; have hcz12_0 : w11.cell? ⟨gb120, 0, none⟩ = some (.int .u64 0) := (blk_cell BK120.out 0).trans rfl; have hcz12_1 : w11.cell? ⟨gb120, 1, none⟩ = some (.int .u32 0) := (blk_cell BK120.out 1).trans rfl; have hcz12_2 : w11.cell? ⟨gb120, 2, none⟩ = some (.string (⟨#[]⟩ : ByteArray)) := (blk_cell BK120.out 2).trans rfl; have hcz12_3 : w11.cell? ⟨gb120, 3, none⟩ = some (.int .i64 0) := (blk_cell BK120.out 3).trans rfl; have hfz12_0 := blk_frozen BK120.out 0; have hfz12_1 := blk_frozen BK120.out 1; have hfz12_2 := blk_frozen BK120.out 2; have hfz12_3 := blk_frozen BK120.out 3; have p121 : 0 ≤ ((ji7) : Int) := of_decide_eq_true (by first | (with_reducible assumption) | assumption); have q121 : (ji7) < (l0.length : Int) := of_decide_eq_true (by first | (with_reducible assumption) | assumption); obtain ⟨ad121, e121, hx121_0, hx121_1, hx121_2, hx121_3⟩ := at_T27 HR0.out (ji7) p121 q121; obtain rfl : ad119 = ad121 := (by injection e121); have hn121_0 : ad119.block ≠ gb120 := Nat.ne_of_lt (Nat.lt_of_lt_of_le (by have := World.block_lt_of_cell? _ _ hx121_0; first | rwa [add_block] at this | exact this) GW120.out); have hn121_1 : ad119.block ≠ gb120 := Nat.ne_of_lt (Nat.lt_of_lt_of_le (by have := World.block_lt_of_cell? _ _ hx121_0; first | rwa [add_block] at this | exact this) GW120.out); have hn121_2 : ad119.block ≠ gb120 := Nat.ne_of_lt (Nat.lt_of_lt_of_le (by have := World.block_lt_of_cell? _ _ hx121_0; first | rwa [add_block] at this | exact this) GW120.out); have hn121_3 : ad119.block ≠ gb120 := Nat.ne_of_lt (Nat.lt_of_lt_of_le (by have := World.block_lt_of_cell? _ _ hx121_0; first | rwa [add_block] at this | exact this) GW120.out); replace hx121_0 := (HB.out.cell (World.block_lt_of_cell? w _ hx121_0)).trans hx121_0; replace hx121_1 := (HB.out.cell (World.block_lt_of_cell? w _ hx121_1)).trans hx121_1; replace hx121_2 := (HB.out.cell (World.block_lt_of_cell? w _ hx121_2)).trans hx121_2; replace hx121_3 := (HB.out.cell (World.block_lt_of_cell? w _ hx121_3)).trans hx121_3; replace hx121_0 := (cell_far (p := ⟨gb120, 0, none⟩) (by first | (rw [add_block]; exact hn121_0) | (show (Addr.add _ _).block ≠ _; rw [add_block]; exact hn121_0) | exact hn121_0) (.int .u64 ((rd_T27 l0 x7_1).f0))).trans hx121_0; replace hx121_1 := (cell_far (p := ⟨gb120, 0, none⟩) (by first | (rw [add_block]; exact hn121_0) | (show (Addr.add _ _).block ≠ _; rw [add_block]; exact hn121_0) | exact hn121_0) (.int .u64 ((rd_T27 l0 x7_1).f0))).trans hx121_1; replace hx121_2 := (cell_far (p := ⟨gb120, 0, none⟩) (by first | (rw [add_block]; exact hn121_0) | (show (Addr.add _ _).block ≠ _; rw [add_block]; exact hn121_0) | exact hn121_0) (.int .u64 ((rd_T27 l0 x7_1).f0))).trans hx121_2; replace hx121_3 := (cell_far (p := ⟨gb120, 0, none⟩) (by first | (rw [add_block]; exact hn121_0) | (show (Addr.add _ _).block ≠ _; rw [add_block]; exact hn121_0) | exact hn121_0) (.int .u64 ((rd_T27 l0 x7_1).f0))).trans hx121_3; replace hx121_0 := (cell_far (p := ⟨gb120, 1, none⟩) (by first | (rw [add_block]; exact hn121_1) | (show (Addr.add _ _).block ≠ _; rw [add_block]; exact hn121_1) | exact hn121_1) (.int .u32 ((rd_T27 l0 x7_1).f1))).trans hx121_0; replace hx121_1 := (cell_far (p := ⟨gb120, 1, none⟩) (by first | (rw [add_block]; exact hn121_1) | (show (Addr.add _ _).block ≠ _; rw [add_block]; exact hn121_1) | exact hn121_1) (.int .u32 ((rd_T27 l0 x7_1).f1))).trans hx121_1; replace hx121_2 := (cell_far (p := ⟨gb120, 1, none⟩) (by first | (rw [add_block]; exact hn121_1) | (show (Addr.add _ _).block ≠ _; rw [add_block]; exact hn121_1) | exact hn121_1) (.int .u32 ((rd_T27 l0 x7_1).f1))).trans hx121_2; replace hx121_3 := (cell_far (p := ⟨gb120, 1, none⟩) (by first | (rw [add_block]; exact hn121_1) | (show (Addr.add _ _).block ≠ _; rw [add_block]; exact hn121_1) | exact hn121_1) (.int .u32 ((rd_T27 l0 x7_1).f1))).trans hx121_3; replace hx121_0 := (cell_far (p := ⟨gb120, 2, none⟩) (by first | (rw [add_block]; exact hn121_2) | (show (Addr.add _ _).block ≠ _; rw [add_block]; exact hn121_2) | exact hn121_2) (.string ((rd_T27 l0 x7_1).f2))).trans hx121_0; replace hx121_1 := (cell_far (p := ⟨gb120, 2, none⟩) (by first | (rw [add_block]; exact hn121_2) | (show (Addr.add _ _).block ≠ _; rw [add_block]; exact hn121_2) | exact hn121_2) (.string ((rd_T27 l0 x7_1).f2))).trans hx121_1; replace hx121_2 := (cell_far (p := ⟨gb120, 2, none⟩) (by first | (rw [add_block]; exact hn121_2) | (show (Addr.add _ _).block ≠ _; rw [add_block]; exact hn121_2) | exact hn121_2) (.string ((rd_T27 l0 x7_1).f2))).trans hx121_2; replace hx121_3 := (cell_far (p := ⟨gb120, 2, none⟩) (by first | (rw [add_block]; exact hn121_2) | (show (Addr.add _ _).block ≠ _; rw [add_block]; exact hn121_2) | exact hn121_2) (.string ((rd_T27 l0 x7_1).f2))).trans hx121_3; replace hx121_0 := (cell_far (p := ⟨gb120, 3, none⟩) (by first | (rw [add_block]; exact hn121_3) | (show (Addr.add _ _).block ≠ _; rw [add_block]; exact hn121_3) | exact hn121_3) (.int .i64 ((rd_T27 l0 x7_1).f3))).trans hx121_0; replace hx121_1 := (cell_far (p := ⟨gb120, 3, none⟩) (by first | (rw [add_block]; exact hn121_3) | (show (Addr.add _ _).block ≠ _; rw [add_block]; exact hn121_3) | exact hn121_3) (.int .i64 ((rd_T27 l0 x7_1).f3))).trans hx121_1; replace hx121_2 := (cell_far (p := ⟨gb120, 3, none⟩) (by first | (rw [add_block]; exact hn121_3) | (show (Addr.add _ _).block ≠ _; rw [add_block]; exact hn121_3) | exact hn121_3) (.int .i64 ((rd_T27 l0 x7_1).f3))).trans hx121_2; replace hx121_3 := (cell_far (p := ⟨gb120, 3, none⟩) (by first | (rw [add_block]; exact hn121_3) | (show (Addr.add _ _).block ≠ _; rw [add_block]; exact hn121_3) | exact hn121_3) (.int .i64 ((rd_T27 l0 x7_1).f3))).trans hx121_3; (try have hy121_0 := fun (n_ : Nat) => (show ((((((w11.drewN n_).setCell ⟨gb120, 0, none⟩ (.int .u64 ((rd_T27 l0 x7_1).f0))).setCell ⟨gb120, 1, none⟩ (.int .u32 ((rd_T27 l0 x7_1).f1))).setCell ⟨gb120, 2, none⟩ (.string ((rd_T27 l0 x7_1).f2))).setCell ⟨gb120, 3, none⟩ (.int .i64 ((rd_T27 l0 x7_1).f3)))).cell? _ = some _ from hx121_0)); (try have hy121_1 := fun (n_ : Nat) => (show ((((((w11.drewN n_).setCell ⟨gb120, 0, none⟩ (.int .u64 ((rd_T27 l0 x7_1).f0))).setCell ⟨gb120, 1, none⟩ (.int .u32 ((rd_T27 l0 x7_1).f1))).setCell ⟨gb120, 2, none⟩ (.string ((rd_T27 l0 x7_1).f2))).setCell ⟨gb120, 3, none⟩ (.int .i64 ((rd_T27 l0 x7_1).f3)))).cell? _ = some _ from hx121_1)); (try have hy121_2 := fun (n_ : Nat) => (show ((((((w11.drewN n_).setCell ⟨gb120, 0, none⟩ (.int .u64 ((rd_T27 l0 x7_1).f0))).setCell ⟨gb120, 1, none⟩ (.int .u32 ((rd_T27 l0 x7_1).f1))).setCell ⟨gb120, 2, none⟩ (.string ((rd_T27 l0 x7_1).f2))).setCell ⟨gb120, 3, none⟩ (.int .i64 ((rd_T27 l0 x7_1).f3)))).cell? _ = some _ from hx121_2)); (try have hy121_3 := fun (n_ : Nat) => (show ((((((w11.drewN n_).setCell ⟨gb120, 0, none⟩ (.int .u64 ((rd_T27 l0 x7_1).f0))).setCell ⟨gb120, 1, none⟩ (.int .u32 ((rd_T27 l0 x7_1).f1))).setCell ⟨gb120, 2, none⟩ (.string ((rd_T27 l0 x7_1).f2))).setCell ⟨gb120, 3, none⟩ (.int .i64 ((rd_T27 l0 x7_1).f3)))).cell? _ = some _ from hx121_3)); clear hn121_0; clear hn121_1; clear hn121_2; clear hn121_3; replace p121 := eq_true p121; replace q121 := eq_true q121)))
                      go_ret
                      exact ⟨by first | rfl | (simp [errW_none, errW_some] <;> rfl) | (simp only [← hji7]; first | rfl | (simp [errW_none, errW_some] <;> rfl)) | (simp [*, errW_none, errW_some] <;> rfl), by repeat (first | (with_reducible first | exact HB.out | apply below_alloc | apply pw_below_drewN | apply below_drew1 | refine below_set ?_ GE120.out) | exact HB.out)⟩
                    · rw [if_neg c10] at H
                      have c10b0 : decide (((rd_T27 l0 x7_1).f1) < ((rd_T27 l0 (ji7)).f1)) = false := decide_eq_false c10
                      clear c10
                      have H' := Aside0.mk H
                      clear H
                      have p119 : 0 ≤ (x7_1 : Int) := of_decide_eq_true (by first | (with_reducible assumption) | assumption)
                      have q119 : x7_1 < (l0.length : Int) := of_decide_eq_true (by first | (with_reducible assumption) | assumption)
                      obtain ⟨ad119, e119, hx119_0, hx119_1, hx119_2, hx119_3⟩ := at_T27 HR0.out x7_1 p119 q119
                      cases e119
                      replace hx119_0 := (HB.out.cell (World.block_lt_of_cell? w _ hx119_0)).trans hx119_0
                      replace hx119_1 := (HB.out.cell (World.block_lt_of_cell? w _ hx119_1)).trans hx119_1
                      replace hx119_2 := (HB.out.cell (World.block_lt_of_cell? w _ hx119_2)).trans hx119_2
                      replace hx119_3 := (HB.out.cell (World.block_lt_of_cell? w _ hx119_3)).trans hx119_3
                      replace p119 := eq_true p119
                      replace q119 := eq_true q119
                      go_wp2_with (first | ((with_reducible refine gate_dst (N := 4) rfl ?_); refine box_event ?hg (N := 4) ?hd (cs := #[.int .u64 0, .int .u32 0, .string (⟨#[]⟩ : ByteArray), .int .i64 0]) (t := 27) ?hr ?_; (case hd => rfl); (case hg => rfl); (case hr => first | (go_simp; done) | (go_simp; rfl)); intro gb120 hg w13 hbox hb; have n0_ := Aside0.mk (below_step (by repeat (first | (with_reducible first | exact HB.out | apply below_alloc | apply pw_below_drewN | apply below_drew1) | exact HB.out)) hb); have n1_ := Aside0.mk (hbox); have n2_ := Aside0.mk ((by rw [hg]; exact (below_size (by repeat (first | (with_reducible first | exact HB.out | apply below_alloc | apply pw_below_drewN | apply below_drew1) | exact HB.out))) : w.heap.size ≤ gb120)); have n3_ := Aside0.mk ((by rw [hg]; exact (below_size (by repeat (first | (with_reducible first | exact HB.out | apply below_alloc | apply pw_below_drewN | apply below_drew1) | exact HB.out))) : w.heap.size ≤ gb120)); clear HB; have HB := n0_; have BK120 := n1_; have GW120 := n2_; have GE120 := n3_; clear n0_ n1_ n2_ n3_; clear hb hbox hg; have hcz14_0 : w13.cell? ⟨gb120, 0, none⟩ = some (.int .u64 0) := (blk_cell BK120.out 0).trans rfl; have hcz14_1 : w13.cell? ⟨gb120, 1, none⟩ = some (.int .u32 0) := (blk_cell BK120.out 1).trans rfl; have hcz14_2 : w13.cell? ⟨gb120, 2, none⟩ = some (.string (⟨#[]⟩ : ByteArray)) := (blk_cell BK120.out 2).trans rfl; have hcz14_3 : w13.cell? ⟨gb120, 3, none⟩ = some (.int .i64 0) := (blk_cell BK120.out 3).trans rfl; have hfz14_0 := blk_frozen BK120.out 0; have hfz14_1 := blk_frozen BK120.out 1; have hfz14_2 := blk_frozen BK120.out 2; have hfz14_3 := blk_frozen BK120.out 3; have p121 : 0 ≤ ((ji7) : Int) := of_decide_eq_true (by first | (with_reducible assumption) | assumption); have q121 : (ji7) < (l0.length : Int) := of_decide_eq_true (by first | (with_reducible assumption) | assumption); obtain ⟨ad121, e121, hx121_0, hx121_1, hx121_2, hx121_3⟩ := at_T27 HR0.out (ji7) p121 q121; obtain rfl : ad119 = ad121 := (by injection e121); have hn121_0 : ad119.block ≠ gb120 := Nat.ne_of_lt (Nat.lt_of_lt_of_le (by have := World.block_lt_of_cell? _ _ hx121_0; first | rwa [add_block] at this | exact this) GW120.out); have hn121_1 : ad119.block ≠ gb120 := Nat.ne_of_lt (Nat.lt_of_lt_of_le (by have := World.block_lt_of_cell? _ _ hx121_0; first | rwa [add_block] at this | exact this) GW120.out); have hn121_2 : ad119.block ≠ gb120 := Nat.ne_of_lt (Nat.lt_of_lt_of_le (by have := World.block_lt_of_cell? _ _ hx121_0; first | rwa [add_block] at this | exact this) GW120.out); have hn121_3 : ad119.block ≠ gb120 := Nat.ne_of_lt (Nat.lt_of_lt_of_le (by have := World.block_lt_of_cell? _ _ hx121_0; first | rwa [add_block] at this | exact this) GW120.out); replace hx121_0 := (HB.out.cell (World.block_lt_of_cell? w _ hx121_0)).trans hx121_0; replace hx121_1 := (HB.out.cell (World.block_lt_of_cell? w _ hx121_1)).trans hx121_1; replace hx121_2 := (HB.out.cell (World.block_lt_of_cell? w _ hx121_2)).trans hx121_2; replace hx121_3 := (HB.out.cell (World.block_lt_of_cell? w _ hx121_3)).trans hx121_3; replace hx121_0 := (cell_far (p := ⟨gb120, 0, none⟩) (by first | (rw [add_block]; exact hn121_0) | (show (Addr.add _ _).block ≠ _; rw [add_block]; exact hn121_0) | exact hn121_0) (.int .u64 ((rd_T27 l0 x7_1).f0))).trans hx121_0; replace hx121_1 := (cell_far (p := ⟨gb120, 0, none⟩) (by first | (rw [add_block]; exact hn121_0) | (show (Addr.add _ _).block ≠ _; rw [add_block]; exact hn121_0) | exact hn121_0) (.int .u64 ((rd_T27 l0 x7_1).f0))).trans hx121_1; replace hx121_2 := (cell_far (p := ⟨gb120, 0, none⟩) (by first | (rw [add_block]; exact hn121_0) | (show (Addr.add _ _).block ≠ _; rw [add_block]; exact hn121_0) | exact hn121_0) (.int .u64 ((rd_T27 l0 x7_1).f0))).trans hx121_2; replace hx121_3 := (cell_far (p := ⟨gb120, 0, none⟩) (by first | (rw [add_block]; exact hn121_0) | (show (Addr.add _ _).block ≠ _; rw [add_block]; exact hn121_0) | exact hn121_0) (.int .u64 ((rd_T27 l0 x7_1).f0))).trans hx121_3; replace hx121_0 := (cell_far (p := ⟨gb120, 1, none⟩) (by first | (rw [add_block]; exact hn121_1) | (show (Addr.add _ _).block ≠ _; rw [add_block]; exact hn121_1) | exact hn121_1) (.int .u32 ((rd_T27 l0 x7_1).f1))).trans hx121_0; replace hx121_1 := (cell_far (p := ⟨gb120, 1, none⟩) (by first | (rw [add_block]; exact hn121_1) | (show (Addr.add _ _).block ≠ _; rw [add_block]; exact hn121_1) | exact hn121_1) (.int .u32 ((rd_T27 l0 x7_1).f1))).trans hx121_1; replace hx121_2 := (cell_far (p := ⟨gb120, 1, none⟩) (by first | (rw [add_block]; exact hn121_1) | (show (Addr.add _ _).block ≠ _; rw [add_block]; exact hn121_1) | exact hn121_1) (.int .u32 ((rd_T27 l0 x7_1).f1))).trans hx121_2; replace hx121_3 := (cell_far (p := ⟨gb120, 1, none⟩) (by first | (rw [add_block]; exact hn121_1) | (show (Addr.add _ _).block ≠ _; rw [add_block]; exact hn121_1) | exact hn121_1) (.int .u32 ((rd_T27 l0 x7_1).f1))).trans hx121_3; replace hx121_0 := (cell_far (p := ⟨gb120, 2, none⟩) (by first | (rw [add_block]; exact hn121_2) | (show (Addr.add _ _).block ≠ _; rw [add_block]; exact hn121_2) | exact hn121_2) (.string ((rd_T27 l0 x7_1).f2))).trans hx121_0; replace hx121_1 := (cell_far (p := ⟨gb120, 2, none⟩) (by first | (rw [add_block]; exact hn121_2) | (show (Addr.add _ _).block ≠ _; rw [add_block]; exact hn121_2) | exact hn121_2) (.string ((rd_T27 l0 x7_1).f2))).trans hx121_1; replace hx121_2 := (cell_far (p := ⟨gb120, 2, none⟩) (by first | (rw [add_block]; exact hn121_2) | (show (Addr.add _ _).block ≠ _; rw [add_block]; exact hn121_2) | exact hn121_2) (.string ((rd_T27 l0 x7_1).f2))).trans hx121_2; replace hx121_3 := (cell_far (p := ⟨gb120, 2, none⟩) (by first | (rw [add_block]; exact hn121_2) | (show (Addr.add _ _).block ≠ _; rw [add_block]; exact hn121_2) | exact hn121_2) (.string ((rd_T27 l0 x7_1).f2))).trans hx121_3; replace hx121_0 := (cell_far (p := ⟨gb120, 3, none⟩) (by first | (rw [add_block]; exact hn121_3) | (show (Addr.add _ _).block ≠ _; rw [add_block]; exact hn121_3) | exact hn121_3) (.int .i64 ((rd_T27 l0 x7_1).f3))).trans hx121_0; replace hx121_1 := (cell_far (p := ⟨gb120, 3, none⟩) (by first | (rw [add_block]; exact hn121_3) | (show (Addr.add _ _).block ≠ _; rw [add_block]; exact hn121_3) | exact hn121_3) (.int .i64 ((rd_T27 l0 x7_1).f3))).trans hx121_1; replace hx121_2 := (cell_far (p := ⟨gb120, 3, none⟩) (by first | (rw [add_block]; exact hn121_3) | (show (Addr.add _ _).block ≠ _; rw [add_block]; exact hn121_3) | exact hn121_3) (.int .i64 ((rd_T27 l0 x7_1).f3))).trans hx121_2; replace hx121_3 := (cell_far (p := ⟨gb120, 3, none⟩) (by first | (rw [add_block]; exact hn121_3) | (show (Addr.add _ _).block ≠ _; rw [add_block]; exact hn121_3) | exact hn121_3) (.int .i64 ((rd_T27 l0 x7_1).f3))).trans hx121_3; (try have hy121_0 := fun (n_ : Nat) => (show ((((((w13.drewN n_).setCell ⟨gb120, 0, none⟩ (.int .u64 ((rd_T27 l0 x7_1).f0))).setCell ⟨gb120, 1, none⟩ (.int .u32 ((rd_T27 l0 x7_1).f1))).setCell ⟨gb120, 2, none⟩ (.string ((rd_T27 l0 x7_1).f2))).setCell ⟨gb120, 3, none⟩ (.int .i64 ((rd_T27 l0 x7_1).f3)))).cell? _ = some _ from hx121_0)); (try have hy121_1 := fun (n_ : Nat) => (show ((((((w13.drewN n_).setCell ⟨gb120, 0, none⟩ (.int .u64 ((rd_T27 l0 x7_1).f0))).setCell ⟨gb120, 1, none⟩ (.int .u32 ((rd_T27 l0 x7_1).f1))).setCell ⟨gb120, 2, none⟩ (.string ((rd_T27 l0 x7_1).f2))).setCell ⟨gb120, 3, none⟩ (.int .i64 ((rd_T27 l0 x7_1).f3)))).cell? _ = some _ from hx121_1)); (try have hy121_2 := fun (n_ : Nat) => (show ((((((w13.drewN n_).setCell ⟨gb120, 0, none⟩ (.int .u64 ((rd_T27 l0 x7_1).f0))).setCell ⟨gb120, 1, none⟩ (.int .u32 ((rd_T27 l0 x7_1).f1))).setCell ⟨gb120, 2, none⟩ (.string ((rd_T27 l0 x7_1).f2))).setCell ⟨gb120, 3, none⟩ (.int .i64 ((rd_T27 l0 x7_1).f3)))).cell? _ = some _ from hx121_2)); (try have hy121_3 := fun (n_ : Nat) => (show ((((((w13.drewN n_).setCell ⟨gb120, 0, none⟩ (.int .u64 ((rd_T27 l0 x7_1).f0))).setCell ⟨gb120, 1, none⟩ (.int .u32 ((rd_T27 l0 x7_1).f1))).setCell ⟨gb120, 2, none⟩ (.string ((rd_T27 l0 x7_1).f2))).setCell ⟨gb120, 3, none⟩ (.int .i64 ((rd_T27 l0 x7_1).f3)))).cell? _ = some _ from hx121_3)); clear hn121_0; clear hn121_1; clear hn121_2; clear hn121_3; replace p121 := eq_true p121; replace q121 := eq_true q121))
                      repeat (go_quiet (first | ((with_reducible refine gate_dst (N := 4) rfl ?_); refine box_event ?hg (N := 4) ?hd (cs := #[.int .u64 0, .int .u32 0, .string (⟨#[]⟩ : ByteArray), .int .i64 0]) (t := 27) ?hr ?_; (case hd => rfl); (case hg => rfl); (case hr => first | (go_simp; done) | (go_simp; rfl)); intro gb120 hg w13 hbox hb; have n0_ := Aside0.mk (below_step (by repeat (first | (with_reducible first | exact HB.out | apply below_alloc | apply pw_below_drewN | apply below_drew1) | exact HB.out)) hb); have n1_ := Aside0.mk (hbox); have n2_ := Aside0.mk ((by rw [hg]; exact (below_size (by repeat (first | (with_reducible first | exact HB.out | apply below_alloc | apply pw_below_drewN | apply below_drew1) | exact HB.out))) : w.heap.size ≤ gb120)); have n3_ := Aside0.mk ((by rw [hg]; exact (below_size (by repeat (first | (with_reducible first | exact HB.out | apply below_alloc | apply pw_below_drewN | apply below_drew1) | exact HB.out))) : w.heap.size ≤ gb120)); clear HB; have HB := n0_; have BK120 := n1_; have GW120 := n2_; have GE120 := n3_; clear n0_ n1_ n2_ n3_; clear hb hbox hg; have hcz14_0 : w13.cell? ⟨gb120, 0, none⟩ = some (.int .u64 0) := (blk_cell BK120.out 0).trans rfl; have hcz14_1 : w13.cell? ⟨gb120, 1, none⟩ = some (.int .u32 0) := (blk_cell BK120.out 1).trans rfl; have hcz14_2 : w13.cell? ⟨gb120, 2, none⟩ = some (.string (⟨#[]⟩ : ByteArray)) := (blk_cell BK120.out 2).trans rfl; have hcz14_3 : w13.cell? ⟨gb120, 3, none⟩ = some (.int .i64 0) := (blk_cell BK120.out 3).trans rfl; have hfz14_0 := blk_frozen BK120.out 0; have hfz14_1 := blk_frozen BK120.out 1; have hfz14_2 := blk_frozen BK120.out 2; have hfz14_3 := blk_frozen BK120.out 3; have p121 : 0 ≤ ((ji7) : Int) := of_decide_eq_true (by first | (with_reducible assumption) | assumption); have q121 : (ji7) < (l0.length : Int) := of_decide_eq_true (by first | (with_reducible assumption) | assumption); obtain ⟨ad121, e121, hx121_0, hx121_1, hx121_2, hx121_3⟩ := at_T27 HR0.out (ji7) p121 q121; obtain rfl : ad119 = ad121 := (by injection e121); have hn121_0 : ad119.block ≠ gb120 := Nat.ne_of_lt (Nat.lt_of_lt_of_le (by have := World.block_lt_of_cell? _ _ hx121_0; first | rwa [add_block] at this | exact this) GW120.out); have hn121_1 : ad119.block ≠ gb120 := Nat.ne_of_lt (Nat.lt_of_lt_of_le (by have := World.block_lt_of_cell? _ _ hx121_0; first | rwa [add_block] at this | exact this) GW120.out); have hn121_2 : ad119.block ≠ gb120 := Nat.ne_of_lt (Nat.lt_of_lt_of_le (by have := World.block_lt_of_cell? _ _ hx121_0; first | rwa [add_block] at this | exact this) GW120.out); have hn121_3 : ad119.block ≠ gb120 := Nat.ne_of_lt (Nat.lt_of_lt_of_le (by have := World.block_lt_of_cell? _ _ hx121_0; first | rwa [add_block] at this | exact this) GW120.out); replace hx121_0 := (HB.out.cell (World.block_lt_of_cell? w _ hx121_0)).trans hx121_0; replace hx121_1 := (HB.out.cell (World.block_lt_of_cell? w _ hx121_1)).trans hx121_1; replace hx121_2 := (HB.out.cell (World.block_lt_of_cell? w _ hx121_2)).trans hx121_2; replace hx121_3 := (HB.out.cell (World.block_lt_of_cell? w _ hx121_3)).trans hx121_3; replace hx121_0 := (cell_far (p := ⟨gb120, 0, none⟩) (by first | (rw [add_block]; exact hn121_0) | (show (Addr.add _ _).block ≠ _; rw [add_block]; exact hn121_0) | exact hn121_0) (.int .u64 ((rd_T27 l0 x7_1).f0))).trans hx121_0; replace hx121_1 := (cell_far (p := ⟨gb120, 0, none⟩) (by first | (rw [add_block]; exact hn121_0) | (show (Addr.add _ _).block ≠ _; rw [add_block]; exact hn121_0) | exact hn121_0) (.int .u64 ((rd_T27 l0 x7_1).f0))).trans hx121_1; replace hx121_2 := (cell_far (p := ⟨gb120, 0, none⟩) (by first | (rw [add_block]; exact hn121_0) | (show (Addr.add _ _).block ≠ _; rw [add_block]; exact hn121_0) | exact hn121_0) (.int .u64 ((rd_T27 l0 x7_1).f0))).trans hx121_2; replace hx121_3 := (cell_far (p := ⟨gb120, 0, none⟩) (by first | (rw [add_block]; exact hn121_0) | (show (Addr.add _ _).block ≠ _; rw [add_block]; exact hn121_0) | exact hn121_0) (.int .u64 ((rd_T27 l0 x7_1).f0))).trans hx121_3; replace hx121_0 := (cell_far (p := ⟨gb120, 1, none⟩) (by first | (rw [add_block]; exact hn121_1) | (show (Addr.add _ _).block ≠ _; rw [add_block]; exact hn121_1) | exact hn121_1) (.int .u32 ((rd_T27 l0 x7_1).f1))).trans hx121_0; replace hx121_1 := (cell_far (p := ⟨gb120, 1, none⟩) (by first | (rw [add_block]; exact hn121_1) | (show (Addr.add _ _).block ≠ _; rw [add_block]; exact hn121_1) | exact hn121_1) (.int .u32 ((rd_T27 l0 x7_1).f1))).trans hx121_1; replace hx121_2 := (cell_far (p := ⟨gb120, 1, none⟩) (by first | (rw [add_block]; exact hn121_1) | (show (Addr.add _ _).block ≠ _; rw [add_block]; exact hn121_1) | exact hn121_1) (.int .u32 ((rd_T27 l0 x7_1).f1))).trans hx121_2; replace hx121_3 := (cell_far (p := ⟨gb120, 1, none⟩) (by first | (rw [add_block]; exact hn121_1) | (show (Addr.add _ _).block ≠ _; rw [add_block]; exact hn121_1) | exact hn121_1) (.int .u32 ((rd_T27 l0 x7_1).f1))).trans hx121_3; replace hx121_0 := (cell_far (p := ⟨gb120, 2, none⟩) (by first | (rw [add_block]; exact hn121_2) | (show (Addr.add _ _).block ≠ _; rw [add_block]; exact hn121_2) | exact hn121_2) (.string ((rd_T27 l0 x7_1).f2))).trans hx121_0; replace hx121_1 := (cell_far (p := ⟨gb120, 2, none⟩) (by first | (rw [add_block]; exact hn121_2) | (show (Addr.add _ _).block ≠ _; rw [add_block]; exact hn121_2) | exact hn121_2) (.string ((rd_T27 l0 x7_1).f2))).trans hx121_1; replace hx121_2 := (cell_far (p := ⟨gb120, 2, none⟩) (by first | (rw [add_block]; exact hn121_2) | (show (Addr.add _ _).block ≠ _; rw [add_block]; exact hn121_2) | exact hn121_2) (.string ((rd_T27 l0 x7_1).f2))).trans hx121_2; replace hx121_3 := (cell_far (p := ⟨gb120, 2, none⟩) (by first | (rw [add_block]; exact hn121_2) | (show (Addr.add _ _).block ≠ _; rw [add_block]; exact hn121_2) | exact hn121_2) (.string ((rd_T27 l0 x7_1).f2))).trans hx121_3; replace hx121_0 := (cell_far (p := ⟨gb120, 3, none⟩) (by first | (rw [add_block]; exact hn121_3) | (show (Addr.add _ _).block ≠ _; rw [add_block]; exact hn121_3) | exact hn121_3) (.int .i64 ((rd_T27 l0 x7_1).f3))).trans hx121_0; replace hx121_1 := (cell_far (p := ⟨gb120, 3, none⟩) (by first | (rw [add_block]; exact hn121_3) | (show (Addr.add _ _).block ≠ _; rw [add_block]; exact hn121_3) | exact hn121_3) (.int .i64 ((rd_T27 l0 x7_1).f3))).trans hx121_1; replace hx121_2 := (cell_far (p := ⟨gb120, 3, none⟩) (by first | (rw [add_block]; exact hn121_3) | (show (Addr.add _ _).block ≠ _; rw [add_block]; exact hn121_3) | exact hn121_3) (.int .i64 ((rd_T27 l0 x7_1).f3))).trans hx121_2; replace hx121_3 := (cell_far (p := ⟨gb120, 3, none⟩) (by first | (rw [add_block]; exact hn121_3) | (show (Addr.add _ _).block ≠ _; rw [add_block]; exact hn121_3) | exact hn121_3) (.int .i64 ((rd_T27 l0 x7_1).f3))).trans hx121_3; (try have hy121_0 := fun (n_ : Nat) => (show ((((((w13.drewN n_).setCell ⟨gb120, 0, none⟩ (.int .u64 ((rd_T27 l0 x7_1).f0))).setCell ⟨gb120, 1, none⟩ (.int .u32 ((rd_T27 l0 x7_1).f1))).setCell ⟨gb120, 2, none⟩ (.string ((rd_T27 l0 x7_1).f2))).setCell ⟨gb120, 3, none⟩ (.int .i64 ((rd_T27 l0 x7_1).f3)))).cell? _ = some _ from hx121_0)); (try have hy121_1 := fun (n_ : Nat) => (show ((((((w13.drewN n_).setCell ⟨gb120, 0, none⟩ (.int .u64 ((rd_T27 l0 x7_1).f0))).setCell ⟨gb120, 1, none⟩ (.int .u32 ((rd_T27 l0 x7_1).f1))).setCell ⟨gb120, 2, none⟩ (.string ((rd_T27 l0 x7_1).f2))).setCell ⟨gb120, 3, none⟩ (.int .i64 ((rd_T27 l0 x7_1).f3)))).cell? _ = some _ from hx121_1)); (try have hy121_2 := fun (n_ : Nat) => (show ((((((w13.drewN n_).setCell ⟨gb120, 0, none⟩ (.int .u64 ((rd_T27 l0 x7_1).f0))).setCell ⟨gb120, 1, none⟩ (.int .u32 ((rd_T27 l0 x7_1).f1))).setCell ⟨gb120, 2, none⟩ (.string ((rd_T27 l0 x7_1).f2))).setCell ⟨gb120, 3, none⟩ (.int .i64 ((rd_T27 l0 x7_1).f3)))).cell? _ = some _ from hx121_2)); (try have hy121_3 := fun (n_ : Nat) => (show ((((((w13.drewN n_).setCell ⟨gb120, 0, none⟩ (.int .u64 ((rd_T27 l0 x7_1).f0))).setCell ⟨gb120, 1, none⟩ (.int .u32 ((rd_T27 l0 x7_1).f1))).setCell ⟨gb120, 2, none⟩ (.string ((rd_T27 l0 x7_1).f2))).setCell ⟨gb120, 3, none⟩ (.int .i64 ((rd_T27 l0 x7_1).f3)))).cell? _ = some _ from hx121_3)); clear hn121_0; clear hn121_1; clear hn121_2; clear hn121_3; replace p121 := eq_true p121; replace q121 := eq_true q121)); try go_wp2_with (first | ((with_reducible refine gate_dst (N := 4) rfl ?_); refine box_event ?hg (N := 4) ?hd (cs := #[.int .u64 0, .int .u32 0, .string (⟨#[]⟩ : ByteArray), .int .i64 0]) (t := 27) ?hr ?_; (case hd => rfl); (case hg => rfl); (case hr => first | (go_simp; done) | (go_simp; rfl)); intro gb120 hg w13 hbox hb; have n0_ := Aside0.mk (below_step (by repeat (first | (with_reducible first | exact HB.out | apply below_alloc | apply pw_below_drewN | apply below_drew1) | exact HB.out)) hb); have n1_ := Aside0.mk (hbox); have n2_ := Aside0.mk ((by rw [hg]; exact (below_size (by repeat (first | (with_reducible first | exact HB.out | apply below_alloc | apply pw_below_drewN | apply below_drew1) | exact HB.out))) : w.heap.size ≤ gb120)); have n3_ := Aside0.mk ((by rw [hg]; exact (below_size (by repeat (first | (with_reducible first | exact HB.out | apply below_alloc | apply pw_below_drewN | apply below_drew1) | exact HB.out))) : w.heap.size ≤ gb120)); clear HB; have HB := n0_; have BK120 := n1_; have GW120 := n2_; have GE120 := n3_; clear n0_ n1_ n2_ n3_; clear hb hbox hg; have hcz14_0 : w13.cell? ⟨gb120, 0, none⟩ = some (.int .u64 0) := (blk_cell BK120.out 0).trans rfl; have hcz14_1 : w13.cell? ⟨gb120, 1, none⟩ = some (.int .u32 0) := (blk_cell BK120.out 1).trans rfl; have hcz14_2 : w13.cell? ⟨gb120, 2, none⟩ = some (.string (⟨#[]⟩ : ByteArray)) := (blk_cell BK120.out 2).trans rfl; have hcz14_3 : w13.cell? ⟨gb120, 3, none⟩ = some (.int .i64 0) := (blk_cell BK120.out 3).trans rfl; have hfz14_0 := blk_frozen BK120.out 0; have hfz14_1 := blk_frozen BK120.out 1; have hfz14_2 := blk_frozen BK120.out 2; have hfz14_3 := blk_frozen BK120.out 3; have p121 : 0 ≤ ((ji7) : Int) := of_decide_eq_true (by first | (with_reducible assumption) | assumption); have q121 : (ji7) < (l0.length : Int) := of_decide_eq_true (by first | (with_reducible assumption) | assumption); obtain ⟨ad121, e121, hx121_0, hx121_1, hx121_2, hx121_3⟩ := at_T27 HR0.out (ji7) p121 q121; obtain rfl : ad119 = ad121 := (by injection e121); have hn121_0 : ad119.block ≠ gb120 := Nat.ne_of_lt (Nat.lt_of_lt_of_le (by have := World.block_lt_of_cell? _ _ hx121_0; first | rwa [add_block] at this | exact this) GW120.out); have hn121_1 : ad119.block ≠ gb120 := Nat.ne_of_lt (Nat.lt_of_lt_of_le (by have := World.block_lt_of_cell? _ _ hx121_0; first | rwa [add_block] at this | exact this) GW120.out); have hn121_2 : ad119.block ≠ gb120 := Nat.ne_of_lt (Nat.lt_of_lt_of_le (by have := World.block_lt_of_cell? _ _ hx121_0; first | rwa [add_block] at this | exact this) GW120.out); have hn121_3 : ad119.block ≠ gb120 := Nat.ne_of_lt (Nat.lt_of_lt_of_le (by have := World.block_lt_of_cell? _ _ hx121_0; first | rwa [add_block] at this | exact this) GW120.out); replace hx121_0 := (HB.out.cell (World.block_lt_of_cell? w _ hx121_0)).trans hx121_0; replace hx121_1 := (HB.out.cell (World.block_lt_of_cell? w _ hx121_1)).trans hx121_1; replace hx121_2 := (HB.out.cell (World.block_lt_of_cell? w _ hx121_2)).trans hx121_2; replace hx121_3 := (HB.out.cell (World.block_lt_of_cell? w _ hx121_3)).trans hx121_3; replace hx121_0 := (cell_far (p := ⟨gb120, 0, none⟩) (by first | (rw [add_block]; exact hn121_0) | (show (Addr.add _ _).block ≠ _; rw [add_block]; exact hn121_0) | exact hn121_0) (.int .u64 ((rd_T27 l0 x7_1).f0))).trans hx121_0; replace hx121_1 := (cell_far (p := ⟨gb120, 0, none⟩) (by first | (rw [add_block]; exact hn121_0) | (show (Addr.add _ _).block ≠ _; rw [add_block]; exact hn121_0) | exact hn121_0) (.int .u64 ((rd_T27 l0 x7_1).f0))).trans hx121_1; replace hx121_2 := (cell_far (p := ⟨gb120, 0, none⟩) (by first | (rw [add_block]; exact hn121_0) | (show (Addr.add _ _).block ≠ _; rw [add_block]; exact hn121_0) | exact hn121_0) (.int .u64 ((rd_T27 l0 x7_1).f0))).trans hx121_2; replace hx121_3 := (cell_far (p := ⟨gb120, 0, none⟩) (by first | (rw [add_block]; exact hn121_0) | (show (Addr.add _ _).block ≠ _; rw [add_block]; exact hn121_0) | exact hn121_0) (.int .u64 ((rd_T27 l0 x7_1).f0))).trans hx121_3; replace hx121_0 := (cell_far (p := ⟨gb120, 1, none⟩) (by first | (rw [add_block]; exact hn121_1) | (show (Addr.add _ _).block ≠ _; rw [add_block]; exact hn121_1) | exact hn121_1) (.int .u32 ((rd_T27 l0 x7_1).f1))).trans hx121_0; replace hx121_1 := (cell_far (p := ⟨gb120, 1, none⟩) (by first | (rw [add_block]; exact hn121_1) | (show (Addr.add _ _).block ≠ _; rw [add_block]; exact hn121_1) | exact hn121_1) (.int .u32 ((rd_T27 l0 x7_1).f1))).trans hx121_1; replace hx121_2 := (cell_far (p := ⟨gb120, 1, none⟩) (by first | (rw [add_block]; exact hn121_1) | (show (Addr.add _ _).block ≠ _; rw [add_block]; exact hn121_1) | exact hn121_1) (.int .u32 ((rd_T27 l0 x7_1).f1))).trans hx121_2; replace hx121_3 := (cell_far (p := ⟨gb120, 1, none⟩) (by first | (rw [add_block]; exact hn121_1) | (show (Addr.add _ _).block ≠ _; rw [add_block]; exact hn121_1) | exact hn121_1) (.int .u32 ((rd_T27 l0 x7_1).f1))).trans hx121_3; replace hx121_0 := (cell_far (p := ⟨gb120, 2, none⟩) (by first | (rw [add_block]; exact hn121_2) | (show (Addr.add _ _).block ≠ _; rw [add_block]; exact hn121_2) | exact hn121_2) (.string ((rd_T27 l0 x7_1).f2))).trans hx121_0; replace hx121_1 := (cell_far (p := ⟨gb120, 2, none⟩) (by first | (rw [add_block]; exact hn121_2) | (show (Addr.add _ _).block ≠ _; rw [add_block]; exact hn121_2) | exact hn121_2) (.string ((rd_T27 l0 x7_1).f2))).trans hx121_1; replace hx121_2 := (cell_far (p := ⟨gb120, 2, none⟩) (by first | (rw [add_block]; exact hn121_2) | (show (Addr.add _ _).block ≠ _; rw [add_block]; exact hn121_2) | exact hn121_2) (.string ((rd_T27 l0 x7_1).f2))).trans hx121_2; replace hx121_3 := (cell_far (p := ⟨gb120, 2, none⟩) (by first | (rw [add_block]; exact hn121_2) | (show (Addr.add _ _).block ≠ _; rw [add_block]; exact hn121_2) | exact hn121_2) (.string ((rd_T27 l0 x7_1).f2))).trans hx121_3; replace hx121_0 := (cell_far (p := ⟨gb120, 3, none⟩) (by first | (rw [add_block]; exact hn121_3) | (show (Addr.add _ _).block ≠ _; rw [add_block]; exact hn121_3) | exact hn121_3) (.int .i64 ((rd_T27 l0 x7_1).f3))).trans hx121_0; replace hx121_1 := (cell_far (p := ⟨gb120, 3, none⟩) (by first | (rw [add_block]; exact hn121_3) | (show (Addr.add _ _).block ≠ _; rw [add_block]; exact hn121_3) | exact hn121_3) (.int .i64 ((rd_T27 l0 x7_1).f3))).trans hx121_1; replace hx121_2 := (cell_far (p := ⟨gb120, 3, none⟩) (by first | (rw [add_block]; exact hn121_3) | (show (Addr.add _ _).block ≠ _; rw [add_block]; exact hn121_3) | exact hn121_3) (.int .i64 ((rd_T27 l0 x7_1).f3))).trans hx121_2; replace hx121_3 := (cell_far (p := ⟨gb120, 3, none⟩) (by first | (rw [add_block]; exact hn121_3) | (show (Addr.add _ _).block ≠ _; rw [add_block]; exact hn121_3) | exact hn121_3) (.int .i64 ((rd_T27 l0 x7_1).f3))).trans hx121_3; (try have hy121_0 := fun (n_ : Nat) => (show ((((((w13.drewN n_).setCell ⟨gb120, 0, none⟩ (.int .u64 ((rd_T27 l0 x7_1).f0))).setCell ⟨gb120, 1, none⟩ (.int .u32 ((rd_T27 l0 x7_1).f1))).setCell ⟨gb120, 2, none⟩ (.string ((rd_T27 l0 x7_1).f2))).setCell ⟨gb120, 3, none⟩ (.int .i64 ((rd_T27 l0 x7_1).f3)))).cell? _ = some _ from hx121_0)); (try have hy121_1 := fun (n_ : Nat) => (show ((((((w13.drewN n_).setCell ⟨gb120, 0, none⟩ (.int .u64 ((rd_T27 l0 x7_1).f0))).setCell ⟨gb120, 1, none⟩ (.int .u32 ((rd_T27 l0 x7_1).f1))).setCell ⟨gb120, 2, none⟩ (.string ((rd_T27 l0 x7_1).f2))).setCell ⟨gb120, 3, none⟩ (.int .i64 ((rd_T27 l0 x7_1).f3)))).cell? _ = some _ from hx121_1)); (try have hy121_2 := fun (n_ : Nat) => (show ((((((w13.drewN n_).setCell ⟨gb120, 0, none⟩ (.int .u64 ((rd_T27 l0 x7_1).f0))).setCell ⟨gb120, 1, none⟩ (.int .u32 ((rd_T27 l0 x7_1).f1))).setCell ⟨gb120, 2, none⟩ (.string ((rd_T27 l0 x7_1).f2))).setCell ⟨gb120, 3, none⟩ (.int .i64 ((rd_T27 l0 x7_1).f3)))).cell? _ = some _ from hx121_2)); (try have hy121_3 := fun (n_ : Nat) => (show ((((((w13.drewN n_).setCell ⟨gb120, 0, none⟩ (.int .u64 ((rd_T27 l0 x7_1).f0))).setCell ⟨gb120, 1, none⟩ (.int .u32 ((rd_T27 l0 x7_1).f1))).setCell ⟨gb120, 2, none⟩ (.string ((rd_T27 l0 x7_1).f2))).setCell ⟨gb120, 3, none⟩ (.int .i64 ((rd_T27 l0 x7_1).f3)))).cell? _ = some _ from hx121_3)); clear hn121_0; clear hn121_1; clear hn121_2; clear hn121_3; replace p121 := eq_true p121; replace q121 := eq_true q121)))
                      go_roundg k1
                      case measure => have := HK1.out; omega
                      case rel => exact ⟨(wrap64 (x7_1 + 1)), (by first | rfl | (simp; done) | (simp [*]; done)), H', ⟨by have := HK1.out; omega⟩, ⟨by repeat (first | (with_reducible first | exact HB.out | apply below_alloc | apply pw_below_drewN | apply below_drew1 | refine below_set ?_ GE120.out) | exact HB.out)⟩⟩
                  · rw [if_neg c9] at H
                    exact absurd H (by simp)
                · rw [if_neg c8] at H
                  exact absurd H (by simp)
              · rw [if_neg c6] at H
                have c6b0 : decide (0 < x7_1) = false := decide_eq_false c6
                clear c6
                have H' := Aside0.mk H
                clear H
                have p119 : 0 ≤ (x7_1 : Int) := of_decide_eq_true (by first | (with_reducible assumption) | assumption)
                have q119 : x7_1 < (l0.length : Int) := of_decide_eq_true (by first | (with_reducible assumption) | assumption)
                obtain ⟨ad119, e119, hx119_0, hx119_1, hx119_2, hx119_3⟩ := at_T27 HR0.out x7_1 p119 q119
                cases e119
                replace hx119_0 := (HB.out.cell (World.block_lt_of_cell? w _ hx119_0)).trans hx119_0
                replace hx119_1 := (HB.out.cell (World.block_lt_of_cell? w _ hx119_1)).trans hx119_1
                replace hx119_2 := (HB.out.cell (World.block_lt_of_cell? w _ hx119_2)).trans hx119_2
                replace hx119_3 := (HB.out.cell (World.block_lt_of_cell? w _ hx119_3)).trans hx119_3
                replace p119 := eq_true p119
                replace q119 := eq_true q119
                go_wp2_with (first | ((with_reducible refine gate_dst (N := 4) rfl ?_); refine box_event ?hg (N := 4) ?hd (cs := #[.int .u64 0, .int .u32 0, .string (⟨#[]⟩ : ByteArray), .int .i64 0]) (t := 27) ?hr ?_; (case hd => rfl); (case hg => rfl); (case hr => first | (go_simp; done) | (go_simp; rfl)); intro gb120 hg w15 hbox hb; have n0_ := Aside0.mk (below_step (by repeat (first | (with_reducible first | exact HB.out | apply below_alloc | apply pw_below_drewN | apply below_drew1) | exact HB.out)) hb); have n1_ := Aside0.mk (hbox); have n2_ := Aside0.mk ((by rw [hg]; exact (below_size (by repeat (first | (with_reducible first | exact HB.out | apply below_alloc | apply pw_below_drewN | apply below_drew1) | exact HB.out))) : w.heap.size ≤ gb120)); have n3_ := Aside0.mk ((by rw [hg]; exact (below_size (by repeat (first | (with_reducible first | exact HB.out | apply below_alloc | apply pw_below_drewN | apply below_drew1) | exact HB.out))) : w.heap.size ≤ gb120)); clear HB; have HB := n0_; have BK120 := n1_; have GW120 := n2_; have GE120 := n3_; clear n0_ n1_ n2_ n3_; clear hb hbox hg; have hcz16_0 : w15.cell? ⟨gb120, 0, none⟩ = some (.int .u64 0) := (blk_cell BK120.out 0).trans rfl; have hcz16_1 : w15.cell? ⟨gb120, 1, none⟩ = some (.int .u32 0) := (blk_cell BK120.out 1).trans rfl; have hcz16_2 : w15.cell? ⟨gb120, 2, none⟩ = some (.string (⟨#[]⟩ : ByteArray)) := (blk_cell BK120.out 2).trans rfl; have hcz16_3 : w15.cell? ⟨gb120, 3, none⟩ = some (.int .i64 0) := (blk_cell BK120.out 3).trans rfl; have hfz16_0 := blk_frozen BK120.out 0; have hfz16_1 := blk_frozen BK120.out 1; have hfz16_2 := blk_frozen BK120.out 2; have hfz16_3 := blk_frozen BK120.out 3))
                repeat (go_quiet (first | ((with_reducible refine gate_dst (N := 4) rfl ?_); refine box_event ?hg (N := 4) ?hd (cs := #[.int .u64 0, .int .u32 0, .string (⟨#[]⟩ : ByteArray), .int .i64 0]) (t := 27) ?hr ?_; (case hd => rfl); (case hg => rfl); (case hr => first | (go_simp; done) | (go_simp; rfl)); intro gb120 hg w15 hbox hb; have n0_ := Aside0.mk (below_step (by repeat (first | (with_reducible first | exact HB.out | apply below_alloc | apply pw_below_drewN | apply below_drew1) | exact HB.out)) hb); have n1_ := Aside0.mk (hbox); have n2_ := Aside0.mk ((by rw [hg]; exact (below_size (by repeat (first | (with_reducible first | exact HB.out | apply below_alloc | apply pw_below_drewN | apply below_drew1) | exact HB.out))) : w.heap.size ≤ gb120)); have n3_ := Aside0.mk ((by rw [hg]; exact (below_size (by repeat (first | (with_reducible first | exact HB.out | apply below_alloc | apply pw_below_drewN | apply below_drew1) | exact HB.out))) : w.heap.size ≤ gb120)); clear HB; have HB := n0_; have BK120 := n1_; have GW120 := n2_; have GE120 := n3_; clear n0_ n1_ n2_ n3_; clear hb hbox hg; have hcz16_0 : w15.cell? ⟨gb120, 0, none⟩ = some (.int .u64 0) := (blk_cell BK120.out 0).trans rfl; have hcz16_1 : w15.cell? ⟨gb120, 1, none⟩ = some (.int .u32 0) := (blk_cell BK120.out 1).trans rfl; have hcz16_2 : w15.cell? ⟨gb120, 2, none⟩ = some (.string (⟨#[]⟩ : ByteArray)) := (blk_cell BK120.out 2).trans rfl; have hcz16_3 : w15.cell? ⟨gb120, 3, none⟩ = some (.int .i64 0) := (blk_cell BK120.out 3).trans rfl; have hfz16_0 := blk_frozen BK120.out 0; have hfz16_1 := blk_frozen BK120.out 1; have hfz16_2 := blk_frozen BK120.out 2; have hfz16_3 := blk_frozen BK120.out 3)); try go_wp2_with (first | ((with_reducible refine gate_dst (N := 4) rfl ?_); refine box_event ?hg (N := 4) ?hd (cs := #[.int .u64 0, .int .u32 0, .string (⟨#[]⟩ : ByteArray), .int .i64 0]) (t := 27) ?hr ?_; (case hd => rfl); (case hg => rfl); (case hr => first | (go_simp; done) | (go_simp; rfl)); intro gb120 hg w15 hbox hb; have n0_ := Aside0.mk (below_step (by repeat (first | (with_reducible first | exact HB.out | apply below_alloc | apply pw_below_drewN | apply below_drew1) | exact HB.out)) hb); have n1_ := Aside0.mk (hbox); have n2_ := Aside0.mk ((by rw [hg]; exact (below_size (by repeat (first | (with_reducible first | exact HB.out | apply below_alloc | apply pw_below_drewN | apply below_drew1) | exact HB.out))) : w.heap.size ≤ gb120)); have n3_ := Aside0.mk ((by rw [hg]; exact (below_size (by repeat (first | (with_reducible first | exact HB.out | apply below_alloc | apply pw_below_drewN | apply below_drew1) | exact HB.out))) : w.heap.size ≤ gb120)); clear HB; have HB := n0_; have BK120 := n1_; have GW120 := n2_; have GE120 := n3_; clear n0_ n1_ n2_ n3_; clear hb hbox hg; have hcz16_0 : w15.cell? ⟨gb120, 0, none⟩ = some (.int .u64 0) := (blk_cell BK120.out 0).trans rfl; have hcz16_1 : w15.cell? ⟨gb120, 1, none⟩ = some (.int .u32 0) := (blk_cell BK120.out 1).trans rfl; have hcz16_2 : w15.cell? ⟨gb120, 2, none⟩ = some (.string (⟨#[]⟩ : ByteArray)) := (blk_cell BK120.out 2).trans rfl; have hcz16_3 : w15.cell? ⟨gb120, 3, none⟩ = some (.int .i64 0) := (blk_cell BK120.out 3).trans rfl; have hfz16_0 := blk_frozen BK120.out 0; have hfz16_1 := blk_frozen BK120.out 1; have hfz16_2 := blk_frozen BK120.out 2; have hfz16_3 := blk_frozen BK120.out 3)))
                go_roundg k1
                case measure => have := HK1.out; omega
                case rel => exact ⟨(wrap64 (x7_1 + 1)), (by first | rfl | (simp; done) | (simp [*]; done)), H', ⟨by have := HK1.out; omega⟩, ⟨by repeat (first | (with_reducible first | exact HB.out | apply below_alloc | apply pw_below_drewN | apply below_drew1 | refine below_set ?_ GE120.out) | exact HB.out)⟩⟩
            · rw [if_neg c5] at H
              have c5b0 : (((rd_T27 l0 x7_1).f0) == (IntKind.u64.wrap ((IntKind.u64.wrap (x7_1)) + 1))) = false := beq_eq_false_iff_ne.mpr c5
              have c5b1 : (((rd_T27 l0 x7_1).f0) != (IntKind.u64.wrap ((IntKind.u64.wrap (x7_1)) + 1))) = true := bne_iff_ne.mpr c5
              obtain rfl := Option.some.inj H
              have p119 : 0 ≤ (x7_1 : Int) := of_decide_eq_true (by first | (with_reducible assumption) | assumption)
              have q119 : x7_1 < (l0.length : Int) := of_decide_eq_true (by first | (with_reducible assumption) | assumption)
              obtain ⟨ad119, e119, hx119_0, hx119_1, hx119_2, hx119_3⟩ := at_T27 HR0.out x7_1 p119 q119
              cases e119
              replace hx119_0 := (HB.out.cell (World.block_lt_of_cell? w _ hx119_0)).trans hx119_0
              replace hx119_1 := (HB.out.cell (World.block_lt_of_cell? w _ hx119_1)).trans hx119_1
              replace hx119_2 := (HB.out.cell (World.block_lt_of_cell? w _ hx119_2)).trans hx119_2
              replace hx119_3 := (HB.out.cell (World.block_lt_of_cell? w _ hx119_3)).trans hx119_3
              replace p119 := eq_true p119
              replace q119 := eq_true q119
              go_wp2_with (first | ((with_reducible refine gate_dst (N := 4) rfl ?_); refine box_event ?hg (N := 4) ?hd (cs := #[.int .u64 0, .int .u32 0, .string (⟨#[]⟩ : ByteArray), .int .i64 0]) (t := 27) ?hr ?_; (case hd => rfl); (case hg => rfl); (case hr => first | (go_simp; done) | (go_simp; rfl)); intro gb120 hg w17 hbox hb; have n0_ := Aside0.mk (below_step (by repeat (first | (with_reducible first | exact HB.out | apply below_alloc | apply pw_below_drewN | apply below_drew1) | exact HB.out)) hb); have n1_ := Aside0.mk (hbox); have n2_ := Aside0.mk ((by rw [hg]; exact (below_size (by repeat (first | (with_reducible first | exact HB.out | apply below_alloc | apply pw_below_drewN | apply below_drew1) | exact HB.out))) : w.heap.size ≤ gb120)); have n3_ := Aside0.mk ((by rw [hg]; exact (below_size (by repeat (first | (with_reducible first | exact HB.out | apply below_alloc | apply pw_below_drewN | apply below_drew1) | exact HB.out))) : w.heap.size ≤ gb120)); clear HB; have HB := n0_; have BK120 := n1_; have GW120 := n2_; have GE120 := n3_; clear n0_ n1_ n2_ n3_; clear hb hbox hg; have hcz18_0 : w17.cell? ⟨gb120, 0, none⟩ = some (.int .u64 0) := (blk_cell BK120.out 0).trans rfl; have hcz18_1 : w17.cell? ⟨gb120, 1, none⟩ = some (.int .u32 0) := (blk_cell BK120.out 1).trans rfl; have hcz18_2 : w17.cell? ⟨gb120, 2, none⟩ = some (.string (⟨#[]⟩ : ByteArray)) := (blk_cell BK120.out 2).trans rfl; have hcz18_3 : w17.cell? ⟨gb120, 3, none⟩ = some (.int .i64 0) := (blk_cell BK120.out 3).trans rfl; have hfz18_0 := blk_frozen BK120.out 0; have hfz18_1 := blk_frozen BK120.out 1; have hfz18_2 := blk_frozen BK120.out 2; have hfz18_3 := blk_frozen BK120.out 3))
              repeat (go_quiet (first | ((with_reducible refine gate_dst (N := 4) rfl ?_); refine box_event ?hg (N := 4) ?hd (cs := #[.int .u64 0, .int .u32 0, .string (⟨#[]⟩ : ByteArray), .int .i64 0]) (t := 27) ?hr ?_; (case hd => rfl); (case hg => rfl); (case hr => first | (go_simp; done) | (go_simp; rfl)); intro gb120 hg w17 hbox hb; have n0_ := Aside0.mk (below_step (by repeat (first | (with_reducible first | exact HB.out | apply below_alloc | apply pw_below_drewN | apply below_drew1) | exact HB.out)) hb); have n1_ := Aside0.mk (hbox); have n2_ := Aside0.mk ((by rw [hg]; exact (below_size (by repeat (first | (with_reducible first | exact HB.out | apply below_alloc | apply pw_below_drewN | apply below_drew1) | exact HB.out))) : w.heap.size ≤ gb120)); have n3_ := Aside0.mk ((by rw [hg]; exact (below_size (by repeat (first | (with_reducible first | exact HB.out | apply below_alloc | apply pw_below_drewN | apply below_drew1) | exact HB.out))) : w.heap.size ≤ gb120)); clear HB; have HB := n0_; have BK120 := n1_; have GW120 := n2_; have GE120 := n3_; clear n0_ n1_ n2_ n3_; clear hb hbox hg; have hcz18_0 : w17.cell? ⟨gb120, 0, none⟩ = some (.int .u64 0) := (blk_cell BK120.out 0).trans rfl; have hcz18_1 : w17.cell? ⟨gb120, 1, none⟩ = some (.int .u32 0) := (blk_cell BK120.out 1).trans rfl; have hcz18_2 : w17.cell? ⟨gb120, 2, none⟩ = some (.string (⟨#[]⟩ : ByteArray)) := (blk_cell BK120.out 2).trans rfl; have hcz18_3 : w17.cell? ⟨gb120, 3, none⟩ = some (.int .i64 0) := (blk_cell BK120.out 3).trans rfl; have hfz18_0 := blk_frozen BK120.out 0; have hfz18_1 := blk_frozen BK120.out 1; have hfz18_2 := blk_frozen BK120.out 2; have hfz18_3 := blk_frozen BK120.out 3)); try go_wp2_with (first | ((with_reducible refine gate_dst (N := 4) rfl ?_); refine box_event ?hg (N := 4) ?hd (cs := #[.int .u64 0, .int .u32 0, .string (⟨#[]⟩ : ByteArray), .int .i64 0]) (t := 27) ?hr ?_; (case hd => rfl); (case hg => rfl); (case hr => first | (go_simp; done) | (go_simp; rfl)); intro gb120 hg w17 hbox hb; have n0_ := Aside0.mk (below_step (by repeat (first | (with_reducible first | exact HB.out | apply below_alloc | apply pw_below_drewN | apply below_drew1) | exact HB.out)) hb); have n1_ := Aside0.mk (hbox); have n2_ := Aside0.mk ((by rw [hg]; exact (below_size (by repeat (first | (with_reducible first | exact HB.out | apply below_alloc | apply pw_below_drewN | apply below_drew1) | exact HB.out))) : w.heap.size ≤ gb120)); have n3_ := Aside0.mk ((by rw [hg]; exact (below_size (by repeat (first | (with_reducible first | exact HB.out | apply below_alloc | apply pw_below_drewN | apply below_drew1) | exact HB.out))) : w.heap.size ≤ gb120)); clear HB; have HB := n0_; have BK120 := n1_; have GW120 := n2_; have GE120 := n3_; clear n0_ n1_ n2_ n3_; clear hb hbox hg; have hcz18_0 : w17.cell? ⟨gb120, 0, none⟩ = some (.int .u64 0) := (blk_cell BK120.out 0).trans rfl; have hcz18_1 : w17.cell? ⟨gb120, 1, none⟩ = some (.int .u32 0) := (blk_cell BK120.out 1).trans rfl; have hcz18_2 : w17.cell? ⟨gb120, 2, none⟩ = some (.string (⟨#[]⟩ : ByteArray)) := (blk_cell BK120.out 2).trans rfl; have hcz18_3 : w17.cell? ⟨gb120, 3, none⟩ = some (.int .i64 0) := (blk_cell BK120.out 3).trans rfl; have hfz18_0 := blk_frozen BK120.out 0; have hfz18_1 := blk_frozen BK120.out 1; have hfz18_2 := blk_frozen BK120.out 2; have hfz18_3 := blk_frozen BK120.out 3)))
              go_ret
              exact ⟨by first | rfl | (simp [errW_none, errW_some] <;> rfl) | (simp [*, errW_none, errW_some] <;> rfl), by repeat (first | (with_reducible first | exact HB.out | apply below_alloc | apply pw_below_drewN | apply below_drew1 | refine below_set ?_ GE120.out) | exact HB.out)⟩
          · rw [if_neg c4] at H
            exact absurd H (by simp)
        · rw [if_neg c3] at H
          exact absurd H (by simp)
      · rw [if_neg c2] at H
        have c2b0 : decide (x7_1 < (l0.length : Int)) = false := decide_eq_false c2
        clear c2
        obtain rfl := Option.some.inj H
        go_wp2
        repeat (go_quiet (fail); try go_wp2)
        go_ret
        exact ⟨by first | rfl | (simp [errW_none, errW_some] <;> rfl) | (simp [*, errW_none, errW_some] <;> rfl), by repeat (first | (with_reducible first | exact HB.out | apply below_alloc | apply pw_below_drewN | apply below_drew1) | exact HB.out)⟩

/-! ### audit_Failed: function 14 -/
def audit_Failed.l0 : Nat → Int → List (S27) → Int → Int → Option (Int)
  | 0, _, _, _, _ => none
  | k + 1, x3, x6, x7, x8 => if x8 < x7 then (if 0 ≤ x8 then (if x8 < (x6.length : Int) then (if ((rd_T27 x6 x8).f3) = 0 then (audit_Failed.l0 k x3 x6 x7 (wrap64 (x8 + 1))) else (audit_Failed.l0 k (wrap64 (x3 + 1)) x6 x7 (wrap64 (x8 + 1)))) else (none)) else (none)) else (some x3)
def audit_Failed.f (k : Nat) (l0 : List (S27)) : Option (Int) := audit_Failed.l0 k 0 l0 (l0.length : Int) 0
theorem audit_Failed.mono_l : ∀ k, (∀ y0 y1 y2 y3, LeO (audit_Failed.l0 k y0 y1 y2 y3) (audit_Failed.l0 (k + 1) y0 y1 y2 y3))
  | 0 => fun _ _ _ _ r h => by simp [audit_Failed.l0] at h
  | k + 1 => by
    have ih0 := audit_Failed.mono_l k
    · intro y0 y1 y2 y3
      unfold audit_Failed.l0
      repeat' first
      | (with_reducible exact ih0 _ _ _ _)
      | (with_reducible exact LeO.refl _)
      | (with_reducible exact LeO.none _)
      | (with_reducible refine LeO.ite ?_ ?_)
      | (with_reducible refine LeO.bind ?_ (fun _ => ?_))
      | exact ih0 _ _ _ _
      | exact LeO.none _
      | refine LeO.ite ?_ ?_
      | refine LeO.bind ?_ (fun _ => ?_)
theorem audit_Failed.mono : ∀ a0 k, LeO (audit_Failed.f k a0) (audit_Failed.f (k + 1) a0) := by
  intro a0 k
  have ih0 := audit_Failed.mono_l k
  unfold audit_Failed.f
  repeat' first
      | (with_reducible exact ih0 _ _ _ _)
      | (with_reducible exact LeO.refl _)
      | (with_reducible exact LeO.none _)
      | (with_reducible refine LeO.ite ?_ ?_)
      | (with_reducible refine LeO.bind ?_ (fun _ => ?_))
      | exact ih0 _ _ _ _
      | exact LeO.none _
      | refine LeO.ite ?_ ?_
      | refine LeO.bind ?_ (fun _ => ?_)
set_option maxHeartbeats 8000000 in
set_option maxRecDepth 100000 in
theorem audit_Failed.calls (k : Nat) (A0 : Option Addr) (c0 : Nat) (l0 : List (S27)) (r : Int) (w : World) (hr0 : Kd.C k27 w A0 l0.length l0) (hc0 : l0.length ≤ c0) (h : audit_Failed.f k l0 = some r) :
    Calls Tryd.prog 14 #[.slice A0 l0.length c0] w fun e w' => e = .returned (.int .i64 r) ∧ Below w.heap.size w w' := by
  have hu27 := Tryd.underlying27
  have HR0 := Aside0.mk hr0
  have HC0 := Aside0.mk hc0
  clear hr0 hc0
  have HB := Aside0.mk (Below.refl w.heap.size w)
  have H : (audit_Failed.l0 k 0 l0 (l0.length : Int) 0) = some r := h
  clear h
  have H' := Aside0.mk H
  clear H
  go_enter Tryd.func14, Tryd.ntmps14
  go_wp2
  go_loopg [3, 8] k (fun kq v3 v8 w' => ∃ (x3_1 : Int) (x8_1 : Int), v3 = .int .i64 x3_1 ∧ v8 = .int .i64 x8_1 ∧ Aside0 (audit_Failed.l0 kq x3_1 l0 (l0.length : Int) x8_1 = some r) ∧ Aside0 (kq ≤ k) ∧ Aside0 (Below w.heap.size w w'))
  case atStart => exact ⟨(0), (0), (by first | rfl | (simp; done) | (simp [*]; done)), (by first | rfl | (simp; done) | (simp [*]; done)), H', ⟨Nat.le_refl _⟩, ⟨by repeat (first | (with_reducible first | exact HB.out | apply below_alloc | apply pw_below_drewN | apply below_drew1) | exact HB.out)⟩⟩
  case round =>
    clear H'
    try clear c1
    obtain ⟨x3_1, x8_1, rfl, rfl, HA, HK1, HB⟩ := hrel
    cases gk with
    | zero => exact absurd HA.out (by simp [audit_Failed.l0])
    | succ k1 =>
      have H := HA.out
      clear HA
      simp only [audit_Failed.l0] at H
      by_cases c2 : x8_1 < (l0.length : Int)
      · rw [if_pos c2] at H
        have c2b0 : decide (x8_1 < (l0.length : Int)) = true := decide_eq_true c2
        clear c2
        by_cases c3 : 0 ≤ x8_1
        · rw [if_pos c3] at H
          have c3b0 : decide (0 ≤ x8_1) = true := decide_eq_true c3
          clear c3
          by_cases c4 : x8_1 < (l0.length : Int)
          · rw [if_pos c4] at H
            have c4b0 : decide (x8_1 < (l0.length : Int)) = true := decide_eq_true c4
            clear c4
            by_cases c5 : ((rd_T27 l0 x8_1).f3) = 0
            · rw [if_pos c5] at H
              have c5b0 : (((rd_T27 l0 x8_1).f3) == 0) = true := beq_iff_eq.mpr c5
              have c5b1 : (((rd_T27 l0 x8_1).f3) != 0) = false := bne_eq_false_iff_eq.mpr c5
              clear c5
              have H' := Aside0.mk H
              clear H
              have p122 : 0 ≤ (x8_1 : Int) := of_decide_eq_true (by first | (with_reducible assumption) | assumption)
              have q122 : x8_1 < (l0.length : Int) := of_decide_eq_true (by first | (with_reducible assumption) | assumption)
              obtain ⟨ad122, e122, hx122_0, hx122_1, hx122_2, hx122_3⟩ := at_T27 HR0.out x8_1 p122 q122
              cases e122
              replace hx122_0 := (HB.out.cell (World.block_lt_of_cell? w _ hx122_0)).trans hx122_0
              replace hx122_1 := (HB.out.cell (World.block_lt_of_cell? w _ hx122_1)).trans hx122_1
              replace hx122_2 := (HB.out.cell (World.block_lt_of_cell? w _ hx122_2)).trans hx122_2
              replace hx122_3 := (HB.out.cell (World.block_lt_of_cell? w _ hx122_3)).trans hx122_3
              replace p122 := eq_true p122
              replace q122 := eq_true q122
              go_wp2_with (first | ((with_reducible refine gate_dst (N := 5) rfl ?_); refine box_event ?hg (N := 5) ?hd (cs := #[.int .u64 0, .int .u32 0, .string (⟨#[]⟩ : ByteArray), .int .i64 0]) (t := 27) ?hr ?_; (case hd => rfl); (case hg => rfl); (case hr => first | (go_simp; done) | (go_simp; rfl)); intro gb123 hg w6 hbox hb; have n0_ := Aside0.mk (below_step (by repeat (first | (with_reducible first | exact HB.out | apply below_alloc | apply pw_below_drewN | apply below_drew1) | exact HB.out)) hb); have n1_ := Aside0.mk (hbox); have n2_ := Aside0.mk ((by rw [hg]; exact (below_size (by repeat (first | (with_reducible first | exact HB.out | apply below_alloc | apply pw_below_drewN | apply below_drew1) | exact HB.out))) : w.heap.size ≤ gb123)); have n3_ := Aside0.mk ((by rw [hg]; exact (below_size (by repeat (first | (with_reducible first | exact HB.out | apply below_alloc | apply pw_below_drewN | apply below_drew1) | exact HB.out))) : w.heap.size ≤ gb123)); clear HB; have HB := n0_; have BK123 := n1_; have GW123 := n2_; have GE123 := n3_; clear n0_ n1_ n2_ n3_; clear hb hbox hg; have hcz7_0 : w6.cell? ⟨gb123, 0, none⟩ = some (.int .u64 0) := (blk_cell BK123.out 0).trans rfl; have hcz7_1 : w6.cell? ⟨gb123, 1, none⟩ = some (.int .u32 0) := (blk_cell BK123.out 1).trans rfl; have hcz7_2 : w6.cell? ⟨gb123, 2, none⟩ = some (.string (⟨#[]⟩ : ByteArray)) := (blk_cell BK123.out 2).trans rfl; have hcz7_3 : w6.cell? ⟨gb123, 3, none⟩ = some (.int .i64 0) := (blk_cell BK123.out 3).trans rfl; have hfz7_0 := blk_frozen BK123.out 0; have hfz7_1 := blk_frozen BK123.out 1; have hfz7_2 := blk_frozen BK123.out 2; have hfz7_3 := blk_frozen BK123.out 3))
              go_roundg k1
              case measure => have := HK1.out; omega
              case rel => exact ⟨(x3_1), (wrap64 (x8_1 + 1)), (by first | rfl | (simp; done) | (simp [*]; done)), (by first | rfl | (simp; done) | (simp [*]; done)), H', ⟨by have := HK1.out; omega⟩, ⟨by repeat (first | (with_reducible first | exact HB.out | apply below_alloc | apply pw_below_drewN | apply below_drew1 | refine below_set ?_ GE123.out) | exact HB.out)⟩⟩
            · rw [if_neg c5] at H
              have c5b0 : (((rd_T27 l0 x8_1).f3) == 0) = false := beq_eq_false_iff_ne.mpr c5
              have c5b1 : (((rd_T27 l0 x8_1).f3) != 0) = true := bne_iff_ne.mpr c5
              have H' := Aside0.mk H
              clear H
              have p122 : 0 ≤ (x8_1 : Int) := of_decide_eq_true (by first | (with_reducible assumption) | assumption)
              have q122 : x8_1 < (l0.length : Int) := of_decide_eq_true (by first | (with_reducible assumption) | assumption)
              obtain ⟨ad122, e122, hx122_0, hx122_1, hx122_2, hx122_3⟩ := at_T27 HR0.out x8_1 p122 q122
              cases e122
              replace hx122_0 := (HB.out.cell (World.block_lt_of_cell? w _ hx122_0)).trans hx122_0
              replace hx122_1 := (HB.out.cell (World.block_lt_of_cell? w _ hx122_1)).trans hx122_1
              replace hx122_2 := (HB.out.cell (World.block_lt_of_cell? w _ hx122_2)).trans hx122_2
              replace hx122_3 := (HB.out.cell (World.block_lt_of_cell? w _ hx122_3)).trans hx122_3
              replace p122 := eq_true p122
              replace q122 := eq_true q122
              go_wp2_with (first | ((with_reducible refine gate_dst (N := 5) rfl ?_); refine box_event ?hg (N := 5) ?hd (cs := #[.int .u64 0, .int .u32 0, .string (⟨#[]⟩ : ByteArray), .int .i64 0]) (t := 27) ?hr ?_; (case hd => rfl); (case hg => rfl); (case hr => first | (go_simp; done) | (go_simp; rfl)); intro gb123 hg w8 hbox hb; have n0_ := Aside0.mk (below_step (by repeat (first | (with_reducible first | exact HB.out | apply below_alloc | apply pw_below_drewN | apply below_drew1) | exact HB.out)) hb); have n1_ := Aside0.mk (hbox); have n2_ := Aside0.mk ((by rw [hg]; exact (below_size (by repeat (first | (with_reducible first | exact HB.out | apply below_alloc | apply pw_below_drewN | apply below_drew1) | exact HB.out))) : w.heap.size ≤ gb123)); have n3_ := Aside0.mk ((by rw [hg]; exact (below_size (by repeat (first | (with_reducible first | exact HB.out | apply below_alloc | apply pw_below_drewN | apply below_drew1) | exact HB.out))) : w.heap.size ≤ gb123)); clear HB; have HB := n0_; have BK123 := n1_; have GW123 := n2_; have GE123 := n3_; clear n0_ n1_ n2_ n3_; clear hb hbox hg; have hcz9_0 : w8.cell? ⟨gb123, 0, none⟩ = some (.int .u64 0) := (blk_cell BK123.out 0).trans rfl; have hcz9_1 : w8.cell? ⟨gb123, 1, none⟩ = some (.int .u32 0) := (blk_cell BK123.out 1).trans rfl; have hcz9_2 : w8.cell? ⟨gb123, 2, none⟩ = some (.string (⟨#[]⟩ : ByteArray)) := (blk_cell BK123.out 2).trans rfl; have hcz9_3 : w8.cell? ⟨gb123, 3, none⟩ = some (.int .i64 0) := (blk_cell BK123.out 3).trans rfl; have hfz9_0 := blk_frozen BK123.out 0; have hfz9_1 := blk_frozen BK123.out 1; have hfz9_2 := blk_frozen BK123.out 2; have hfz9_3 := blk_frozen BK123.out 3))
              go_roundg k1
              case measure => have := HK1.out; omega
              case rel => exact ⟨(wrap64 (x3_1 + 1)), (wrap64 (x8_1 + 1)), (by first | rfl | (simp; done) | (simp [*]; done)), (by first | rfl | (simp; done) | (simp [*]; done)), H', ⟨by have := HK1.out; omega⟩, ⟨by repeat (first | (with_reducible first | exact HB.out | apply below_alloc | apply pw_below_drewN | apply below_drew1 | refine below_set ?_ GE123.out) | exact HB.out)⟩⟩
          · rw [if_neg c4] at H
            exact absurd H (by simp)
        · rw [if_neg c3] at H
          exact absurd H (by simp)
      · rw [if_neg c2] at H
        have c2b0 : decide (x8_1 < (l0.length : Int)) = false := decide_eq_false c2
        clear c2
        obtain rfl := Option.some.inj H
        go_wp2
        go_ret
        exact ⟨by first | rfl | (simp [errW_none, errW_some] <;> rfl) | (simp [*, errW_none, errW_some] <;> rfl), by repeat (first | (with_reducible first | exact HB.out | apply below_alloc | apply pw_below_drewN | apply below_drew1) | exact HB.out)⟩

-- NOT PRINTED: function 54 (abi_NoEscape)

-- NOT PRINTED: function 43 (strings_Builder_copyCheck)

-- NOT PRINTED: function 25 (strings_Builder_WriteString)

-- NOT PRINTED: function 26 (strings_Builder_String)

-- NOT PRINTED: function 65 (strconv_numDigits)

-- NOT PRINTED: function 66 (strconv_formatBase10)

-- NOT PRINTED: function 88 (bits_TrailingZeros32)

-- NOT PRINTED: function 89 (bits_TrailingZeros64)

-- NOT PRINTED: function 81 (bits_TrailingZeros)

-- NOT PRINTED: function 67 (strconv_formatBits)

-- NOT PRINTED: function 52 (strconv_FormatUint_52)

-- NOT PRINTED: function 36 (strconv_FormatUint_36)

-- NOT PRINTED: function 68 (strconv_FormatInt)

-- NOT PRINTED: function 53 (strconv_Itoa_53)

-- NOT PRINTED: function 37 (strconv_Itoa_37)

/-! ### audit_plain: function 38 -/
def audit_plain.f (a0 : Int) : Option (Bool) := if a0 ≥ 32 then (if a0 ≤ 126 then (if a0 = 34 then (some false) else (some (a0 != 37))) else (some false)) else (some false)
set_option maxHeartbeats 8000000 in
set_option maxRecDepth 100000 in
theorem audit_plain.calls (a0 : Int) (r : Bool) (w : World) (h : audit_plain.f a0 = some r) :
    Calls Tryd.prog 38 #[.int .u8 a0] w fun e w' => e = .returned (.bool r) ∧ Drawn0 w w' := by
  have H : (if a0 ≥ 32 then (if a0 ≤ 126 then (if a0 = 34 then (some false) else (some (a0 != 37))) else (some false)) else (some false)) = some r := h
  clear h
  by_cases c2 : a0 ≥ 32
  · rw [if_pos c2] at H
    have c2b0 : decide (32 ≤ a0) = true := decide_eq_true c2
    clear c2
    by_cases c3 : a0 ≤ 126
    · rw [if_pos c3] at H
      have c3b0 : decide (a0 ≤ 126) = true := decide_eq_true c3
      clear c3
      by_cases c4 : a0 = 34
      · rw [if_pos c4] at H
        have c4b0 : (a0 == 34) = true := beq_iff_eq.mpr c4
        have c4b1 : (a0 != 34) = false := bne_eq_false_iff_eq.mpr c4
        clear c4
        obtain rfl := Option.some.inj H
        go_enter Tryd.func38, Tryd.ntmps38
        go_wp2
        go_ret
        exact ⟨by first | rfl | (simp; done) | (simp [*]; done), by repeat (first | exact Drawn0.refl _ | apply Drawn0.step)⟩
      · rw [if_neg c4] at H
        have c4b0 : (a0 == 34) = false := beq_eq_false_iff_ne.mpr c4
        have c4b1 : (a0 != 34) = true := bne_iff_ne.mpr c4
        obtain rfl := Option.some.inj H
        go_enter Tryd.func38, Tryd.ntmps38
        go_wp2
        go_ret
        exact ⟨by first | rfl | (simp; done) | (simp [*]; done), by repeat (first | exact Drawn0.refl _ | apply Drawn0.step)⟩
    · rw [if_neg c3] at H
      have c3b0 : decide (a0 ≤ 126) = false := decide_eq_false c3
      clear c3
      obtain rfl := Option.some.inj H
      go_enter Tryd.func38, Tryd.ntmps38
      go_wp2
      go_ret
      exact ⟨by first | rfl | (simp; done) | (simp [*]; done), by repeat (first | exact Drawn0.refl _ | apply Drawn0.step)⟩
  · rw [if_neg c2] at H
    have c2b0 : decide (32 ≤ a0) = false := decide_eq_false c2
    clear c2
    obtain rfl := Option.some.inj H
    go_enter Tryd.func38, Tryd.ntmps38
    go_wp2
    go_ret
    exact ⟨by first | rfl | (simp; done) | (simp [*]; done), by repeat (first | exact Drawn0.refl _ | apply Drawn0.step)⟩

-- NOT PRINTED: function 39 (strings_Builder_WriteByte)

-- NOT PRINTED: function 21 (audit_Line)

-- NOT PRINTED: function 16 (audit_Text)

-- NOT PRINTED: function 10 (congresslaw20_fixed)

/-! ### congressref20_Same: function 11 -/
def congressref20_Same.l0 : Nat → List (S27) → List (S27) → Int → Option (Bool)
  | 0, _, _, _ => none
  | k + 1, x0, x1, x5 => if x5 < (x0.length : Int) then (if 0 ≤ x5 then (if x5 < (x1.length : Int) then (if (!(((rd_T27 x0 x5).f0) == ((rd_T27 x1 x5).f0)) || (!(((rd_T27 x0 x5).f1) == ((rd_T27 x1 x5).f1)) || (!((((rd_T27 x0 x5).f2).toList) == (((rd_T27 x1 x5).f2).toList)) || (!(((rd_T27 x0 x5).f3) == ((rd_T27 x1 x5).f3)))))) = true then (some false) else (congressref20_Same.l0 k x0 x1 (wrap64 (x5 + 1)))) else (none)) else (none)) else (some true)
def congressref20_Same.f (k : Nat) (l0 : List (S27)) (l1 : List (S27)) : Option (Bool) := if (l0.length : Int) = (l1.length : Int) then (congressref20_Same.l0 k l0 l1 0) else (some false)
theorem congressref20_Same.mono_l : ∀ k, (∀ y0 y1 y2, LeO (congressref20_Same.l0 k y0 y1 y2) (congressref20_Same.l0 (k + 1) y0 y1 y2))
  | 0 => fun _ _ _ r h => by simp [congressref20_Same.l0] at h
  | k + 1 => by
    have ih0 := congressref20_Same.mono_l k
    · intro y0 y1 y2
      unfold congressref20_Same.l0
      repeat' first
      | (with_reducible exact ih0 _ _ _)
      | (with_reducible exact LeO.refl _)
      | (with_reducible exact LeO.none _)
      | (with_reducible refine LeO.ite ?_ ?_)
      | (with_reducible refine LeO.bind ?_ (fun _ => ?_))
      | exact ih0 _ _ _
      | exact LeO.none _
      | refine LeO.ite ?_ ?_
      | refine LeO.bind ?_ (fun _ => ?_)
theorem congressref20_Same.mono : ∀ a0 a1 k, LeO (congressref20_Same.f k a0 a1) (congressref20_Same.f (k + 1) a0 a1) := by
  intro a0 a1 k
  have ih0 := congressref20_Same.mono_l k
  unfold congressref20_Same.f
  repeat' first
      | (with_reducible exact ih0 _ _ _)
      | (with_reducible exact LeO.refl _)
      | (with_reducible exact LeO.none _)
      | (with_reducible refine LeO.ite ?_ ?_)
      | (with_reducible refine LeO.bind ?_ (fun _ => ?_))
      | exact ih0 _ _ _
      | exact LeO.none _
      | refine LeO.ite ?_ ?_
      | refine LeO.bind ?_ (fun _ => ?_)
set_option maxHeartbeats 8000000 in
set_option maxRecDepth 100000 in
theorem congressref20_Same.calls (k : Nat) (A0 : Option Addr) (c0 : Nat) (l0 : List (S27)) (A1 : Option Addr) (c1 : Nat) (l1 : List (S27)) (r : Bool) (w : World) (hr0 : Kd.C k27 w A0 l0.length l0) (hc0 : l0.length ≤ c0) (hr1 : Kd.C k27 w A1 l1.length l1) (hc1 : l1.length ≤ c1) (h : congressref20_Same.f k l0 l1 = some r) :
    Calls Tryd.prog 11 #[.slice A0 l0.length c0, .slice A1 l1.length c1] w fun e w' => e = .returned (.bool r) ∧ Drawn0 w w' := by
  have hu27 := Tryd.underlying27
  have HR0 := Aside0.mk hr0
  have HC0 := Aside0.mk hc0
  clear hr0 hc0
  have HR1 := Aside0.mk hr1
  have HC1 := Aside0.mk hc1
  clear hr1 hc1
  have H : (if (l0.length : Int) = (l1.length : Int) then (congressref20_Same.l0 k l0 l1 0) else (some false)) = some r := h
  clear h
  by_cases c3 : (l0.length : Int) = (l1.length : Int)
  · rw [if_pos c3] at H
    have c3b0 : ((l0.length : Int) == (l1.length : Int)) = true := beq_iff_eq.mpr c3
    have c3b1 : ((l0.length : Int) != (l1.length : Int)) = false := bne_eq_false_iff_eq.mpr c3
    have c3b2 : (l0.length == l1.length) = true := by first | simpa using c3 | (simp at c3 ⊢; omega)
    clear c3
    have H' := Aside0.mk H
    clear H
    go_enter Tryd.func11, Tryd.ntmps11
    go_wp2
    repeat (go_quiet (fail); try go_wp2)
    go_loopg [5] k (fun kq v5 w' => ∃ (x5_1 : Int), v5 = .int .i64 x5_1 ∧ Aside0 (congressref20_Same.l0 kq l0 l1 x5_1 = some r) ∧ Aside0 (kq ≤ k) ∧ Drawn0 w w')
    case atStart => exact ⟨(0), (by first | rfl | (simp; done) | (simp [*]; done)), H', ⟨Nat.le_refl _⟩, by repeat (first | exact Drawn0.refl _ | apply Drawn0.step)⟩
    case round =>
      clear H'
      try clear c1
      try clear p2
      try clear c3
      try clear c3b0
      try clear c3b1
      try clear c3b2
      obtain ⟨x5_1, rfl, HA, HK1, ⟨m1, rfl⟩⟩ := hrel
      cases gk with
      | zero => exact absurd HA.out (by simp [congressref20_Same.l0])
      | succ k1 =>
        have H := HA.out
        clear HA
        simp only [congressref20_Same.l0] at H
        by_cases c4 : x5_1 < (l0.length : Int)
        · rw [if_pos c4] at H
          have c4b0 : decide (x5_1 < (l0.length : Int)) = true := decide_eq_true c4
          clear c4
          by_cases c5 : 0 ≤ x5_1
          · rw [if_pos c5] at H
            have c5b0 : decide (0 ≤ x5_1) = true := decide_eq_true c5
            clear c5
            by_cases c6 : x5_1 < (l1.length : Int)
            · rw [if_pos c6] at H
              have c6b0 : decide (x5_1 < (l1.length : Int)) = true := decide_eq_true c6
              clear c6
              by_cases c7 : (!(((rd_T27 l0 x5_1).f0) == ((rd_T27 l1 x5_1).f0)) || (!(((rd_T27 l0 x5_1).f1) == ((rd_T27 l1 x5_1).f1)) || (!((((rd_T27 l0 x5_1).f2).toList) == (((rd_T27 l1 x5_1).f2).toList)) || (!(((rd_T27 l0 x5_1).f3) == ((rd_T27 l1 x5_1).f3)))))) = true
              · rw [if_pos c7] at H
                have c7b0 : (!(((rd_T27 l0 x5_1).f0) == ((rd_T27 l1 x5_1).f0)) || (!(((rd_T27 l0 x5_1).f1) == ((rd_T27 l1 x5_1).f1)) || (!((((rd_T27 l0 x5_1).f2).toList) == (((rd_T27 l1 x5_1).f2).toList)) || (!(((rd_T27 l0 x5_1).f3) == ((rd_T27 l1 x5_1).f3)))))) = true := c7
                clear c7
                obtain rfl := Option.some.inj H
                have p141 : 0 ≤ (x5_1 : Int) := of_decide_eq_true (by first | (with_reducible assumption) | assumption)
                have q141 : x5_1 < (l0.length : Int) := of_decide_eq_true (by first | (with_reducible assumption) | assumption)
                obtain ⟨ad141, e141, hx141_0, hx141_1, hx141_2, hx141_3⟩ := at_T27 HR0.out x5_1 p141 q141
                cases e141
                replace p141 := eq_true p141
                replace q141 := eq_true q141
                have p142 : 0 ≤ (x5_1 : Int) := of_decide_eq_true (by first | (with_reducible assumption) | assumption)
                have q142 : x5_1 < (l1.length : Int) := of_decide_eq_true (by first | (with_reducible assumption) | assumption)
                obtain ⟨ad142, e142, hx142_0, hx142_1, hx142_2, hx142_3⟩ := at_T27 HR1.out x5_1 p142 q142
                cases e142
                replace p142 := eq_true p142
                replace q142 := eq_true q142
                go_wp2
                repeat (go_quiet (fail); try go_wp2)
                go_ret
                exact ⟨by first | rfl | (simp; done) | (simp [*]; done), by repeat (first | exact Drawn0.refl _ | apply Drawn0.step)⟩
              · rw [if_neg c7] at H
                have c7b0 : (!(((rd_T27 l0 x5_1).f0) == ((rd_T27 l1 x5_1).f0)) || (!(((rd_T27 l0 x5_1).f1) == ((rd_T27 l1 x5_1).f1)) || (!((((rd_T27 l0 x5_1).f2).toList) == (((rd_T27 l1 x5_1).f2).toList)) || (!(((rd_T27 l0 x5_1).f3) == ((rd_T27 l1 x5_1).f3)))))) = false := by simpa using c7
                clear c7
                have H' := Aside0.mk H
                clear H
                have p141 : 0 ≤ (x5_1 : Int) := of_decide_eq_true (by first | (with_reducible assumption) | assumption)
                have q141 : x5_1 < (l0.length : Int) := of_decide_eq_true (by first | (with_reducible assumption) | assumption)
                obtain ⟨ad141, e141, hx141_0, hx141_1, hx141_2, hx141_3⟩ := at_T27 HR0.out x5_1 p141 q141
                cases e141
                replace p141 := eq_true p141
                replace q141 := eq_true q141
                have p142 : 0 ≤ (x5_1 : Int) := of_decide_eq_true (by first | (with_reducible assumption) | assumption)
                have q142 : x5_1 < (l1.length : Int) := of_decide_eq_true (by first | (with_reducible assumption) | assumption)
                obtain ⟨ad142, e142, hx142_0, hx142_1, hx142_2, hx142_3⟩ := at_T27 HR1.out x5_1 p142 q142
                cases e142
                replace p142 := eq_true p142
                replace q142 := eq_true q142
                go_wp2
                repeat (go_quiet (fail); try go_wp2)
                go_roundg k1
                case measure => have := HK1.out; omega
                case rel => exact ⟨(wrap64 (x5_1 + 1)), (by first | rfl | (simp; done) | (simp [*]; done)), H', ⟨by have := HK1.out; omega⟩, by repeat (first | exact Drawn0.refl _ | apply Drawn0.step)⟩
            · rw [if_neg c6] at H
              exact absurd H (by simp)
          · rw [if_neg c5] at H
            exact absurd H (by simp)
        · rw [if_neg c4] at H
          have c4b0 : decide (x5_1 < (l0.length : Int)) = false := decide_eq_false c4
          clear c4
          obtain rfl := Option.some.inj H
          go_wp2
          repeat (go_quiet (fail); try go_wp2)
          go_ret
          exact ⟨by first | rfl | (simp; done) | (simp [*]; done), by repeat (first | exact Drawn0.refl _ | apply Drawn0.step)⟩
  · rw [if_neg c3] at H
    have c3b0 : ((l0.length : Int) == (l1.length : Int)) = false := beq_eq_false_iff_ne.mpr c3
    have c3b1 : ((l0.length : Int) != (l1.length : Int)) = true := bne_iff_ne.mpr c3
    have c3b2 : (l0.length == l1.length) = false := by first | simpa using c3 | (simp at c3 ⊢; omega)
    obtain rfl := Option.some.inj H
    go_enter Tryd.func11, Tryd.ntmps11
    go_wp2
    repeat (go_quiet (fail); try go_wp2)
    go_ret
    exact ⟨by first | rfl | (simp; done) | (simp [*]; done), by repeat (first | exact Drawn0.refl _ | apply Drawn0.step)⟩

/-! ### congressref20_Check: function 13 -/
def congressref20_Check.l0 : Nat → List (S27) → Int → Option (Bool)
  | 0, _, _ => none
  | k + 1, x0, x3 => if x3 < (x0.length : Int) then (if 0 ≤ x3 then (if ((rd_T27 x0 x3).f0) = (IntKind.u64.wrap (wrap64 (x3 + 1))) then (if x3 > 0 then (if 0 ≤ (wrap64 (x3 - 1)) then (if (wrap64 (x3 - 1)) < (x0.length : Int) then (if ((rd_T27 x0 x3).f1) < ((rd_T27 x0 (wrap64 (x3 - 1))).f1) then (some false) else (congressref20_Check.l0 k x0 (wrap64 (x3 + 1)))) else (none)) else (none)) else (congressref20_Check.l0 k x0 (wrap64 (x3 + 1)))) else (some false)) else (none)) else (some true)
def congressref20_Check.f (k : Nat) (l0 : List (S27)) : Option (Bool) := congressref20_Check.l0 k l0 0
theorem congressref20_Check.mono_l : ∀ k, (∀ y0 y1, LeO (congressref20_Check.l0 k y0 y1) (congressref20_Check.l0 (k + 1) y0 y1))
  | 0 => fun _ _ r h => by simp [congressref20_Check.l0] at h
  | k + 1 => by
    have ih0 := congressref20_Check.mono_l k
    · intro y0 y1
      unfold congressref20_Check.l0
      repeat' first
      | (with_reducible exact ih0 _ _)
      | (with_reducible exact LeO.refl _)
      | (with_reducible exact LeO.none _)
      | (with_reducible refine LeO.ite ?_ ?_)
      | (with_reducible refine LeO.bind ?_ (fun _ => ?_))
      | exact ih0 _ _
      | exact LeO.none _
      | refine LeO.ite ?_ ?_
      | refine LeO.bind ?_ (fun _ => ?_)
theorem congressref20_Check.mono : ∀ a0 k, LeO (congressref20_Check.f k a0) (congressref20_Check.f (k + 1) a0) := by
  intro a0 k
  have ih0 := congressref20_Check.mono_l k
  unfold congressref20_Check.f
  repeat' first
      | (with_reducible exact ih0 _ _)
      | (with_reducible exact LeO.refl _)
      | (with_reducible exact LeO.none _)
      | (with_reducible refine LeO.ite ?_ ?_)
      | (with_reducible refine LeO.bind ?_ (fun _ => ?_))
      | exact ih0 _ _
      | exact LeO.none _
      | refine LeO.ite ?_ ?_
      | refine LeO.bind ?_ (fun _ => ?_)
set_option maxHeartbeats 8000000 in
set_option maxRecDepth 100000 in
theorem congressref20_Check.calls (k : Nat) (A0 : Option Addr) (c0 : Nat) (l0 : List (S27)) (r : Bool) (w : World) (hr0 : Kd.C k27 w A0 l0.length l0) (hc0 : l0.length ≤ c0) (h : congressref20_Check.f k l0 = some r) :
    Calls Tryd.prog 13 #[.slice A0 l0.length c0] w fun e w' => e = .returned (.bool r) ∧ Drawn0 w w' := by
  have HR0 := Aside0.mk hr0
  have HC0 := Aside0.mk hc0
  clear hr0 hc0
  have H : (congressref20_Check.l0 k l0 0) = some r := h
  clear h
  have H' := Aside0.mk H
  clear H
  go_enter Tryd.func13, Tryd.ntmps13
  go_wp2
  repeat (go_quiet (fail); try go_wp2)
  go_loopg [3] k (fun kq v3 w' => ∃ (x3_1 : Int), v3 = .int .i64 x3_1 ∧ Aside0 (congressref20_Check.l0 kq l0 x3_1 = some r) ∧ Aside0 (kq ≤ k) ∧ Drawn0 w w')
  case atStart => exact ⟨(0), (by first | rfl | (simp; done) | (simp [*]; done)), H', ⟨Nat.le_refl _⟩, by repeat (first | exact Drawn0.refl _ | apply Drawn0.step)⟩
  case round =>
    clear H'
    try clear c1
    obtain ⟨x3_1, rfl, HA, HK1, ⟨m1, rfl⟩⟩ := hrel
    cases gk with
    | zero => exact absurd HA.out (by simp [congressref20_Check.l0])
    | succ k1 =>
      have H := HA.out
      clear HA
      simp only [congressref20_Check.l0] at H
      by_cases c2 : x3_1 < (l0.length : Int)
      · rw [if_pos c2] at H
        have c2b0 : decide (x3_1 < (l0.length : Int)) = true := decide_eq_true c2
        clear c2
        by_cases c3 : 0 ≤ x3_1
        · rw [if_pos c3] at H
          have c3b0 : decide (0 ≤ x3_1) = true := decide_eq_true c3
          clear c3
          by_cases c4 : ((rd_T27 l0 x3_1).f0) = (IntKind.u64.wrap (wrap64 (x3_1 + 1)))
          · rw [if_pos c4] at H
            have c4b0 : (((rd_T27 l0 x3_1).f0) == (IntKind.u64.wrap (wrap64 (x3_1 + 1)))) = true := beq_iff_eq.mpr c4
            have c4b1 : (((rd_T27 l0 x3_1).f0) != (IntKind.u64.wrap (wrap64 (x3_1 + 1)))) = false := bne_eq_false_iff_eq.mpr c4
            clear c4
            by_cases c5 : x3_1 > 0
            · rw [if_pos c5] at H
              have c5b0 : decide (0 < x3_1) = true := decide_eq_true c5
              clear c5
              obtain ⟨ji6, hji6⟩ : ∃ j_ : Int, (wrap64 (x3_1 - 1)) = j_ := ⟨_, rfl⟩
              replace H : (if 0 ≤ (ji6) then (if (ji6) < (l0.length : Int) then (if ((rd_T27 l0 x3_1).f1) < ((rd_T27 l0 (ji6)).f1) then (some false) else (congressref20_Check.l0 k1 l0 (wrap64 (x3_1 + 1)))) else (none)) else (none)) = some r := by first | (rw [hji6] at H; exact H) | (simp only [hji6] at H ⊢; exact H)
              have hji6w : (IntKind.i64.wrap (x3_1 - 1)) = ji6 := (i64_w _).trans hji6
              by_cases c7 : 0 ≤ (ji6)
              · rw [if_pos c7] at H
                have c7b0 : decide (0 ≤ (ji6)) = true := decide_eq_true c7
                clear c7
                by_cases c8 : (ji6) < (l0.length : Int)
                · rw [if_pos c8] at H
                  have c8b0 : decide ((ji6) < (l0.length : Int)) = true := decide_eq_true c8
                  clear c8
                  by_cases c9 : ((rd_T27 l0 x3_1).f1) < ((rd_T27 l0 (ji6)).f1)
                  · rw [if_pos c9] at H
                    have c9b0 : decide (((rd_T27 l0 x3_1).f1) < ((rd_T27 l0 (ji6)).f1)) = true := decide_eq_true c9
                    clear c9
                    obtain rfl := Option.some.inj H
                    have p143 : 0 ≤ (x3_1 : Int) := of_decide_eq_true (by first | (with_reducible assumption) | assumption)
                    have q143 : x3_1 < (l0.length : Int) := of_decide_eq_true (by first | (with_reducible assumption) | assumption)
                    obtain ⟨ad143, e143, hx143_0, hx143_1, hx143_2, hx143_3⟩ := at_T27 HR0.out x3_1 p143 q143
                    cases e143
                    replace p143 := eq_true p143
                    replace q143 := eq_true q143
                    have p144 : 0 ≤ (x3_1 : Int) := of_decide_eq_true (by first | (with_reducible assumption) | assumption)
                    have q144 : x3_1 < (l0.length : Int) := of_decide_eq_true (by first | (with_reducible assumption) | assumption)
                    obtain ⟨ad144, e144, hx144_0, hx144_1, hx144_2, hx144_3⟩ := at_T27 HR0.out x3_1 p144 q144
                    obtain rfl : ad143 = ad144 := (by injection e144)
                    replace p144 := eq_true p144
                    replace q144 := eq_true q144
                    have p145 : 0 ≤ ((ji6) : Int) := of_decide_eq_true (by first | (with_reducible assumption) | assumption)
                    have q145 : (ji6) < (l0.length : Int) := of_decide_eq_true (by first | (with_reducible assumption) | assumption)
                    obtain ⟨ad145, e145, hx145_0, hx145_1, hx145_2, hx145_3⟩ := at_T27 HR0.out (ji6) p145 q145
                    obtain rfl : ad143 = ad145 := (by injection e145)
                    replace p145 := eq_true p145
                    replace q145 := eq_true q145
                    go_wp2
                    repeat (go_quiet (fail); try go_wp2)
                    go_ret
                    exact ⟨by first | rfl | (simp; done) | (simp only [← hji6] <;> (first | rfl | simp)) | (simp [*]; done), by repeat (first | exact Drawn0.refl _ | apply Drawn0.step)⟩
                  · rw [if_neg c9] at H
                    have c9b0 : decide (((rd_T27 l0 x3_1).f1) < ((rd_T27 l0 (ji6)).f1)) = false := decide_eq_false c9
                    clear c9
                    have H' := Aside0.mk H
                    clear H
                    have p143 : 0 ≤ (x3_1 : Int) := of_decide_eq_true (by first | (with_reducible assumption) | assumption)
                    have q143 : x3_1 < (l0.length : Int) := of_decide_eq_true (by first | (with_reducible assumption) | assumption)
                    obtain ⟨ad143, e143, hx143_0, hx143_1, hx143_2, hx143_3⟩ := at_T27 HR0.out x3_1 p143 q143
                    cases e143
                    replace p143 := eq_true p143
                    replace q143 := eq_true q143
                    have p144 : 0 ≤ (x3_1 : Int) := of_decide_eq_true (by first | (with_reducible assumption) | assumption)
                    have q144 : x3_1 < (l0.length : Int) := of_decide_eq_true (by first | (with_reducible assumption) | assumption)
                    obtain ⟨ad144, e144, hx144_0, hx144_1, hx144_2, hx144_3⟩ := at_T27 HR0.out x3_1 p144 q144
                    obtain rfl : ad143 = ad144 := (by injection e144)
                    replace p144 := eq_true p144
                    replace q144 := eq_true q144
                    have p145 : 0 ≤ ((ji6) : Int) := of_decide_eq_true (by first | (with_reducible assumption) | assumption)
                    have q145 : (ji6) < (l0.length : Int) := of_decide_eq_true (by first | (with_reducible assumption) | assumption)
                    obtain ⟨ad145, e145, hx145_0, hx145_1, hx145_2, hx145_3⟩ := at_T27 HR0.out (ji6) p145 q145
                    obtain rfl : ad143 = ad145 := (by injection e145)
                    replace p145 := eq_true p145
                    replace q145 := eq_true q145
                    go_wp2
                    repeat (go_quiet (fail); try go_wp2)
                    go_roundg k1
                    case measure => have := HK1.out; omega
                    case rel => exact ⟨(wrap64 (x3_1 + 1)), (by first | rfl | (simp; done) | (simp [*]; done)), H', ⟨by have := HK1.out; omega⟩, by repeat (first | exact Drawn0.refl _ | apply Drawn0.step)⟩
                · rw [if_neg c8] at H
                  exact absurd H (by simp)
              · rw [if_neg c7] at H
                exact absurd H (by simp)
            · rw [if_neg c5] at H
              have c5b0 : decide (0 < x3_1) = false := decide_eq_false c5
              clear c5
              have H' := Aside0.mk H
              clear H
              have p143 : 0 ≤ (x3_1 : Int) := of_decide_eq_true (by first | (with_reducible assumption) | assumption)
              have q143 : x3_1 < (l0.length : Int) := of_decide_eq_true (by first | (with_reducible assumption) | assumption)
              obtain ⟨ad143, e143, hx143_0, hx143_1, hx143_2, hx143_3⟩ := at_T27 HR0.out x3_1 p143 q143
              cases e143
              replace p143 := eq_true p143
              replace q143 := eq_true q143
              go_wp2
              repeat (go_quiet (fail); try go_wp2)
              go_roundg k1
              case measure => have := HK1.out; omega
              case rel => exact ⟨(wrap64 (x3_1 + 1)), (by first | rfl | (simp; done) | (simp [*]; done)), H', ⟨by have := HK1.out; omega⟩, by repeat (first | exact Drawn0.refl _ | apply Drawn0.step)⟩
          · rw [if_neg c4] at H
            have c4b0 : (((rd_T27 l0 x3_1).f0) == (IntKind.u64.wrap (wrap64 (x3_1 + 1)))) = false := beq_eq_false_iff_ne.mpr c4
            have c4b1 : (((rd_T27 l0 x3_1).f0) != (IntKind.u64.wrap (wrap64 (x3_1 + 1)))) = true := bne_iff_ne.mpr c4
            obtain rfl := Option.some.inj H
            have p143 : 0 ≤ (x3_1 : Int) := of_decide_eq_true (by first | (with_reducible assumption) | assumption)
            have q143 : x3_1 < (l0.length : Int) := of_decide_eq_true (by first | (with_reducible assumption) | assumption)
            obtain ⟨ad143, e143, hx143_0, hx143_1, hx143_2, hx143_3⟩ := at_T27 HR0.out x3_1 p143 q143
            cases e143
            replace p143 := eq_true p143
            replace q143 := eq_true q143
            go_wp2
            repeat (go_quiet (fail); try go_wp2)
            go_ret
            exact ⟨by first | rfl | (simp; done) | (simp [*]; done), by repeat (first | exact Drawn0.refl _ | apply Drawn0.step)⟩
        · rw [if_neg c3] at H
          exact absurd H (by simp)
      · rw [if_neg c2] at H
        have c2b0 : decide (x3_1 < (l0.length : Int)) = false := decide_eq_false c2
        clear c2
        obtain rfl := Option.some.inj H
        go_wp2
        repeat (go_quiet (fail); try go_wp2)
        go_ret
        exact ⟨by first | rfl | (simp; done) | (simp [*]; done), by repeat (first | exact Drawn0.refl _ | apply Drawn0.step)⟩
end Go.Proofs.YtoeioacgpildpaaDoor.P
