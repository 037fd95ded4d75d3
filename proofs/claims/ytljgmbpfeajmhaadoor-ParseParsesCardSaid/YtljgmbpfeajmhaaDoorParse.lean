/- Parse: the call that a text says, or none: what the parser panics with is caught. -/
import Derived.Test.YtljgmbpfeajmhaaDoorCall
import Derived.Defers
import Derived.Recover
set_option linter.unusedVariables false
set_option linter.unusedSimpArgs false
namespace Go.Proofs.YtljgmbpfeajmhaaDoor
open Go.Proofs Go.Shelf Go.RowKit Go.Proofs.YtljgmbpfeajmhaaDoorW.PrintWords Go.Proofs.YtljgmbpfeajmhaaDoorW.PrintLast

theorem catch_idle (p q : Addr) (w : World) :
    CallsD Tryd.prog 17 #[.pointer (some p), .pointer (some q)] .returning w fun e u' w' => e = .returned (.tuple #[]) ∧ u' = .returning ∧ w' = w := by
  refine callsD_of_wpS Tryd.func17 rfl fun c₀ cs hu => ?_
  apply wpS_seq
  apply wpS_region
  simp [wpOpsS, go_sem, recoverD, hu, Tryd.ntmps17, Exit.thenS]
  apply wpS_seq
  apply wpS_region
  simp [wpOpsS, go_sem, Exit.thenS]
  refine wpS_cond (t := false) (by simp [Act.eval, Array.replicate]) ?_
  simp only [Bool.false_eq_true, if_false]
  refine wpS_of_wp (wp_skip ?_)
  cases c₀
  simp_all [bodyPostS, results, Tryd.results17]
/-- The call's variable and the error's, as a function that panicked leaves them. -/
theorem below_set' {n : Nat} {w w' : World} (h : Below n w w') {C : Nat} (hC : n ≤ C) (i : Nat) (v : Value) : Below n w (w'.setCell ⟨C, i, none⟩ v) := h.setCell hC v
set_option maxRecDepth 100000 in
set_option maxHeartbeats 2000000 in
theorem catch_panicking (R1 R2 n : Nat) (w : World) (h1 : w.heap[R1]? = some (.cells #[.int .i64 0, .int .u64 0, .int .u64 0, .int .i64 0, .int .i64 0, .int .i64 0, .string ⟨#[]⟩] 24 (0, 0))) (h2 : w.heap[R2]? = some (.cells #[.int .i64 0] 25 (0, 0))) (h12 : R1 ≠ R2) (hn1 : n ≤ R1) (hn2 : n ≤ R2) :
    CallsD Tryd.prog 17 #[.pointer (some ⟨R1, 0, none⟩), .pointer (some ⟨R2, 0, none⟩)] (.panicking [{ v := .iface 39 (.agg #[]), recovered := false }]) w fun e u' w' =>
      e = .returned (.tuple #[]) ∧ u' = .panicking [{ v := .iface 39 (.agg #[]), recovered := true }] ∧ w'.heap[R1]? = some (.cells #[.int .i64 0, .int .u64 0, .int .u64 0, .int .i64 0, .int .i64 0, .int .i64 0, .string ⟨#[]⟩] 24 (0, 0)) ∧ w'.heap[R2]? = some (.cells #[.int .i64 210] 25 (0, 0)) ∧ Below n w w' := by
  have D1 := Aside0.mk (blk_alloc h1 (.cells #[] 39))
  have D2 := Aside0.mk (blk_alloc h2 (.cells #[] 39))
  have DL := Aside0.mk (show Below n w (w.alloc (.cells #[] 39)) from (Below.refl n w).alloc (Nat.le_trans hn1 (Nat.le_of_lt (blk_lt h1))) _)
  have HN := Aside0.mk (show (n ≤ R1 ∧ n ≤ R2) ∧ R1 ≠ R2 from ⟨⟨hn1, hn2⟩, h12⟩)
  clear h1 h2 h12 hn1 hn2
  refine callsD_of_wpS Tryd.func17 rfl fun c₀ cs hu => ?_
  apply wpS_seq
  apply wpS_region
  simp [wpOpsS, go_sem, recoverD, hu, Tryd.ntmps17, Exit.thenS]
  apply wpS_seq
  apply wpS_region
  simp [wpOpsS, go_sem, Exit.thenS]
  refine wpS_cond (t := true) (by simp [Act.eval, Array.replicate]) ?_
  simp only [if_true]
  refine wpS_of_wp ?_
  change Code.wp _ _ _ { tmps := #[.pointer (some ⟨R1, 0, none⟩), .pointer (some ⟨R2, 0, none⟩), .iface 39 (.agg #[]), undef, undef, .iface 39 (.agg #[]), .iface 39 (.agg #[]), .bool true, undef, undef, undef, undef, undef, undef, undef, undef, undef], defers := [] } w
  have hta : ∀ W, (Instr.typeAssert (.iface 39 (.agg #[])) 20 39 true).run Tryd.prog W = .ok (.tuple #[.agg #[], .bool true]) W := fun W => by kernel_rfl
  obtain ⟨w1, hw1⟩ : ∃ w1, w1 = w.alloc (.cells #[] 39) := ⟨_, rfl⟩
  rw [← hw1] at D1 D2 DL
  have HW := Aside0.mk hw1
  have c0 : w1.cell? ⟨R1, 0, none⟩ = some (.int .i64 0) := (blk_cell D1.out 0).trans rfl
  have f0 := blk_frozen D1.out 0
  have c1 : w1.cell? ⟨R1, 1, none⟩ = some (.int .u64 0) := (blk_cell D1.out 1).trans rfl
  have f1 := blk_frozen D1.out 1
  have c2 : w1.cell? ⟨R1, 2, none⟩ = some (.int .u64 0) := (blk_cell D1.out 2).trans rfl
  have f2 := blk_frozen D1.out 2
  have c3 : w1.cell? ⟨R1, 3, none⟩ = some (.int .i64 0) := (blk_cell D1.out 3).trans rfl
  have f3 := blk_frozen D1.out 3
  have c4 : w1.cell? ⟨R1, 4, none⟩ = some (.int .i64 0) := (blk_cell D1.out 4).trans rfl
  have f4 := blk_frozen D1.out 4
  have c5 : w1.cell? ⟨R1, 5, none⟩ = some (.int .i64 0) := (blk_cell D1.out 5).trans rfl
  have f5 := blk_frozen D1.out 5
  have c6 : w1.cell? ⟨R1, 6, none⟩ = some (.string ⟨#[]⟩) := (blk_cell D1.out 6).trans rfl
  have f6 := blk_frozen D1.out 6
  have k0 : w1.cell? ⟨R2, 0, none⟩ = some (.int .i64 0) := (blk_cell D2.out 0).trans rfl
  have g0 := blk_frozen D2.out 0
  have hne : ¬ R1 = R2 := HN.out.2
  have hne2 : ¬ R2 = R1 := fun h => HN.out.2 h.symm
  rw [hw1] at c0 c1 c2 c3 c4 c5 c6 f0 f1 f2 f3 f4 f5 f6 k0 g0
  clear hw1
  go_wp2
  rw [← HW.out]
  have hf : (((((((((w1).setCell ⟨R1, 0, none⟩ (.int .i64 0)).setCell ⟨R1, 1, none⟩ (.int .u64 0)).setCell ⟨R1, 2, none⟩ (.int .u64 0)).setCell ⟨R1, 3, none⟩ (.int .i64 0)).setCell ⟨R1, 4, none⟩ (.int .i64 0)).setCell ⟨R1, 5, none⟩ (.int .i64 0)).setCell ⟨R1, 6, none⟩ (.string ⟨#[]⟩)).setCell ⟨R2, 0, none⟩ (.int .i64 210)).heap[R1]? = some (.cells #[.int .i64 0, .int .u64 0, .int .u64 0, .int .i64 0, .int .i64 0, .int .i64 0, .string ⟨#[]⟩] 24 (0, 0)) ∧ (((((((((w1).setCell ⟨R1, 0, none⟩ (.int .i64 0)).setCell ⟨R1, 1, none⟩ (.int .u64 0)).setCell ⟨R1, 2, none⟩ (.int .u64 0)).setCell ⟨R1, 3, none⟩ (.int .i64 0)).setCell ⟨R1, 4, none⟩ (.int .i64 0)).setCell ⟨R1, 5, none⟩ (.int .i64 0)).setCell ⟨R1, 6, none⟩ (.string ⟨#[]⟩)).setCell ⟨R2, 0, none⟩ (.int .i64 210)).heap[R2]? = some (.cells #[.int .i64 210] 25 (0, 0)) ∧ Below n w (((((((((w1).setCell ⟨R1, 0, none⟩ (.int .i64 0)).setCell ⟨R1, 1, none⟩ (.int .u64 0)).setCell ⟨R1, 2, none⟩ (.int .u64 0)).setCell ⟨R1, 3, none⟩ (.int .i64 0)).setCell ⟨R1, 4, none⟩ (.int .i64 0)).setCell ⟨R1, 5, none⟩ (.int .i64 0)).setCell ⟨R1, 6, none⟩ (.string ⟨#[]⟩)).setCell ⟨R2, 0, none⟩ (.int .i64 210)) :=
    ⟨blk_far (blk_set (blk_set (blk_set (blk_set (blk_set (blk_set (blk_set D1.out 0 _) 1 _) 2 _) 3 _) 4 _) 5 _) 6 _) HN.out.2 _,
      blk_set (blk_far (blk_far (blk_far (blk_far (blk_far (blk_far (blk_far D2.out (fun h => HN.out.2 h.symm) _) (fun h => HN.out.2 h.symm) _) (fun h => HN.out.2 h.symm) _) (fun h => HN.out.2 h.symm) _) (fun h => HN.out.2 h.symm) _) (fun h => HN.out.2 h.symm) _) (fun h => HN.out.2 h.symm) _) 0 _,
      below_set' (below_set' (below_set' (below_set' (below_set' (below_set' (below_set' (below_set' DL.out HN.out.1.1 0 _) HN.out.1.1 1 _) HN.out.1.1 2 _) HN.out.1.1 3 _) HN.out.1.1 4 _) HN.out.1.1 5 _) HN.out.1.1 6 _) HN.out.1.2 0 _⟩
  generalize ((((((((w1).setCell ⟨R1, 0, none⟩ (.int .i64 0)).setCell ⟨R1, 1, none⟩ (.int .u64 0)).setCell ⟨R1, 2, none⟩ (.int .u64 0)).setCell ⟨R1, 3, none⟩ (.int .i64 0)).setCell ⟨R1, 4, none⟩ (.int .i64 0)).setCell ⟨R1, 5, none⟩ (.int .i64 0)).setCell ⟨R1, 6, none⟩ (.string ⟨#[]⟩)).setCell ⟨R2, 0, none⟩ (.int .i64 210) = w9 at hf ⊢
  cases c₀
  simp_all [bodyPostS, results, Tryd.results17]
theorem below_ge {n m : Nat} {w w1 w2 : World} (h : Below n w w1) (k : Below m w1 w2) (hm : n ≤ m := by omega) : Below n w w2 :=
  ⟨k.os.trans h.os, k.tape.trans h.tape, k.output.trans h.output, Nat.le_trans h.size k.size, fun i hi => (k.block i (by omega)).trans (h.block i hi)⟩
/-- The worlds in which Parse calls its parser. -/
theorem parse_start (w : World) (l : List UInt8) : PAt (((w.alloc (.cells #[.int .i64 0, .int .u64 0, .int .u64 0, .int .i64 0, .int .i64 0, .int .i64 0, .string ⟨#[]⟩] 24)).alloc (.cells #[.int .i64 0] 25)).alloc (.cells #[.string ⟨l.toArray⟩, .bool false] 43)) (w.heap.size + 1 + 1) l false ∧
    (((w.alloc (.cells #[.int .i64 0, .int .u64 0, .int .u64 0, .int .i64 0, .int .i64 0, .int .i64 0, .string ⟨#[]⟩] 24)).alloc (.cells #[.int .i64 0] 25)).alloc (.cells #[.string ⟨l.toArray⟩, .bool false] 43)).heap[w.heap.size]? = some (.cells #[.int .i64 0, .int .u64 0, .int .u64 0, .int .i64 0, .int .i64 0, .int .i64 0, .string ⟨#[]⟩] 24 (0, 0)) ∧
    (((w.alloc (.cells #[.int .i64 0, .int .u64 0, .int .u64 0, .int .i64 0, .int .i64 0, .int .i64 0, .string ⟨#[]⟩] 24)).alloc (.cells #[.int .i64 0] 25)).alloc (.cells #[.string ⟨l.toArray⟩, .bool false] 43)).heap[w.heap.size + 1]? = some (.cells #[.int .i64 0] 25 (0, 0)) ∧
    Below w.heap.size w (((w.alloc (.cells #[.int .i64 0, .int .u64 0, .int .u64 0, .int .i64 0, .int .i64 0, .int .i64 0, .string ⟨#[]⟩] 24)).alloc (.cells #[.int .i64 0] 25)).alloc (.cells #[.string ⟨l.toArray⟩, .bool false] 43)) := by
  have e1 : (w.alloc (.cells #[.int .i64 0, .int .u64 0, .int .u64 0, .int .i64 0, .int .i64 0, .int .i64 0, .string ⟨#[]⟩] 24)).heap.size = w.heap.size + 1 := World.size_alloc _ _
  have e2 : ((w.alloc (.cells #[.int .i64 0, .int .u64 0, .int .u64 0, .int .i64 0, .int .i64 0, .int .i64 0, .string ⟨#[]⟩] 24)).alloc (.cells #[.int .i64 0] 25)).heap.size = w.heap.size + 2 := by rw [World.size_alloc, e1]
  refine ⟨?_, ?_, ?_, ?_⟩
  · have := blk_new ((w.alloc (.cells #[.int .i64 0, .int .u64 0, .int .u64 0, .int .i64 0, .int .i64 0, .int .i64 0, .string ⟨#[]⟩] 24)).alloc (.cells #[.int .i64 0] 25)) (.cells #[.string ⟨l.toArray⟩, .bool false] 43)
    rw [e2] at this
    exact this
  · exact blk_alloc (blk_alloc (blk_new w _) _) _
  · have := blk_new (w.alloc (.cells #[.int .i64 0, .int .u64 0, .int .u64 0, .int .i64 0, .int .i64 0, .int .i64 0, .string ⟨#[]⟩] 24)) (.cells #[.int .i64 0] 25)
    rw [e1] at this
    exact blk_alloc this _
  · exact below_alloc (below_alloc (below_alloc (Below.refl _ _) _) _) _
set_option maxRecDepth 100000 in
set_option maxHeartbeats 2000000 in
theorem parse_none (l : List UInt8) (w : World) (hl : l.length ≤ 281474976710656) (ht : Tens w) (he : Errs w) (hc : callP l = none) :
    Calls Tryd.prog 8 #[.string ⟨l.toArray⟩] w fun e w' => e = .returned (.tuple #[.agg z7.cells, .int .i64 210]) ∧ Below w.heap.size w w' := by
  have hmf : ∀ (fn : Fn) (first cap : Array Value) (w : World), (Instr.makeFunc fn first cap).run Tryd.prog w = .ok (.func fn first cap) w := fun _ _ _ _ => rfl
  obtain ⟨hp, h1, h2, hb⟩ := parse_start w l
  have C := call_q (w.heap.size + 1 + 1) l w _ hp hl ⟨ht, he, hb, by omega⟩
  unfold CallEnd at C
  rw [hc] at C
  have H1 := Aside0.mk h1
  have H2 := Aside0.mk h2
  have HB := Aside0.mk hb
  clear hp h1 h2 hb hc ht he
  go_enter_defers Tryd.func8, Tryd.ntmps8
  go_wp2_with fail
  refine C.mono ?_
  rintro e w1 ⟨rfl, hg⟩
  have K1 := Aside0.mk ((hg.block _ (blk_lt H1.out) (fun x => by injection x; omega)).trans H1.out)
  have K2 := Aside0.mk ((hg.block _ (blk_lt H2.out) (fun x => by injection x; omega)).trans H2.out)
  have KB := Aside0.mk (pw_below_grown HB.out _ HB.out.size hg (fun k e => by cases e; omega))
  clear hg C H1 H2 HB
  unfold trouble
  go_wp2
  refine leaves_cons (f := 17) (args := #[.pointer (some ⟨w.heap.size, 0, none⟩), .pointer (some ⟨w.heap.size + 1, 0, none⟩)]) (by simp) (by simp [go_sem]) ?_
  refine (catch_panicking w.heap.size (w.heap.size + 1) w.heap.size w1 K1.out K2.out (by omega) (by omega) (by omega)).mono ?_
  rintro e u' w2 ⟨rfl, rfl, k1, k2, kb⟩
  have HF := Aside0.mk (below_ge KB.out kb)
  have c0 : w2.cell? ⟨w.heap.size, 0, none⟩ = some (.int .i64 0) := (blk_cell k1 0).trans rfl
  have c1 : w2.cell? ⟨w.heap.size, 1, none⟩ = some (.int .u64 0) := (blk_cell k1 1).trans rfl
  have c2 : w2.cell? ⟨w.heap.size, 2, none⟩ = some (.int .u64 0) := (blk_cell k1 2).trans rfl
  have c3 : w2.cell? ⟨w.heap.size, 3, none⟩ = some (.int .i64 0) := (blk_cell k1 3).trans rfl
  have c4 : w2.cell? ⟨w.heap.size, 4, none⟩ = some (.int .i64 0) := (blk_cell k1 4).trans rfl
  have c5 : w2.cell? ⟨w.heap.size, 5, none⟩ = some (.int .i64 0) := (blk_cell k1 5).trans rfl
  have c6 : w2.cell? ⟨w.heap.size, 6, none⟩ = some (.string ⟨#[]⟩) := (blk_cell k1 6).trans rfl
  have d0 : w2.cell? ⟨w.heap.size + 1, 0, none⟩ = some (.int .i64 210) := (blk_cell k2 0).trans rfl
  clear k1 k2 kb
  simp [Leaves, settle, results, Tryd.results8, go_sem, c0, c1, c2, c3, c4, c5, c6, d0]
  exact ⟨rfl, HF.out⟩
set_option maxRecDepth 100000 in
set_option maxHeartbeats 2000000 in
theorem parse_some (l : List UInt8) (w : World) (hl : l.length ≤ 281474976710656) (ht : Tens w) (he : Errs w) (c : Call7) (hc : callP l = some c) :
    Calls Tryd.prog 8 #[.string ⟨l.toArray⟩] w fun e w' => e = .returned (.tuple #[.agg c.cells, .int .i64 0]) ∧ Below w.heap.size w w' := by
  have hmf : ∀ (fn : Fn) (first cap : Array Value) (w : World), (Instr.makeFunc fn first cap).run Tryd.prog w = .ok (.func fn first cap) w := fun _ _ _ _ => rfl
  obtain ⟨hp, h1, h2, hb⟩ := parse_start w l
  have C := call_q (w.heap.size + 1 + 1) l w _ hp hl ⟨ht, he, hb, by omega⟩
  unfold CallEnd at C
  rw [hc] at C
  have H1 := Aside0.mk h1
  have H2 := Aside0.mk h2
  have HB := Aside0.mk hb
  clear hp h1 h2 hb hc ht he
  go_enter_defers Tryd.func8, Tryd.ntmps8
  go_wp2_with fail
  refine C.mono ?_
  rintro e w1 ⟨he, hg⟩
  change e = .returned (.agg #[.int .i64 c.kind, .int .u64 c.handle, .int .u64 c.other, .int .i64 c.give, .int .i64 c.grp, .int .i64 c.svc, .string ⟨c.txt.toArray⟩]) at he
  subst he
  have K1 := Aside0.mk ((hg.block _ (blk_lt H1.out) (fun x => by injection x; omega)).trans H1.out)
  have K2 := Aside0.mk ((hg.block _ (blk_lt H2.out) (fun x => by injection x; omega)).trans H2.out)
  have KB := Aside0.mk (pw_below_grown HB.out _ HB.out.size hg (fun k e => by cases e; omega))
  clear hg C H1 H2 HB
  have c0 : w1.cell? ⟨w.heap.size, 0, none⟩ = some (.int .i64 0) := (blk_cell K1.out 0).trans rfl
  have f0 := blk_frozen K1.out 0
  have c1 : w1.cell? ⟨w.heap.size, 1, none⟩ = some (.int .u64 0) := (blk_cell K1.out 1).trans rfl
  have f1 := blk_frozen K1.out 1
  have c2 : w1.cell? ⟨w.heap.size, 2, none⟩ = some (.int .u64 0) := (blk_cell K1.out 2).trans rfl
  have f2 := blk_frozen K1.out 2
  have c3 : w1.cell? ⟨w.heap.size, 3, none⟩ = some (.int .i64 0) := (blk_cell K1.out 3).trans rfl
  have f3 := blk_frozen K1.out 3
  have c4 : w1.cell? ⟨w.heap.size, 4, none⟩ = some (.int .i64 0) := (blk_cell K1.out 4).trans rfl
  have f4 := blk_frozen K1.out 4
  have c5 : w1.cell? ⟨w.heap.size, 5, none⟩ = some (.int .i64 0) := (blk_cell K1.out 5).trans rfl
  have f5 := blk_frozen K1.out 5
  have c6 : w1.cell? ⟨w.heap.size, 6, none⟩ = some (.string ⟨#[]⟩) := (blk_cell K1.out 6).trans rfl
  have f6 := blk_frozen K1.out 6
  have k0 : w1.cell? ⟨w.heap.size + 1, 0, none⟩ = some (.int .i64 0) := (blk_cell K2.out 0).trans rfl
  have g0 := blk_frozen K2.out 0
  have n1 : ¬ w.heap.size = w.heap.size + 1 := by omega
  have n2 : ¬ w.heap.size + 1 = w.heap.size := by omega
  go_wp2
  clear c0 c1 c2 c3 c4 c5 c6 f0 f1 f2 f3 f4 f5 f6 k0 g0
  have hf : (((((((((w1).setCell ⟨w.heap.size, 0, none⟩ (.int .i64 c.kind)).setCell ⟨w.heap.size, 1, none⟩ (.int .u64 c.handle)).setCell ⟨w.heap.size, 2, none⟩ (.int .u64 c.other)).setCell ⟨w.heap.size, 3, none⟩ (.int .i64 c.give)).setCell ⟨w.heap.size, 4, none⟩ (.int .i64 c.grp)).setCell ⟨w.heap.size, 5, none⟩ (.int .i64 c.svc)).setCell ⟨w.heap.size, 6, none⟩ (.string ⟨c.txt.toArray⟩)).setCell ⟨w.heap.size + 1, 0, none⟩ (.int .i64 0)).heap[w.heap.size]? = some (.cells #[.int .i64 c.kind, .int .u64 c.handle, .int .u64 c.other, .int .i64 c.give, .int .i64 c.grp, .int .i64 c.svc, .string ⟨c.txt.toArray⟩] 24 (0, 0)) ∧ (((((((((w1).setCell ⟨w.heap.size, 0, none⟩ (.int .i64 c.kind)).setCell ⟨w.heap.size, 1, none⟩ (.int .u64 c.handle)).setCell ⟨w.heap.size, 2, none⟩ (.int .u64 c.other)).setCell ⟨w.heap.size, 3, none⟩ (.int .i64 c.give)).setCell ⟨w.heap.size, 4, none⟩ (.int .i64 c.grp)).setCell ⟨w.heap.size, 5, none⟩ (.int .i64 c.svc)).setCell ⟨w.heap.size, 6, none⟩ (.string ⟨c.txt.toArray⟩)).setCell ⟨w.heap.size + 1, 0, none⟩ (.int .i64 0)).heap[w.heap.size + 1]? = some (.cells #[.int .i64 0] 25 (0, 0)) ∧ Below w.heap.size w (((((((((w1).setCell ⟨w.heap.size, 0, none⟩ (.int .i64 c.kind)).setCell ⟨w.heap.size, 1, none⟩ (.int .u64 c.handle)).setCell ⟨w.heap.size, 2, none⟩ (.int .u64 c.other)).setCell ⟨w.heap.size, 3, none⟩ (.int .i64 c.give)).setCell ⟨w.heap.size, 4, none⟩ (.int .i64 c.grp)).setCell ⟨w.heap.size, 5, none⟩ (.int .i64 c.svc)).setCell ⟨w.heap.size, 6, none⟩ (.string ⟨c.txt.toArray⟩)).setCell ⟨w.heap.size + 1, 0, none⟩ (.int .i64 0)) :=
    ⟨blk_far (blk_set (blk_set (blk_set (blk_set (blk_set (blk_set (blk_set K1.out 0 _) 1 _) 2 _) 3 _) 4 _) 5 _) 6 _) n1 _,
      blk_set (blk_far (blk_far (blk_far (blk_far (blk_far (blk_far (blk_far K2.out n2 _) n2 _) n2 _) n2 _) n2 _) n2 _) n2 _) 0 _,
      below_set' (below_set' (below_set' (below_set' (below_set' (below_set' (below_set' (below_set' KB.out (Nat.le_refl _) 0 _) (Nat.le_refl _) 1 _) (Nat.le_refl _) 2 _) (Nat.le_refl _) 3 _) (Nat.le_refl _) 4 _) (Nat.le_refl _) 5 _) (Nat.le_refl _) 6 _) (Nat.le_succ _) 0 _⟩
  generalize ((((((((w1).setCell ⟨w.heap.size, 0, none⟩ (.int .i64 c.kind)).setCell ⟨w.heap.size, 1, none⟩ (.int .u64 c.handle)).setCell ⟨w.heap.size, 2, none⟩ (.int .u64 c.other)).setCell ⟨w.heap.size, 3, none⟩ (.int .i64 c.give)).setCell ⟨w.heap.size, 4, none⟩ (.int .i64 c.grp)).setCell ⟨w.heap.size, 5, none⟩ (.int .i64 c.svc)).setCell ⟨w.heap.size, 6, none⟩ (.string ⟨c.txt.toArray⟩)).setCell ⟨w.heap.size + 1, 0, none⟩ (.int .i64 0) = w9 at hf ⊢
  clear n1 n2 K1 K2 KB
  refine leaves_cons (f := 17) (args := #[.pointer (some ⟨w.heap.size, 0, none⟩), .pointer (some ⟨w.heap.size + 1, 0, none⟩)]) (by simp) (by simp [go_sem]) ?_
  refine (catch_idle ⟨w.heap.size, 0, none⟩ ⟨w.heap.size + 1, 0, none⟩ _).mono ?_
  rintro e u' w2 ⟨rfl, rfl, rfl⟩
  obtain ⟨k1, k2, kb⟩ := hf
  have c0 : w2.cell? ⟨w.heap.size, 0, none⟩ = some (.int .i64 c.kind) := (blk_cell k1 0).trans rfl
  have c1 : w2.cell? ⟨w.heap.size, 1, none⟩ = some (.int .u64 c.handle) := (blk_cell k1 1).trans rfl
  have c2 : w2.cell? ⟨w.heap.size, 2, none⟩ = some (.int .u64 c.other) := (blk_cell k1 2).trans rfl
  have c3 : w2.cell? ⟨w.heap.size, 3, none⟩ = some (.int .i64 c.give) := (blk_cell k1 3).trans rfl
  have c4 : w2.cell? ⟨w.heap.size, 4, none⟩ = some (.int .i64 c.grp) := (blk_cell k1 4).trans rfl
  have c5 : w2.cell? ⟨w.heap.size, 5, none⟩ = some (.int .i64 c.svc) := (blk_cell k1 5).trans rfl
  have c6 : w2.cell? ⟨w.heap.size, 6, none⟩ = some (.string ⟨c.txt.toArray⟩) := (blk_cell k1 6).trans rfl
  have d0 : w2.cell? ⟨w.heap.size + 1, 0, none⟩ = some (.int .i64 0) := (blk_cell k2 0).trans rfl
  have HF := Aside0.mk kb
  clear k1 k2 kb
  simp [Leaves, settle, results, Tryd.results8, go_sem, c0, c1, c2, c3, c4, c5, c6, d0]
  exact ⟨rfl, HF.out⟩
/-- What Parse tells. -/
def parseC (l : List UInt8) : Call7 := match callP l with | some c => c | none => z7
def parseE (l : List UInt8) : Int := match callP l with | some _ => 0 | none => 210
theorem parse_q (l : List UInt8) (w : World) (hl : l.length ≤ 281474976710656) (ht : Tens w) (he : Errs w) :
    Calls Tryd.prog 8 #[.string ⟨l.toArray⟩] w fun e w' => e = .returned (.tuple #[.agg (parseC l).cells, .int .i64 (parseE l)]) ∧ Below w.heap.size w w' := by
  unfold parseC parseE
  cases hc : callP l with
  | none => exact parse_none l w hl ht he hc
  | some c => exact parse_some l w hl ht he c hc
end Go.Proofs.YtljgmbpfeajmhaaDoor
