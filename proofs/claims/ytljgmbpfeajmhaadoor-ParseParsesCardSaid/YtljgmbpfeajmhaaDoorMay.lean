/- May and Print: whether any call may be, and its request. -/
import Derived.Test.YtljgmbpfeajmhaaDoorSpelt
import Derived.Test.YtljgmbpfeajmhaaDoorP1
set_option linter.unusedVariables false
set_option linter.unusedSimpArgs false
namespace Go.Proofs.YtljgmbpfeajmhaaDoor
open Go.Proofs Go.Shelf Go.RowKit Go.Proofs.YtljgmbpfeajmhaaDoorW.PrintWords Go.Proofs.YtljgmbpfeajmhaaDoorW.PrintLast

theorem svcName_len (k : Int) : (svcName k).length ≤ 6 := by
  unfold svcName
  split
  · decide
  · split
    · decide
    · split <;> decide
theorem speltL_len (c : Call7) (hf : c.Fits) : (speltL c).length ≤ 200000000000000 := by
  have z1 := dec_small c.handle.toNat (by have := hf.handle1; omega)
  have z2 := dec_small c.other.toNat (by have := hf.other1; omega)
  have z3 := itoa_small c.give hf.give0 hf.give1
  have z4 := itoa_small c.grp hf.grp0 hf.grp1
  have z5 := svcName_len c.svc
  have z6 := hf.txt
  unfold speltL
  repeat' (first | split | (simp only [List.length_append, List.length_cons, List.length_nil]; omega))
theorem ret_bool {a b : Bool} (h : a = b) : Ending.returned (.bool a) = .returned (.bool b) := by rw [h]
attribute [local go_sem high] P.eqA24
/-- May a call be? -/
def mayL (c : Call7) : Bool := decide (parseE (speltL c) = 0 ∧ parseC (speltL c) = c)
set_option maxRecDepth 100000 in
set_option maxHeartbeats 4000000 in
theorem may_q (c : Call7) (hf : c.Fits) (w : World) (ht : Tens w) (he : Errs w) :
    Calls Tryd.prog 11 #[.agg c.cells] w fun e w' => e = .returned (.bool (mayL c)) ∧ Below w.heap.size w w' := by
  have S0 := Aside0.mk (fun (w1 : World) (hb : Below w.heap.size w w1) => spelt_q c hf w1 (ht.below hb))
  have P0 := Aside0.mk (fun (w1 : World) (hb : Below w.heap.size w w1) => parse_q (speltL c) w1 (Nat.le_trans (speltL_len c hf) (by decide)) (ht.below hb) (he.below hb))
  clear hf ht he
  obtain ⟨d, hd⟩ : ∃ d, d = parseC (speltL c) := ⟨_, rfl⟩
  obtain ⟨x, hx⟩ : ∃ x, x = parseE (speltL c) := ⟨_, rfl⟩
  have HM := Aside0.mk (show mayL c = decide (x = 0 ∧ d = c) from by rw [hd, hx]; rfl)
  rw [← hd, ← hx] at P0
  clear hd hx
  have DB := Aside0.mk (below_alloc (Below.refl w.heap.size w) (.cells c.cells 24))
  have DX := Aside0.mk (blk_new w (.cells c.cells 24))
  obtain ⟨c0, c1, c2, c3, c4, c5, c6⟩ := c
  change Calls Tryd.prog 11 #[.agg #[.int .i64 c0, .int .u64 c1, .int .u64 c2, .int .i64 c3, .int .i64 c4, .int .i64 c5, .string ⟨c6.toArray⟩]] w _
  change Aside0 (Below w.heap.size w (w.alloc (.cells #[.int .i64 c0, .int .u64 c1, .int .u64 c2, .int .i64 c3, .int .i64 c4, .int .i64 c5, .string ⟨c6.toArray⟩] 24))) at DB
  change Aside0 ((w.alloc (.cells #[.int .i64 c0, .int .u64 c1, .int .u64 c2, .int .i64 c3, .int .i64 c4, .int .i64 c5, .string ⟨c6.toArray⟩] 24)).heap[w.heap.size]? = some (.cells #[.int .i64 c0, .int .u64 c1, .int .u64 c2, .int .i64 c3, .int .i64 c4, .int .i64 c5, .string ⟨c6.toArray⟩] 24 (0, 0))) at DX
  obtain ⟨d0, d1, d2, d3, d4, d5, d6⟩ := d
  replace P0 := Aside0.mk (show ∀ (w1 : World), Below w.heap.size w w1 → Calls Tryd.prog 8 #[.string ⟨(speltL ⟨c0, c1, c2, c3, c4, c5, c6⟩).toArray⟩] w1 fun e w' => e = .returned (.tuple #[.agg #[.int .i64 d0, .int .u64 d1, .int .u64 d2, .int .i64 d3, .int .i64 d4, .int .i64 d5, .string ⟨d6.toArray⟩], .int .i64 x]) ∧ Below w1.heap.size w1 w' from P0.out)
  by_cases hx : x = 0
  · subst hx
    go_enter Tryd.func11, Tryd.ntmps11
    go_wp2_with fail
    refine (S0.out _ DB.out).mono ?_
    rintro e w1 ⟨rfl, hb⟩
    have D1 := Aside0.mk (below_then DB.out DB.out.size hb)
    have X1 := Aside0.mk ((hb.block _ (blk_lt DX.out)).trans DX.out)
    clear hb
    go_wp2_with fail
    refine (P0.out _ D1.out).mono ?_
    rintro e w2 ⟨rfl, hb⟩
    have D2 := Aside0.mk (below_then D1.out D1.out.size hb)
    have X2 := Aside0.mk ((hb.block _ (blk_lt X1.out)).trans X1.out)
    clear hb
    have X3 := blk_alloc X2.out (.cells #[.int .i64 d0, .int .u64 d1, .int .u64 d2, .int .i64 d3, .int .i64 d4, .int .i64 d5, .string ⟨d6.toArray⟩] 24)
    have D3 := Aside0.mk (below_alloc D2.out (.cells #[.int .i64 d0, .int .u64 d1, .int .u64 d2, .int .i64 d3, .int .i64 d4, .int .i64 d5, .string ⟨d6.toArray⟩] 24))
    have e0 := (blk_cell X3 0).trans (show _ = some (.int .i64 c0) from rfl)
    have e1 := (blk_cell X3 1).trans (show _ = some (.int .u64 c1) from rfl)
    have e2 := (blk_cell X3 2).trans (show _ = some (.int .u64 c2) from rfl)
    have e3 := (blk_cell X3 3).trans (show _ = some (.int .i64 c3) from rfl)
    have e4 := (blk_cell X3 4).trans (show _ = some (.int .i64 c4) from rfl)
    have e5 := (blk_cell X3 5).trans (show _ = some (.int .i64 c5) from rfl)
    have e6 := (blk_cell X3 6).trans (show _ = some (.string ⟨c6.toArray⟩) from rfl)
    clear X3
    go_wp2
    go_ret
    refine ⟨?_, D3.out⟩
    rw [HM.out]
    refine ret_bool ?_
    rw [Bool.eq_iff_iff]
    simp [Call7.mk.injEq]
  · have hx0 : (x == 0) = false := beq_eq_false_iff_ne.2 hx
    rw [show decide (x = 0 ∧ (⟨d0, d1, d2, d3, d4, d5, d6⟩ : Call7) = ⟨c0, c1, c2, c3, c4, c5, c6⟩) = false from decide_eq_false (fun h => hx h.1)] at HM
    clear hx
    go_enter Tryd.func11, Tryd.ntmps11
    go_wp2_with fail
    refine (S0.out _ DB.out).mono ?_
    rintro e w1 ⟨rfl, hb⟩
    have D1 := Aside0.mk (below_then DB.out DB.out.size hb)
    have X1 := Aside0.mk ((hb.block _ (blk_lt DX.out)).trans DX.out)
    clear hb
    go_wp2_with fail
    refine (P0.out _ D1.out).mono ?_
    rintro e w2 ⟨rfl, hb⟩
    have D2 := Aside0.mk (below_then D1.out D1.out.size hb)
    have X2 := Aside0.mk ((hb.block _ (blk_lt X1.out)).trans X1.out)
    clear hb
    have X3 := blk_alloc X2.out (.cells #[.int .i64 d0, .int .u64 d1, .int .u64 d2, .int .i64 d3, .int .i64 d4, .int .i64 d5, .string ⟨d6.toArray⟩] 24)
    have D3 := Aside0.mk (below_alloc D2.out (.cells #[.int .i64 d0, .int .u64 d1, .int .u64 d2, .int .i64 d3, .int .i64 d4, .int .i64 d5, .string ⟨d6.toArray⟩] 24))
    have e0 := (blk_cell X3 0).trans (show _ = some (.int .i64 c0) from rfl)
    have e1 := (blk_cell X3 1).trans (show _ = some (.int .u64 c1) from rfl)
    have e2 := (blk_cell X3 2).trans (show _ = some (.int .u64 c2) from rfl)
    have e3 := (blk_cell X3 3).trans (show _ = some (.int .i64 c3) from rfl)
    have e4 := (blk_cell X3 4).trans (show _ = some (.int .i64 c4) from rfl)
    have e5 := (blk_cell X3 5).trans (show _ = some (.int .i64 c5) from rfl)
    have e6 := (blk_cell X3 6).trans (show _ = some (.string ⟨c6.toArray⟩) from rfl)
    clear X3
    go_wp2
    go_ret
    refine ⟨?_, D3.out⟩
    rw [HM.out]
    rfl
/-- A call's request; nothing, if there is none. -/
def printL (c : Call7) : List UInt8 := if mayL c then speltL c else []
set_option maxRecDepth 100000 in
set_option maxHeartbeats 4000000 in
theorem print_q (c : Call7) (hf : c.Fits) (w : World) (ht : Tens w) (he : Errs w) :
    Calls Tryd.prog 13 #[.agg c.cells] w fun e w' => e = .returned (.string ⟨(printL c).toArray⟩) ∧ Below w.heap.size w w' := by
  have S0 := Aside0.mk (fun (w1 : World) (hb : Below w.heap.size w w1) => spelt_q c hf w1 (ht.below hb))
  have M0 := Aside0.mk (fun (w1 : World) (hb : Below w.heap.size w w1) => may_q c hf w1 (ht.below hb) (he.below hb))
  clear hf ht he
  have HP := Aside0.mk (show printL c = if mayL c then speltL c else [] from rfl)
  generalize mayL c = m at M0 HP
  have DB := Aside0.mk (below_alloc (Below.refl w.heap.size w) (.cells c.cells 24))
  have DX := Aside0.mk (blk_new w (.cells c.cells 24))
  obtain ⟨c0, c1, c2, c3, c4, c5, c6⟩ := c
  change Calls Tryd.prog 13 #[.agg #[.int .i64 c0, .int .u64 c1, .int .u64 c2, .int .i64 c3, .int .i64 c4, .int .i64 c5, .string ⟨c6.toArray⟩]] w _
  change Aside0 (Below w.heap.size w (w.alloc (.cells #[.int .i64 c0, .int .u64 c1, .int .u64 c2, .int .i64 c3, .int .i64 c4, .int .i64 c5, .string ⟨c6.toArray⟩] 24))) at DB
  change Aside0 ((w.alloc (.cells #[.int .i64 c0, .int .u64 c1, .int .u64 c2, .int .i64 c3, .int .i64 c4, .int .i64 c5, .string ⟨c6.toArray⟩] 24)).heap[w.heap.size]? = some (.cells #[.int .i64 c0, .int .u64 c1, .int .u64 c2, .int .i64 c3, .int .i64 c4, .int .i64 c5, .string ⟨c6.toArray⟩] 24 (0, 0))) at DX
  cases m
  · go_enter Tryd.func13, Tryd.ntmps13
    go_wp2_with fail
    refine (M0.out _ DB.out).mono ?_
    rintro e w1 ⟨rfl, hb⟩
    have D1 := Aside0.mk (below_then DB.out DB.out.size hb)
    clear hb
    go_wp2
    go_ret
    refine ⟨?_, D1.out⟩
    rw [HP.out]
    rfl
  · go_enter Tryd.func13, Tryd.ntmps13
    go_wp2_with fail
    refine (M0.out _ DB.out).mono ?_
    rintro e w1 ⟨rfl, hb⟩
    have D1 := Aside0.mk (below_then DB.out DB.out.size hb)
    have X1 := ((hb.block _ (blk_lt DX.out)).trans DX.out)
    clear hb
    have e0 := (blk_cell X1 0).trans (show _ = some (.int .i64 c0) from rfl)
    have e1 := (blk_cell X1 1).trans (show _ = some (.int .u64 c1) from rfl)
    have e2 := (blk_cell X1 2).trans (show _ = some (.int .u64 c2) from rfl)
    have e3 := (blk_cell X1 3).trans (show _ = some (.int .i64 c3) from rfl)
    have e4 := (blk_cell X1 4).trans (show _ = some (.int .i64 c4) from rfl)
    have e5 := (blk_cell X1 5).trans (show _ = some (.int .i64 c5) from rfl)
    have e6 := (blk_cell X1 6).trans (show _ = some (.string ⟨c6.toArray⟩) from rfl)
    clear X1
    go_wp2_with fail
    refine (S0.out _ D1.out).mono ?_
    rintro e w2 ⟨rfl, hb⟩
    have D2 := Aside0.mk (below_then D1.out D1.out.size hb)
    clear hb
    go_wp2
    go_ret
    refine ⟨?_, D2.out⟩
    rw [HP.out]
    rfl
end Go.Proofs.YtljgmbpfeajmhaaDoor
