/- audit.Parse: what record a line says, or that it says none. -/
import Derived.Test.YtoeioacgpildpaaDoorFields
import Derived.Test.YtoeioacgpildpaaDoorCalls
set_option linter.unusedVariables false
set_option linter.unusedSimpArgs false
namespace Go.Proofs.YtoeioacgpildpaaDoor
open Go.Proofs Go.Shelf Go.RowKit Go.Proofs.YtoeioacgpildpaaDoorW.PrintWords Go.Proofs.YtoeioacgpildpaaDoorW.PrintLast Go.Proofs.YtoeioacgpildpaaDoorW.PrintMore
open Go.Proofs.YtoeioacgpildpaaDoor.P (S27 k27 z27)

set_option maxRecDepth 100000 in
set_option maxHeartbeats 4000000 in
theorem aparse_1 (s rest q1 q2 tx : ByteArray) (n t k : Int) (p1 p2 is : Bool) (w : World) (ht : Tens w) (he : Errs w)
    (FX : ∀ w1 : World, Errs w1 → Calls Tryd.prog 27 #[.string s] w1 fun e w' => (∃ n t k, e = .returned (.tuple #[.agg #[.int .u64 n, .int .u32 t, .string ⟨#[]⟩, .int .i64 k], .string rest, .bool false])) ∧ Below w1.heap.size w1 w')
    (PX : ∀ w1 : World, Calls Tryd.prog 28 #[.string rest, .string ⟨#[34]⟩] w1 fun e w' => e = .returned (.tuple #[.string q1, .bool p1]) ∧ w' = w1)
    (SX : ∀ w1 : World, Calls Tryd.prog 29 #[.string q1, .string ⟨#[34, 10]⟩] w1 fun e w' => e = .returned (.tuple #[.string q2, .bool p2]) ∧ w' = w1)
    (CX : ∀ w1 : World, Calls Tryd.prog 30 #[.string q2] w1 fun e w' => e = .returned (.tuple #[.string tx, .bool is]) ∧ Below w1.heap.size w1 w')
    : Calls Tryd.prog 17 #[.string s] w fun e w' => e = .returned (.tuple #[.agg #[.int .u64 0, .int .u32 0, .string ⟨#[]⟩, .int .i64 0], .bool false]) ∧ Below w.heap.size w w' := by
  have FX := Aside0.mk FX
  have PX := Aside0.mk PX
  have SX := Aside0.mk SX
  have CX := Aside0.mk CX
  have HT := Aside0.mk ht
  have HE := Aside0.mk he
  have D0 := Aside0.mk (below_alloc (Below.refl w.heap.size w) (.cells #[.int .u64 0, .int .u32 0, .string ⟨#[]⟩, .int .i64 0] 27))
  have X := Aside0.mk (blk_new w (.cells #[.int .u64 0, .int .u32 0, .string ⟨#[]⟩, .int .i64 0] 27))
  clear ht he
  go_enter Tryd.func17, Tryd.ntmps17
  go_wp2_with fail
  refine (FX.out _ (HE.out.below D0.out)).mono ?_
  rintro e w1 ⟨⟨n, t, k, rfl⟩, hb⟩
  replace X := Aside0.mk ((hb.block _ (blk_lt X.out)).trans X.out)
  have D1 := Aside0.mk (below_then D0.out D0.out.size hb)
  clear hb D0 FX
  have HCR := Aside0.mk (show w1.heap.size ≠ w.heap.size ∧ w.heap.size ≤ w1.heap.size from ⟨(Nat.ne_of_lt (blk_lt X.out)).symm, D1.out.size⟩)
  have CB := Aside0.mk (blk_new w1 (.cells #[.int .u64 n, .int .u32 t, .string ⟨#[]⟩, .int .i64 k] 27))
  replace X := Aside0.mk (blk_alloc X.out (.cells #[.int .u64 n, .int .u32 t, .string ⟨#[]⟩, .int .i64 k] 27))
  have D2 := Aside0.mk (below_alloc D1.out (.cells #[.int .u64 n, .int .u32 t, .string ⟨#[]⟩, .int .i64 k] 27))
  go_upto_region 2 with (fail)
  obtain ⟨C, hC⟩ : ∃ C, C = w1.heap.size := ⟨_, rfl⟩
  rw [← hC] at CB HCR ⊢
  obtain ⟨R, hR⟩ : ∃ R, R = w.heap.size := ⟨_, rfl⟩
  have HR := Aside0.mk hR
  rw [← hR] at X HCR ⊢
  clear hC hR D1
  generalize w1.alloc (.cells #[.int .u64 n, .int .u32 t, .string ⟨#[]⟩, .int .i64 k] 27) = w2 at CB X D2 ⊢
  go_wp2_with fail
  refine (PX.out _).mono ?_
  rintro e w3 ⟨rfl, rfl⟩
  clear PX
  go_wp2_with fail
  refine (SX.out _).mono ?_
  rintro e w4 ⟨rfl, rfl⟩
  clear SX
  go_wp2_with fail
  refine (CX.out _).mono ?_
  rintro e w5 ⟨rfl, hb⟩
  clear CX
  replace X := Aside0.mk ((hb.block _ (blk_lt X.out)).trans X.out)
  replace CB := Aside0.mk ((hb.block _ (blk_lt CB.out)).trans CB.out)
  have D5 := Aside0.mk (below_then D2.out D2.out.size hb)
  clear hb D2
  have cc := (blk_cell CB.out 2).trans (show _ = some (.string ⟨#[]⟩) from rfl)
  have cf := blk_frozen CB.out 2
  have CB2 := Aside0.mk (show (w5.setCell ⟨C, 2, none⟩ (.string tx)).heap[C]? = some (.cells #[.int .u64 n, .int .u32 t, .string tx, .int .i64 k] 27 (0, 0)) from blk_set CB.out 2 _)
  have X2 := Aside0.mk (show (w5.setCell ⟨C, 2, none⟩ (.string tx)).heap[R]? = some (.cells #[.int .u64 0, .int .u32 0, .string ⟨#[]⟩, .int .i64 0] 27 (0, 0)) from blk_far X.out (fun x => HCR.out.1 x.symm) _)
  have D6 := Aside0.mk (show Below w.heap.size w (w5.setCell ⟨C, 2, none⟩ (.string tx)) from below_set' D5.out (by rw [← HR.out]; exact HCR.out.2) 2 _)
  go_upto_region 6 with (fail)
  clear cc cf CB X D5
  generalize w5.setCell ⟨C, 2, none⟩ (.string tx) = w6 at CB2 X2 D6 ⊢
  have rc0 : w6.cell? ⟨R, 0, none⟩ = some (.int .u64 0) := (blk_cell X2.out 0).trans rfl
  have rf0 := blk_frozen X2.out 0
  have rc1 : w6.cell? ⟨R, 1, none⟩ = some (.int .u32 0) := (blk_cell X2.out 1).trans rfl
  have rf1 := blk_frozen X2.out 1
  have rc2 : w6.cell? ⟨R, 2, none⟩ = some (.string ⟨#[]⟩) := (blk_cell X2.out 2).trans rfl
  have rf2 := blk_frozen X2.out 2
  have rc3 : w6.cell? ⟨R, 3, none⟩ = some (.int .i64 0) := (blk_cell X2.out 3).trans rfl
  have rf3 := blk_frozen X2.out 3
  go_wp2
  clear rc0 rf0 rc1 rf1 rc2 rf2 rc3 rf3
  have hFX : ((((w6.setCell ⟨R, 0, none⟩ (.int .u64 0)).setCell ⟨R, 1, none⟩ (.int .u32 0)).setCell ⟨R, 2, none⟩ (.string ⟨#[]⟩)).setCell ⟨R, 3, none⟩ (.int .i64 0)).heap[R]? = some (.cells #[.int .u64 0, .int .u32 0, .string ⟨#[]⟩, .int .i64 0] 27 (0, 0)) ∧ Below w.heap.size w ((((w6.setCell ⟨R, 0, none⟩ (.int .u64 0)).setCell ⟨R, 1, none⟩ (.int .u32 0)).setCell ⟨R, 2, none⟩ (.string ⟨#[]⟩)).setCell ⟨R, 3, none⟩ (.int .i64 0)) := ⟨blk_set (blk_set (blk_set (blk_set X2.out 0 _) 1 _) 2 _) 3 _, below_set' (below_set' (below_set' (below_set' D6.out (Nat.le_of_eq HR.out.symm) 0 _) (Nat.le_of_eq HR.out.symm) 1 _) (Nat.le_of_eq HR.out.symm) 2 _) (Nat.le_of_eq HR.out.symm) 3 _⟩
  generalize ((((w6.setCell ⟨R, 0, none⟩ (.int .u64 0)).setCell ⟨R, 1, none⟩ (.int .u32 0)).setCell ⟨R, 2, none⟩ (.string ⟨#[]⟩)).setCell ⟨R, 3, none⟩ (.int .i64 0)) = w8 at hFX ⊢
  obtain ⟨FX1, FX2⟩ := hFX
  have rc0 : w8.cell? ⟨R, 0, none⟩ = some (.int .u64 0) := (blk_cell FX1 0).trans rfl
  have rc1 : w8.cell? ⟨R, 1, none⟩ = some (.int .u32 0) := (blk_cell FX1 1).trans rfl
  have rc2 : w8.cell? ⟨R, 2, none⟩ = some (.string ⟨#[]⟩) := (blk_cell FX1 2).trans rfl
  have rc3 : w8.cell? ⟨R, 3, none⟩ = some (.int .i64 0) := (blk_cell FX1 3).trans rfl
  refine bodyPost_ret (v := .tuple #[.agg #[.int .u64 0, .int .u32 0, .string ⟨#[]⟩, .int .i64 0], .bool false]) (by simp [results, Tryd.results17, go_sem, rc0, rc1, rc2, rc3]) rfl ⟨rfl, FX2⟩
set_option maxRecDepth 100000 in
set_option maxHeartbeats 4000000 in
theorem aparse_2 (s rest q1 q2 tx : ByteArray) (n t k : Int) (p2 is : Bool) (w : World) (ht : Tens w) (he : Errs w)
    (FX : ∀ w1 : World, Errs w1 → Calls Tryd.prog 27 #[.string s] w1 fun e w' => e = .returned (.tuple #[.agg #[.int .u64 n, .int .u32 t, .string ⟨#[]⟩, .int .i64 k], .string rest, .bool true]) ∧ Below w1.heap.size w1 w')
    (PX : ∀ w1 : World, Calls Tryd.prog 28 #[.string rest, .string ⟨#[34]⟩] w1 fun e w' => e = .returned (.tuple #[.string q1, .bool false]) ∧ w' = w1)
    (SX : ∀ w1 : World, Calls Tryd.prog 29 #[.string q1, .string ⟨#[34, 10]⟩] w1 fun e w' => e = .returned (.tuple #[.string q2, .bool p2]) ∧ w' = w1)
    (CX : ∀ w1 : World, Calls Tryd.prog 30 #[.string q2] w1 fun e w' => e = .returned (.tuple #[.string tx, .bool is]) ∧ Below w1.heap.size w1 w')
    : Calls Tryd.prog 17 #[.string s] w fun e w' => e = .returned (.tuple #[.agg #[.int .u64 0, .int .u32 0, .string ⟨#[]⟩, .int .i64 0], .bool false]) ∧ Below w.heap.size w w' := by
  have FX := Aside0.mk FX
  have PX := Aside0.mk PX
  have SX := Aside0.mk SX
  have CX := Aside0.mk CX
  have HT := Aside0.mk ht
  have HE := Aside0.mk he
  have D0 := Aside0.mk (below_alloc (Below.refl w.heap.size w) (.cells #[.int .u64 0, .int .u32 0, .string ⟨#[]⟩, .int .i64 0] 27))
  have X := Aside0.mk (blk_new w (.cells #[.int .u64 0, .int .u32 0, .string ⟨#[]⟩, .int .i64 0] 27))
  clear ht he
  go_enter Tryd.func17, Tryd.ntmps17
  go_wp2_with fail
  refine (FX.out _ (HE.out.below D0.out)).mono ?_
  rintro e w1 ⟨rfl, hb⟩
  replace X := Aside0.mk ((hb.block _ (blk_lt X.out)).trans X.out)
  have D1 := Aside0.mk (below_then D0.out D0.out.size hb)
  clear hb D0 FX
  have HCR := Aside0.mk (show w1.heap.size ≠ w.heap.size ∧ w.heap.size ≤ w1.heap.size from ⟨(Nat.ne_of_lt (blk_lt X.out)).symm, D1.out.size⟩)
  have CB := Aside0.mk (blk_new w1 (.cells #[.int .u64 n, .int .u32 t, .string ⟨#[]⟩, .int .i64 k] 27))
  replace X := Aside0.mk (blk_alloc X.out (.cells #[.int .u64 n, .int .u32 t, .string ⟨#[]⟩, .int .i64 k] 27))
  have D2 := Aside0.mk (below_alloc D1.out (.cells #[.int .u64 n, .int .u32 t, .string ⟨#[]⟩, .int .i64 k] 27))
  go_upto_region 2 with (fail)
  obtain ⟨C, hC⟩ : ∃ C, C = w1.heap.size := ⟨_, rfl⟩
  rw [← hC] at CB HCR ⊢
  obtain ⟨R, hR⟩ : ∃ R, R = w.heap.size := ⟨_, rfl⟩
  have HR := Aside0.mk hR
  rw [← hR] at X HCR ⊢
  clear hC hR D1
  generalize w1.alloc (.cells #[.int .u64 n, .int .u32 t, .string ⟨#[]⟩, .int .i64 k] 27) = w2 at CB X D2 ⊢
  go_wp2_with fail
  refine (PX.out _).mono ?_
  rintro e w3 ⟨rfl, rfl⟩
  clear PX
  go_wp2_with fail
  refine (SX.out _).mono ?_
  rintro e w4 ⟨rfl, rfl⟩
  clear SX
  go_wp2_with fail
  refine (CX.out _).mono ?_
  rintro e w5 ⟨rfl, hb⟩
  clear CX
  replace X := Aside0.mk ((hb.block _ (blk_lt X.out)).trans X.out)
  replace CB := Aside0.mk ((hb.block _ (blk_lt CB.out)).trans CB.out)
  have D5 := Aside0.mk (below_then D2.out D2.out.size hb)
  clear hb D2
  have cc := (blk_cell CB.out 2).trans (show _ = some (.string ⟨#[]⟩) from rfl)
  have cf := blk_frozen CB.out 2
  have CB2 := Aside0.mk (show (w5.setCell ⟨C, 2, none⟩ (.string tx)).heap[C]? = some (.cells #[.int .u64 n, .int .u32 t, .string tx, .int .i64 k] 27 (0, 0)) from blk_set CB.out 2 _)
  have X2 := Aside0.mk (show (w5.setCell ⟨C, 2, none⟩ (.string tx)).heap[R]? = some (.cells #[.int .u64 0, .int .u32 0, .string ⟨#[]⟩, .int .i64 0] 27 (0, 0)) from blk_far X.out (fun x => HCR.out.1 x.symm) _)
  have D6 := Aside0.mk (show Below w.heap.size w (w5.setCell ⟨C, 2, none⟩ (.string tx)) from below_set' D5.out (by rw [← HR.out]; exact HCR.out.2) 2 _)
  go_upto_region 6 with (fail)
  clear cc cf CB X D5
  generalize w5.setCell ⟨C, 2, none⟩ (.string tx) = w6 at CB2 X2 D6 ⊢
  have rc0 : w6.cell? ⟨R, 0, none⟩ = some (.int .u64 0) := (blk_cell X2.out 0).trans rfl
  have rf0 := blk_frozen X2.out 0
  have rc1 : w6.cell? ⟨R, 1, none⟩ = some (.int .u32 0) := (blk_cell X2.out 1).trans rfl
  have rf1 := blk_frozen X2.out 1
  have rc2 : w6.cell? ⟨R, 2, none⟩ = some (.string ⟨#[]⟩) := (blk_cell X2.out 2).trans rfl
  have rf2 := blk_frozen X2.out 2
  have rc3 : w6.cell? ⟨R, 3, none⟩ = some (.int .i64 0) := (blk_cell X2.out 3).trans rfl
  have rf3 := blk_frozen X2.out 3
  go_wp2
  clear rc0 rf0 rc1 rf1 rc2 rf2 rc3 rf3
  have hFX : ((((w6.setCell ⟨R, 0, none⟩ (.int .u64 0)).setCell ⟨R, 1, none⟩ (.int .u32 0)).setCell ⟨R, 2, none⟩ (.string ⟨#[]⟩)).setCell ⟨R, 3, none⟩ (.int .i64 0)).heap[R]? = some (.cells #[.int .u64 0, .int .u32 0, .string ⟨#[]⟩, .int .i64 0] 27 (0, 0)) ∧ Below w.heap.size w ((((w6.setCell ⟨R, 0, none⟩ (.int .u64 0)).setCell ⟨R, 1, none⟩ (.int .u32 0)).setCell ⟨R, 2, none⟩ (.string ⟨#[]⟩)).setCell ⟨R, 3, none⟩ (.int .i64 0)) := ⟨blk_set (blk_set (blk_set (blk_set X2.out 0 _) 1 _) 2 _) 3 _, below_set' (below_set' (below_set' (below_set' D6.out (Nat.le_of_eq HR.out.symm) 0 _) (Nat.le_of_eq HR.out.symm) 1 _) (Nat.le_of_eq HR.out.symm) 2 _) (Nat.le_of_eq HR.out.symm) 3 _⟩
  generalize ((((w6.setCell ⟨R, 0, none⟩ (.int .u64 0)).setCell ⟨R, 1, none⟩ (.int .u32 0)).setCell ⟨R, 2, none⟩ (.string ⟨#[]⟩)).setCell ⟨R, 3, none⟩ (.int .i64 0)) = w8 at hFX ⊢
  obtain ⟨FX1, FX2⟩ := hFX
  have rc0 : w8.cell? ⟨R, 0, none⟩ = some (.int .u64 0) := (blk_cell FX1 0).trans rfl
  have rc1 : w8.cell? ⟨R, 1, none⟩ = some (.int .u32 0) := (blk_cell FX1 1).trans rfl
  have rc2 : w8.cell? ⟨R, 2, none⟩ = some (.string ⟨#[]⟩) := (blk_cell FX1 2).trans rfl
  have rc3 : w8.cell? ⟨R, 3, none⟩ = some (.int .i64 0) := (blk_cell FX1 3).trans rfl
  refine bodyPost_ret (v := .tuple #[.agg #[.int .u64 0, .int .u32 0, .string ⟨#[]⟩, .int .i64 0], .bool false]) (by simp [results, Tryd.results17, go_sem, rc0, rc1, rc2, rc3]) rfl ⟨rfl, FX2⟩
set_option maxRecDepth 100000 in
set_option maxHeartbeats 4000000 in
theorem aparse_3 (s rest q1 q2 tx : ByteArray) (n t k : Int) (is : Bool) (w : World) (ht : Tens w) (he : Errs w)
    (FX : ∀ w1 : World, Errs w1 → Calls Tryd.prog 27 #[.string s] w1 fun e w' => e = .returned (.tuple #[.agg #[.int .u64 n, .int .u32 t, .string ⟨#[]⟩, .int .i64 k], .string rest, .bool true]) ∧ Below w1.heap.size w1 w')
    (PX : ∀ w1 : World, Calls Tryd.prog 28 #[.string rest, .string ⟨#[34]⟩] w1 fun e w' => e = .returned (.tuple #[.string q1, .bool true]) ∧ w' = w1)
    (SX : ∀ w1 : World, Calls Tryd.prog 29 #[.string q1, .string ⟨#[34, 10]⟩] w1 fun e w' => e = .returned (.tuple #[.string q2, .bool false]) ∧ w' = w1)
    (CX : ∀ w1 : World, Calls Tryd.prog 30 #[.string q2] w1 fun e w' => e = .returned (.tuple #[.string tx, .bool is]) ∧ Below w1.heap.size w1 w')
    : Calls Tryd.prog 17 #[.string s] w fun e w' => e = .returned (.tuple #[.agg #[.int .u64 0, .int .u32 0, .string ⟨#[]⟩, .int .i64 0], .bool false]) ∧ Below w.heap.size w w' := by
  have FX := Aside0.mk FX
  have PX := Aside0.mk PX
  have SX := Aside0.mk SX
  have CX := Aside0.mk CX
  have HT := Aside0.mk ht
  have HE := Aside0.mk he
  have D0 := Aside0.mk (below_alloc (Below.refl w.heap.size w) (.cells #[.int .u64 0, .int .u32 0, .string ⟨#[]⟩, .int .i64 0] 27))
  have X := Aside0.mk (blk_new w (.cells #[.int .u64 0, .int .u32 0, .string ⟨#[]⟩, .int .i64 0] 27))
  clear ht he
  go_enter Tryd.func17, Tryd.ntmps17
  go_wp2_with fail
  refine (FX.out _ (HE.out.below D0.out)).mono ?_
  rintro e w1 ⟨rfl, hb⟩
  replace X := Aside0.mk ((hb.block _ (blk_lt X.out)).trans X.out)
  have D1 := Aside0.mk (below_then D0.out D0.out.size hb)
  clear hb D0 FX
  have HCR := Aside0.mk (show w1.heap.size ≠ w.heap.size ∧ w.heap.size ≤ w1.heap.size from ⟨(Nat.ne_of_lt (blk_lt X.out)).symm, D1.out.size⟩)
  have CB := Aside0.mk (blk_new w1 (.cells #[.int .u64 n, .int .u32 t, .string ⟨#[]⟩, .int .i64 k] 27))
  replace X := Aside0.mk (blk_alloc X.out (.cells #[.int .u64 n, .int .u32 t, .string ⟨#[]⟩, .int .i64 k] 27))
  have D2 := Aside0.mk (below_alloc D1.out (.cells #[.int .u64 n, .int .u32 t, .string ⟨#[]⟩, .int .i64 k] 27))
  go_upto_region 2 with (fail)
  obtain ⟨C, hC⟩ : ∃ C, C = w1.heap.size := ⟨_, rfl⟩
  rw [← hC] at CB HCR ⊢
  obtain ⟨R, hR⟩ : ∃ R, R = w.heap.size := ⟨_, rfl⟩
  have HR := Aside0.mk hR
  rw [← hR] at X HCR ⊢
  clear hC hR D1
  generalize w1.alloc (.cells #[.int .u64 n, .int .u32 t, .string ⟨#[]⟩, .int .i64 k] 27) = w2 at CB X D2 ⊢
  go_wp2_with fail
  refine (PX.out _).mono ?_
  rintro e w3 ⟨rfl, rfl⟩
  clear PX
  go_wp2_with fail
  refine (SX.out _).mono ?_
  rintro e w4 ⟨rfl, rfl⟩
  clear SX
  go_wp2_with fail
  refine (CX.out _).mono ?_
  rintro e w5 ⟨rfl, hb⟩
  clear CX
  replace X := Aside0.mk ((hb.block _ (blk_lt X.out)).trans X.out)
  replace CB := Aside0.mk ((hb.block _ (blk_lt CB.out)).trans CB.out)
  have D5 := Aside0.mk (below_then D2.out D2.out.size hb)
  clear hb D2
  have cc := (blk_cell CB.out 2).trans (show _ = some (.string ⟨#[]⟩) from rfl)
  have cf := blk_frozen CB.out 2
  have CB2 := Aside0.mk (show (w5.setCell ⟨C, 2, none⟩ (.string tx)).heap[C]? = some (.cells #[.int .u64 n, .int .u32 t, .string tx, .int .i64 k] 27 (0, 0)) from blk_set CB.out 2 _)
  have X2 := Aside0.mk (show (w5.setCell ⟨C, 2, none⟩ (.string tx)).heap[R]? = some (.cells #[.int .u64 0, .int .u32 0, .string ⟨#[]⟩, .int .i64 0] 27 (0, 0)) from blk_far X.out (fun x => HCR.out.1 x.symm) _)
  have D6 := Aside0.mk (show Below w.heap.size w (w5.setCell ⟨C, 2, none⟩ (.string tx)) from below_set' D5.out (by rw [← HR.out]; exact HCR.out.2) 2 _)
  go_upto_region 6 with (fail)
  clear cc cf CB X D5
  generalize w5.setCell ⟨C, 2, none⟩ (.string tx) = w6 at CB2 X2 D6 ⊢
  have rc0 : w6.cell? ⟨R, 0, none⟩ = some (.int .u64 0) := (blk_cell X2.out 0).trans rfl
  have rf0 := blk_frozen X2.out 0
  have rc1 : w6.cell? ⟨R, 1, none⟩ = some (.int .u32 0) := (blk_cell X2.out 1).trans rfl
  have rf1 := blk_frozen X2.out 1
  have rc2 : w6.cell? ⟨R, 2, none⟩ = some (.string ⟨#[]⟩) := (blk_cell X2.out 2).trans rfl
  have rf2 := blk_frozen X2.out 2
  have rc3 : w6.cell? ⟨R, 3, none⟩ = some (.int .i64 0) := (blk_cell X2.out 3).trans rfl
  have rf3 := blk_frozen X2.out 3
  go_wp2
  clear rc0 rf0 rc1 rf1 rc2 rf2 rc3 rf3
  have hFX : ((((w6.setCell ⟨R, 0, none⟩ (.int .u64 0)).setCell ⟨R, 1, none⟩ (.int .u32 0)).setCell ⟨R, 2, none⟩ (.string ⟨#[]⟩)).setCell ⟨R, 3, none⟩ (.int .i64 0)).heap[R]? = some (.cells #[.int .u64 0, .int .u32 0, .string ⟨#[]⟩, .int .i64 0] 27 (0, 0)) ∧ Below w.heap.size w ((((w6.setCell ⟨R, 0, none⟩ (.int .u64 0)).setCell ⟨R, 1, none⟩ (.int .u32 0)).setCell ⟨R, 2, none⟩ (.string ⟨#[]⟩)).setCell ⟨R, 3, none⟩ (.int .i64 0)) := ⟨blk_set (blk_set (blk_set (blk_set X2.out 0 _) 1 _) 2 _) 3 _, below_set' (below_set' (below_set' (below_set' D6.out (Nat.le_of_eq HR.out.symm) 0 _) (Nat.le_of_eq HR.out.symm) 1 _) (Nat.le_of_eq HR.out.symm) 2 _) (Nat.le_of_eq HR.out.symm) 3 _⟩
  generalize ((((w6.setCell ⟨R, 0, none⟩ (.int .u64 0)).setCell ⟨R, 1, none⟩ (.int .u32 0)).setCell ⟨R, 2, none⟩ (.string ⟨#[]⟩)).setCell ⟨R, 3, none⟩ (.int .i64 0)) = w8 at hFX ⊢
  obtain ⟨FX1, FX2⟩ := hFX
  have rc0 : w8.cell? ⟨R, 0, none⟩ = some (.int .u64 0) := (blk_cell FX1 0).trans rfl
  have rc1 : w8.cell? ⟨R, 1, none⟩ = some (.int .u32 0) := (blk_cell FX1 1).trans rfl
  have rc2 : w8.cell? ⟨R, 2, none⟩ = some (.string ⟨#[]⟩) := (blk_cell FX1 2).trans rfl
  have rc3 : w8.cell? ⟨R, 3, none⟩ = some (.int .i64 0) := (blk_cell FX1 3).trans rfl
  refine bodyPost_ret (v := .tuple #[.agg #[.int .u64 0, .int .u32 0, .string ⟨#[]⟩, .int .i64 0], .bool false]) (by simp [results, Tryd.results17, go_sem, rc0, rc1, rc2, rc3]) rfl ⟨rfl, FX2⟩
set_option maxRecDepth 100000 in
set_option maxHeartbeats 4000000 in
theorem aparse_4 (s rest q1 q2 tx : ByteArray) (n t k : Int) (w : World) (ht : Tens w) (he : Errs w)
    (FX : ∀ w1 : World, Errs w1 → Calls Tryd.prog 27 #[.string s] w1 fun e w' => e = .returned (.tuple #[.agg #[.int .u64 n, .int .u32 t, .string ⟨#[]⟩, .int .i64 k], .string rest, .bool true]) ∧ Below w1.heap.size w1 w')
    (PX : ∀ w1 : World, Calls Tryd.prog 28 #[.string rest, .string ⟨#[34]⟩] w1 fun e w' => e = .returned (.tuple #[.string q1, .bool true]) ∧ w' = w1)
    (SX : ∀ w1 : World, Calls Tryd.prog 29 #[.string q1, .string ⟨#[34, 10]⟩] w1 fun e w' => e = .returned (.tuple #[.string q2, .bool true]) ∧ w' = w1)
    (CX : ∀ w1 : World, Calls Tryd.prog 30 #[.string q2] w1 fun e w' => e = .returned (.tuple #[.string tx, .bool false]) ∧ Below w1.heap.size w1 w')
    : Calls Tryd.prog 17 #[.string s] w fun e w' => e = .returned (.tuple #[.agg #[.int .u64 0, .int .u32 0, .string ⟨#[]⟩, .int .i64 0], .bool false]) ∧ Below w.heap.size w w' := by
  have FX := Aside0.mk FX
  have PX := Aside0.mk PX
  have SX := Aside0.mk SX
  have CX := Aside0.mk CX
  have HT := Aside0.mk ht
  have HE := Aside0.mk he
  have D0 := Aside0.mk (below_alloc (Below.refl w.heap.size w) (.cells #[.int .u64 0, .int .u32 0, .string ⟨#[]⟩, .int .i64 0] 27))
  have X := Aside0.mk (blk_new w (.cells #[.int .u64 0, .int .u32 0, .string ⟨#[]⟩, .int .i64 0] 27))
  clear ht he
  go_enter Tryd.func17, Tryd.ntmps17
  go_wp2_with fail
  refine (FX.out _ (HE.out.below D0.out)).mono ?_
  rintro e w1 ⟨rfl, hb⟩
  replace X := Aside0.mk ((hb.block _ (blk_lt X.out)).trans X.out)
  have D1 := Aside0.mk (below_then D0.out D0.out.size hb)
  clear hb D0 FX
  have HCR := Aside0.mk (show w1.heap.size ≠ w.heap.size ∧ w.heap.size ≤ w1.heap.size from ⟨(Nat.ne_of_lt (blk_lt X.out)).symm, D1.out.size⟩)
  have CB := Aside0.mk (blk_new w1 (.cells #[.int .u64 n, .int .u32 t, .string ⟨#[]⟩, .int .i64 k] 27))
  replace X := Aside0.mk (blk_alloc X.out (.cells #[.int .u64 n, .int .u32 t, .string ⟨#[]⟩, .int .i64 k] 27))
  have D2 := Aside0.mk (below_alloc D1.out (.cells #[.int .u64 n, .int .u32 t, .string ⟨#[]⟩, .int .i64 k] 27))
  go_upto_region 2 with (fail)
  obtain ⟨C, hC⟩ : ∃ C, C = w1.heap.size := ⟨_, rfl⟩
  rw [← hC] at CB HCR ⊢
  obtain ⟨R, hR⟩ : ∃ R, R = w.heap.size := ⟨_, rfl⟩
  have HR := Aside0.mk hR
  rw [← hR] at X HCR ⊢
  clear hC hR D1
  generalize w1.alloc (.cells #[.int .u64 n, .int .u32 t, .string ⟨#[]⟩, .int .i64 k] 27) = w2 at CB X D2 ⊢
  go_wp2_with fail
  refine (PX.out _).mono ?_
  rintro e w3 ⟨rfl, rfl⟩
  clear PX
  go_wp2_with fail
  refine (SX.out _).mono ?_
  rintro e w4 ⟨rfl, rfl⟩
  clear SX
  go_wp2_with fail
  refine (CX.out _).mono ?_
  rintro e w5 ⟨rfl, hb⟩
  clear CX
  replace X := Aside0.mk ((hb.block _ (blk_lt X.out)).trans X.out)
  replace CB := Aside0.mk ((hb.block _ (blk_lt CB.out)).trans CB.out)
  have D5 := Aside0.mk (below_then D2.out D2.out.size hb)
  clear hb D2
  have cc := (blk_cell CB.out 2).trans (show _ = some (.string ⟨#[]⟩) from rfl)
  have cf := blk_frozen CB.out 2
  have CB2 := Aside0.mk (show (w5.setCell ⟨C, 2, none⟩ (.string tx)).heap[C]? = some (.cells #[.int .u64 n, .int .u32 t, .string tx, .int .i64 k] 27 (0, 0)) from blk_set CB.out 2 _)
  have X2 := Aside0.mk (show (w5.setCell ⟨C, 2, none⟩ (.string tx)).heap[R]? = some (.cells #[.int .u64 0, .int .u32 0, .string ⟨#[]⟩, .int .i64 0] 27 (0, 0)) from blk_far X.out (fun x => HCR.out.1 x.symm) _)
  have D6 := Aside0.mk (show Below w.heap.size w (w5.setCell ⟨C, 2, none⟩ (.string tx)) from below_set' D5.out (by rw [← HR.out]; exact HCR.out.2) 2 _)
  go_upto_region 6 with (fail)
  clear cc cf CB X D5
  generalize w5.setCell ⟨C, 2, none⟩ (.string tx) = w6 at CB2 X2 D6 ⊢
  have rc0 : w6.cell? ⟨R, 0, none⟩ = some (.int .u64 0) := (blk_cell X2.out 0).trans rfl
  have rf0 := blk_frozen X2.out 0
  have rc1 : w6.cell? ⟨R, 1, none⟩ = some (.int .u32 0) := (blk_cell X2.out 1).trans rfl
  have rf1 := blk_frozen X2.out 1
  have rc2 : w6.cell? ⟨R, 2, none⟩ = some (.string ⟨#[]⟩) := (blk_cell X2.out 2).trans rfl
  have rf2 := blk_frozen X2.out 2
  have rc3 : w6.cell? ⟨R, 3, none⟩ = some (.int .i64 0) := (blk_cell X2.out 3).trans rfl
  have rf3 := blk_frozen X2.out 3
  go_wp2
  clear rc0 rf0 rc1 rf1 rc2 rf2 rc3 rf3
  have hFX : ((((w6.setCell ⟨R, 0, none⟩ (.int .u64 0)).setCell ⟨R, 1, none⟩ (.int .u32 0)).setCell ⟨R, 2, none⟩ (.string ⟨#[]⟩)).setCell ⟨R, 3, none⟩ (.int .i64 0)).heap[R]? = some (.cells #[.int .u64 0, .int .u32 0, .string ⟨#[]⟩, .int .i64 0] 27 (0, 0)) ∧ Below w.heap.size w ((((w6.setCell ⟨R, 0, none⟩ (.int .u64 0)).setCell ⟨R, 1, none⟩ (.int .u32 0)).setCell ⟨R, 2, none⟩ (.string ⟨#[]⟩)).setCell ⟨R, 3, none⟩ (.int .i64 0)) := ⟨blk_set (blk_set (blk_set (blk_set X2.out 0 _) 1 _) 2 _) 3 _, below_set' (below_set' (below_set' (below_set' D6.out (Nat.le_of_eq HR.out.symm) 0 _) (Nat.le_of_eq HR.out.symm) 1 _) (Nat.le_of_eq HR.out.symm) 2 _) (Nat.le_of_eq HR.out.symm) 3 _⟩
  generalize ((((w6.setCell ⟨R, 0, none⟩ (.int .u64 0)).setCell ⟨R, 1, none⟩ (.int .u32 0)).setCell ⟨R, 2, none⟩ (.string ⟨#[]⟩)).setCell ⟨R, 3, none⟩ (.int .i64 0)) = w8 at hFX ⊢
  obtain ⟨FX1, FX2⟩ := hFX
  have rc0 : w8.cell? ⟨R, 0, none⟩ = some (.int .u64 0) := (blk_cell FX1 0).trans rfl
  have rc1 : w8.cell? ⟨R, 1, none⟩ = some (.int .u32 0) := (blk_cell FX1 1).trans rfl
  have rc2 : w8.cell? ⟨R, 2, none⟩ = some (.string ⟨#[]⟩) := (blk_cell FX1 2).trans rfl
  have rc3 : w8.cell? ⟨R, 3, none⟩ = some (.int .i64 0) := (blk_cell FX1 3).trans rfl
  refine bodyPost_ret (v := .tuple #[.agg #[.int .u64 0, .int .u32 0, .string ⟨#[]⟩, .int .i64 0], .bool false]) (by simp [results, Tryd.results17, go_sem, rc0, rc1, rc2, rc3]) rfl ⟨rfl, FX2⟩
set_option maxRecDepth 100000 in
set_option maxHeartbeats 4000000 in
theorem aparse_5 (s rest q1 q2 tx ln : ByteArray) (n t k : Int) (w : World) (ht : Tens w) (he : Errs w)
    (FX : ∀ w1 : World, Errs w1 → Calls Tryd.prog 27 #[.string s] w1 fun e w' => e = .returned (.tuple #[.agg #[.int .u64 n, .int .u32 t, .string ⟨#[]⟩, .int .i64 k], .string rest, .bool true]) ∧ Below w1.heap.size w1 w')
    (PX : ∀ w1 : World, Calls Tryd.prog 28 #[.string rest, .string ⟨#[34]⟩] w1 fun e w' => e = .returned (.tuple #[.string q1, .bool true]) ∧ w' = w1)
    (SX : ∀ w1 : World, Calls Tryd.prog 29 #[.string q1, .string ⟨#[34, 10]⟩] w1 fun e w' => e = .returned (.tuple #[.string q2, .bool true]) ∧ w' = w1)
    (CX : ∀ w1 : World, Calls Tryd.prog 30 #[.string q2] w1 fun e w' => e = .returned (.tuple #[.string tx, .bool true]) ∧ Below w1.heap.size w1 w')
    (LX : ∀ w1 : World, Tens w1 → Calls Tryd.prog 21 #[.agg #[.int .u64 n, .int .u32 t, .string tx, .int .i64 k]] w1 fun e w' => e = .returned (.string ln) ∧ Below w1.heap.size w1 w')
    (hne : ¬ ln = s)
    : Calls Tryd.prog 17 #[.string s] w fun e w' => e = .returned (.tuple #[.agg #[.int .u64 0, .int .u32 0, .string ⟨#[]⟩, .int .i64 0], .bool false]) ∧ Below w.heap.size w w' := by
  have FX := Aside0.mk FX
  have PX := Aside0.mk PX
  have SX := Aside0.mk SX
  have CX := Aside0.mk CX
  have LX := Aside0.mk LX
  have HT := Aside0.mk ht
  have HE := Aside0.mk he
  have D0 := Aside0.mk (below_alloc (Below.refl w.heap.size w) (.cells #[.int .u64 0, .int .u32 0, .string ⟨#[]⟩, .int .i64 0] 27))
  have X := Aside0.mk (blk_new w (.cells #[.int .u64 0, .int .u32 0, .string ⟨#[]⟩, .int .i64 0] 27))
  clear ht he
  have hn3 : ¬ ln.toList = s.toList := fun h => hne (by rw [Lib.toList_data, Lib.toList_data] at h; exact ByteArray.ext (Array.ext' h))
  have hn4 : (ln.toList == s.toList) = false := beq_eq_false_iff_ne.2 hn3
  have hn5 : (ln.toList != s.toList) = true := bne_iff_ne.2 hn3
  clear hne
  go_enter Tryd.func17, Tryd.ntmps17
  go_wp2_with fail
  refine (FX.out _ (HE.out.below D0.out)).mono ?_
  rintro e w1 ⟨rfl, hb⟩
  replace X := Aside0.mk ((hb.block _ (blk_lt X.out)).trans X.out)
  have D1 := Aside0.mk (below_then D0.out D0.out.size hb)
  clear hb D0 FX
  have HCR := Aside0.mk (show w1.heap.size ≠ w.heap.size ∧ w.heap.size ≤ w1.heap.size from ⟨(Nat.ne_of_lt (blk_lt X.out)).symm, D1.out.size⟩)
  have CB := Aside0.mk (blk_new w1 (.cells #[.int .u64 n, .int .u32 t, .string ⟨#[]⟩, .int .i64 k] 27))
  replace X := Aside0.mk (blk_alloc X.out (.cells #[.int .u64 n, .int .u32 t, .string ⟨#[]⟩, .int .i64 k] 27))
  have D2 := Aside0.mk (below_alloc D1.out (.cells #[.int .u64 n, .int .u32 t, .string ⟨#[]⟩, .int .i64 k] 27))
  go_upto_region 2 with (fail)
  obtain ⟨C, hC⟩ : ∃ C, C = w1.heap.size := ⟨_, rfl⟩
  rw [← hC] at CB HCR ⊢
  obtain ⟨R, hR⟩ : ∃ R, R = w.heap.size := ⟨_, rfl⟩
  have HR := Aside0.mk hR
  rw [← hR] at X HCR ⊢
  clear hC hR D1
  generalize w1.alloc (.cells #[.int .u64 n, .int .u32 t, .string ⟨#[]⟩, .int .i64 k] 27) = w2 at CB X D2 ⊢
  go_wp2_with fail
  refine (PX.out _).mono ?_
  rintro e w3 ⟨rfl, rfl⟩
  clear PX
  go_wp2_with fail
  refine (SX.out _).mono ?_
  rintro e w4 ⟨rfl, rfl⟩
  clear SX
  go_wp2_with fail
  refine (CX.out _).mono ?_
  rintro e w5 ⟨rfl, hb⟩
  clear CX
  replace X := Aside0.mk ((hb.block _ (blk_lt X.out)).trans X.out)
  replace CB := Aside0.mk ((hb.block _ (blk_lt CB.out)).trans CB.out)
  have D5 := Aside0.mk (below_then D2.out D2.out.size hb)
  clear hb D2
  have cc := (blk_cell CB.out 2).trans (show _ = some (.string ⟨#[]⟩) from rfl)
  have cf := blk_frozen CB.out 2
  have CB2 := Aside0.mk (show (w5.setCell ⟨C, 2, none⟩ (.string tx)).heap[C]? = some (.cells #[.int .u64 n, .int .u32 t, .string tx, .int .i64 k] 27 (0, 0)) from blk_set CB.out 2 _)
  have X2 := Aside0.mk (show (w5.setCell ⟨C, 2, none⟩ (.string tx)).heap[R]? = some (.cells #[.int .u64 0, .int .u32 0, .string ⟨#[]⟩, .int .i64 0] 27 (0, 0)) from blk_far X.out (fun x => HCR.out.1 x.symm) _)
  have D6 := Aside0.mk (show Below w.heap.size w (w5.setCell ⟨C, 2, none⟩ (.string tx)) from below_set' D5.out (by rw [← HR.out]; exact HCR.out.2) 2 _)
  go_upto_region 6 with (fail)
  clear cc cf CB X D5
  generalize w5.setCell ⟨C, 2, none⟩ (.string tx) = w6 at CB2 X2 D6 ⊢
  have nc0 : w6.cell? ⟨C, 0, none⟩ = some (.int .u64 n) := (blk_cell CB2.out 0).trans rfl
  have nf0 := blk_frozen CB2.out 0
  have nc1 : w6.cell? ⟨C, 1, none⟩ = some (.int .u32 t) := (blk_cell CB2.out 1).trans rfl
  have nf1 := blk_frozen CB2.out 1
  have nc2 : w6.cell? ⟨C, 2, none⟩ = some (.string tx) := (blk_cell CB2.out 2).trans rfl
  have nf2 := blk_frozen CB2.out 2
  have nc3 : w6.cell? ⟨C, 3, none⟩ = some (.int .i64 k) := (blk_cell CB2.out 3).trans rfl
  have nf3 := blk_frozen CB2.out 3
  go_wp2_with fail
  clear nc0 nf0 nc1 nf1 nc2 nf2 nc3 nf3
  refine (LX.out _ (HT.out.below D6.out)).mono ?_
  rintro e w7 ⟨rfl, hb⟩
  clear LX
  replace X2 := Aside0.mk ((hb.block _ (blk_lt X2.out)).trans X2.out)
  replace CB2 := Aside0.mk ((hb.block _ (blk_lt CB2.out)).trans CB2.out)
  replace D6 := Aside0.mk (below_then D6.out D6.out.size hb)
  clear hb
  have rc0 : w7.cell? ⟨R, 0, none⟩ = some (.int .u64 0) := (blk_cell X2.out 0).trans rfl
  have rf0 := blk_frozen X2.out 0
  have rc1 : w7.cell? ⟨R, 1, none⟩ = some (.int .u32 0) := (blk_cell X2.out 1).trans rfl
  have rf1 := blk_frozen X2.out 1
  have rc2 : w7.cell? ⟨R, 2, none⟩ = some (.string ⟨#[]⟩) := (blk_cell X2.out 2).trans rfl
  have rf2 := blk_frozen X2.out 2
  have rc3 : w7.cell? ⟨R, 3, none⟩ = some (.int .i64 0) := (blk_cell X2.out 3).trans rfl
  have rf3 := blk_frozen X2.out 3
  go_wp2
  clear rc0 rf0 rc1 rf1 rc2 rf2 rc3 rf3
  have hFX : ((((w7.setCell ⟨R, 0, none⟩ (.int .u64 0)).setCell ⟨R, 1, none⟩ (.int .u32 0)).setCell ⟨R, 2, none⟩ (.string ⟨#[]⟩)).setCell ⟨R, 3, none⟩ (.int .i64 0)).heap[R]? = some (.cells #[.int .u64 0, .int .u32 0, .string ⟨#[]⟩, .int .i64 0] 27 (0, 0)) ∧ Below w.heap.size w ((((w7.setCell ⟨R, 0, none⟩ (.int .u64 0)).setCell ⟨R, 1, none⟩ (.int .u32 0)).setCell ⟨R, 2, none⟩ (.string ⟨#[]⟩)).setCell ⟨R, 3, none⟩ (.int .i64 0)) := ⟨blk_set (blk_set (blk_set (blk_set X2.out 0 _) 1 _) 2 _) 3 _, below_set' (below_set' (below_set' (below_set' D6.out (Nat.le_of_eq HR.out.symm) 0 _) (Nat.le_of_eq HR.out.symm) 1 _) (Nat.le_of_eq HR.out.symm) 2 _) (Nat.le_of_eq HR.out.symm) 3 _⟩
  generalize ((((w7.setCell ⟨R, 0, none⟩ (.int .u64 0)).setCell ⟨R, 1, none⟩ (.int .u32 0)).setCell ⟨R, 2, none⟩ (.string ⟨#[]⟩)).setCell ⟨R, 3, none⟩ (.int .i64 0)) = w8 at hFX ⊢
  obtain ⟨FX1, FX2⟩ := hFX
  have rc0 : w8.cell? ⟨R, 0, none⟩ = some (.int .u64 0) := (blk_cell FX1 0).trans rfl
  have rc1 : w8.cell? ⟨R, 1, none⟩ = some (.int .u32 0) := (blk_cell FX1 1).trans rfl
  have rc2 : w8.cell? ⟨R, 2, none⟩ = some (.string ⟨#[]⟩) := (blk_cell FX1 2).trans rfl
  have rc3 : w8.cell? ⟨R, 3, none⟩ = some (.int .i64 0) := (blk_cell FX1 3).trans rfl
  refine bodyPost_ret (v := .tuple #[.agg #[.int .u64 0, .int .u32 0, .string ⟨#[]⟩, .int .i64 0], .bool false]) (by simp [results, Tryd.results17, go_sem, rc0, rc1, rc2, rc3]) rfl ⟨rfl, FX2⟩
set_option maxRecDepth 100000 in
set_option maxHeartbeats 4000000 in
theorem aparse_6 (s rest q1 q2 tx : ByteArray) (n t k : Int) (w : World) (ht : Tens w) (he : Errs w)
    (FX : ∀ w1 : World, Errs w1 → Calls Tryd.prog 27 #[.string s] w1 fun e w' => e = .returned (.tuple #[.agg #[.int .u64 n, .int .u32 t, .string ⟨#[]⟩, .int .i64 k], .string rest, .bool true]) ∧ Below w1.heap.size w1 w')
    (PX : ∀ w1 : World, Calls Tryd.prog 28 #[.string rest, .string ⟨#[34]⟩] w1 fun e w' => e = .returned (.tuple #[.string q1, .bool true]) ∧ w' = w1)
    (SX : ∀ w1 : World, Calls Tryd.prog 29 #[.string q1, .string ⟨#[34, 10]⟩] w1 fun e w' => e = .returned (.tuple #[.string q2, .bool true]) ∧ w' = w1)
    (CX : ∀ w1 : World, Calls Tryd.prog 30 #[.string q2] w1 fun e w' => e = .returned (.tuple #[.string tx, .bool true]) ∧ Below w1.heap.size w1 w')
    (LX : ∀ w1 : World, Tens w1 → Calls Tryd.prog 21 #[.agg #[.int .u64 n, .int .u32 t, .string tx, .int .i64 k]] w1 fun e w' => e = .returned (.string s) ∧ Below w1.heap.size w1 w')
    : Calls Tryd.prog 17 #[.string s] w fun e w' => e = .returned (.tuple #[.agg #[.int .u64 n, .int .u32 t, .string tx, .int .i64 k], .bool true]) ∧ Below w.heap.size w w' := by
  have FX := Aside0.mk FX
  have PX := Aside0.mk PX
  have SX := Aside0.mk SX
  have CX := Aside0.mk CX
  have LX := Aside0.mk LX
  have HT := Aside0.mk ht
  have HE := Aside0.mk he
  have D0 := Aside0.mk (below_alloc (Below.refl w.heap.size w) (.cells #[.int .u64 0, .int .u32 0, .string ⟨#[]⟩, .int .i64 0] 27))
  have X := Aside0.mk (blk_new w (.cells #[.int .u64 0, .int .u32 0, .string ⟨#[]⟩, .int .i64 0] 27))
  clear ht he
  go_enter Tryd.func17, Tryd.ntmps17
  go_wp2_with fail
  refine (FX.out _ (HE.out.below D0.out)).mono ?_
  rintro e w1 ⟨rfl, hb⟩
  replace X := Aside0.mk ((hb.block _ (blk_lt X.out)).trans X.out)
  have D1 := Aside0.mk (below_then D0.out D0.out.size hb)
  clear hb D0 FX
  have HCR := Aside0.mk (show w1.heap.size ≠ w.heap.size ∧ w.heap.size ≤ w1.heap.size from ⟨(Nat.ne_of_lt (blk_lt X.out)).symm, D1.out.size⟩)
  have CB := Aside0.mk (blk_new w1 (.cells #[.int .u64 n, .int .u32 t, .string ⟨#[]⟩, .int .i64 k] 27))
  replace X := Aside0.mk (blk_alloc X.out (.cells #[.int .u64 n, .int .u32 t, .string ⟨#[]⟩, .int .i64 k] 27))
  have D2 := Aside0.mk (below_alloc D1.out (.cells #[.int .u64 n, .int .u32 t, .string ⟨#[]⟩, .int .i64 k] 27))
  go_upto_region 2 with (fail)
  obtain ⟨C, hC⟩ : ∃ C, C = w1.heap.size := ⟨_, rfl⟩
  rw [← hC] at CB HCR ⊢
  obtain ⟨R, hR⟩ : ∃ R, R = w.heap.size := ⟨_, rfl⟩
  have HR := Aside0.mk hR
  rw [← hR] at X HCR ⊢
  clear hC hR D1
  generalize w1.alloc (.cells #[.int .u64 n, .int .u32 t, .string ⟨#[]⟩, .int .i64 k] 27) = w2 at CB X D2 ⊢
  go_wp2_with fail
  refine (PX.out _).mono ?_
  rintro e w3 ⟨rfl, rfl⟩
  clear PX
  go_wp2_with fail
  refine (SX.out _).mono ?_
  rintro e w4 ⟨rfl, rfl⟩
  clear SX
  go_wp2_with fail
  refine (CX.out _).mono ?_
  rintro e w5 ⟨rfl, hb⟩
  clear CX
  replace X := Aside0.mk ((hb.block _ (blk_lt X.out)).trans X.out)
  replace CB := Aside0.mk ((hb.block _ (blk_lt CB.out)).trans CB.out)
  have D5 := Aside0.mk (below_then D2.out D2.out.size hb)
  clear hb D2
  have cc := (blk_cell CB.out 2).trans (show _ = some (.string ⟨#[]⟩) from rfl)
  have cf := blk_frozen CB.out 2
  have CB2 := Aside0.mk (show (w5.setCell ⟨C, 2, none⟩ (.string tx)).heap[C]? = some (.cells #[.int .u64 n, .int .u32 t, .string tx, .int .i64 k] 27 (0, 0)) from blk_set CB.out 2 _)
  have X2 := Aside0.mk (show (w5.setCell ⟨C, 2, none⟩ (.string tx)).heap[R]? = some (.cells #[.int .u64 0, .int .u32 0, .string ⟨#[]⟩, .int .i64 0] 27 (0, 0)) from blk_far X.out (fun x => HCR.out.1 x.symm) _)
  have D6 := Aside0.mk (show Below w.heap.size w (w5.setCell ⟨C, 2, none⟩ (.string tx)) from below_set' D5.out (by rw [← HR.out]; exact HCR.out.2) 2 _)
  go_upto_region 6 with (fail)
  clear cc cf CB X D5
  generalize w5.setCell ⟨C, 2, none⟩ (.string tx) = w6 at CB2 X2 D6 ⊢
  have nc0 : w6.cell? ⟨C, 0, none⟩ = some (.int .u64 n) := (blk_cell CB2.out 0).trans rfl
  have nf0 := blk_frozen CB2.out 0
  have nc1 : w6.cell? ⟨C, 1, none⟩ = some (.int .u32 t) := (blk_cell CB2.out 1).trans rfl
  have nf1 := blk_frozen CB2.out 1
  have nc2 : w6.cell? ⟨C, 2, none⟩ = some (.string tx) := (blk_cell CB2.out 2).trans rfl
  have nf2 := blk_frozen CB2.out 2
  have nc3 : w6.cell? ⟨C, 3, none⟩ = some (.int .i64 k) := (blk_cell CB2.out 3).trans rfl
  have nf3 := blk_frozen CB2.out 3
  go_wp2_with fail
  clear nc0 nf0 nc1 nf1 nc2 nf2 nc3 nf3
  refine (LX.out _ (HT.out.below D6.out)).mono ?_
  rintro e w7 ⟨rfl, hb⟩
  clear LX
  replace X2 := Aside0.mk ((hb.block _ (blk_lt X2.out)).trans X2.out)
  replace CB2 := Aside0.mk ((hb.block _ (blk_lt CB2.out)).trans CB2.out)
  replace D6 := Aside0.mk (below_then D6.out D6.out.size hb)
  clear hb
  have rc0 : w7.cell? ⟨R, 0, none⟩ = some (.int .u64 0) := (blk_cell X2.out 0).trans rfl
  have rf0 := blk_frozen X2.out 0
  have rc1 : w7.cell? ⟨R, 1, none⟩ = some (.int .u32 0) := (blk_cell X2.out 1).trans rfl
  have rf1 := blk_frozen X2.out 1
  have rc2 : w7.cell? ⟨R, 2, none⟩ = some (.string ⟨#[]⟩) := (blk_cell X2.out 2).trans rfl
  have rf2 := blk_frozen X2.out 2
  have rc3 : w7.cell? ⟨R, 3, none⟩ = some (.int .i64 0) := (blk_cell X2.out 3).trans rfl
  have rf3 := blk_frozen X2.out 3
  have nc0 : w7.cell? ⟨C, 0, none⟩ = some (.int .u64 n) := (blk_cell CB2.out 0).trans rfl
  have nf0 := blk_frozen CB2.out 0
  have nc1 : w7.cell? ⟨C, 1, none⟩ = some (.int .u32 t) := (blk_cell CB2.out 1).trans rfl
  have nf1 := blk_frozen CB2.out 1
  have nc2 : w7.cell? ⟨C, 2, none⟩ = some (.string tx) := (blk_cell CB2.out 2).trans rfl
  have nf2 := blk_frozen CB2.out 2
  have nc3 : w7.cell? ⟨C, 3, none⟩ = some (.int .i64 k) := (blk_cell CB2.out 3).trans rfl
  have nf3 := blk_frozen CB2.out 3
  have hCR : ¬ C = R := HCR.out.1
  have hRC : ¬ R = C := fun x => HCR.out.1 x.symm
  go_wp2
  clear rc0 rf0 rc1 rf1 rc2 rf2 rc3 rf3
  have hFX : ((((w7.setCell ⟨R, 0, none⟩ (.int .u64 n)).setCell ⟨R, 1, none⟩ (.int .u32 t)).setCell ⟨R, 2, none⟩ (.string tx)).setCell ⟨R, 3, none⟩ (.int .i64 k)).heap[R]? = some (.cells #[.int .u64 n, .int .u32 t, .string tx, .int .i64 k] 27 (0, 0)) ∧ Below w.heap.size w ((((w7.setCell ⟨R, 0, none⟩ (.int .u64 n)).setCell ⟨R, 1, none⟩ (.int .u32 t)).setCell ⟨R, 2, none⟩ (.string tx)).setCell ⟨R, 3, none⟩ (.int .i64 k)) := ⟨blk_set (blk_set (blk_set (blk_set X2.out 0 _) 1 _) 2 _) 3 _, below_set' (below_set' (below_set' (below_set' D6.out (Nat.le_of_eq HR.out.symm) 0 _) (Nat.le_of_eq HR.out.symm) 1 _) (Nat.le_of_eq HR.out.symm) 2 _) (Nat.le_of_eq HR.out.symm) 3 _⟩
  generalize ((((w7.setCell ⟨R, 0, none⟩ (.int .u64 n)).setCell ⟨R, 1, none⟩ (.int .u32 t)).setCell ⟨R, 2, none⟩ (.string tx)).setCell ⟨R, 3, none⟩ (.int .i64 k)) = w8 at hFX ⊢
  obtain ⟨FX1, FX2⟩ := hFX
  have rc0 : w8.cell? ⟨R, 0, none⟩ = some (.int .u64 n) := (blk_cell FX1 0).trans rfl
  have rc1 : w8.cell? ⟨R, 1, none⟩ = some (.int .u32 t) := (blk_cell FX1 1).trans rfl
  have rc2 : w8.cell? ⟨R, 2, none⟩ = some (.string tx) := (blk_cell FX1 2).trans rfl
  have rc3 : w8.cell? ⟨R, 3, none⟩ = some (.int .i64 k) := (blk_cell FX1 3).trans rfl
  refine bodyPost_ret (v := .tuple #[.agg #[.int .u64 n, .int .u32 t, .string tx, .int .i64 k], .bool true]) (by simp [results, Tryd.results17, go_sem, rc0, rc1, rc2, rc3]) rfl ⟨rfl, FX2⟩
end Go.Proofs.YtoeioacgpildpaaDoor
