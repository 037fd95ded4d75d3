/- The calls whose answers the document fixes: they are as it says. -/
import Derived.Test.YtljgmbpfeajmhaaDoorMay
set_option linter.unusedVariables false
set_option linter.unusedSimpArgs false
namespace Go.Proofs.YtljgmbpfeajmhaaDoor
open Go.Proofs Go.Shelf Go.RowKit Go.Proofs.YtljgmbpfeajmhaaDoorW.PrintWords Go.Proofs.YtljgmbpfeajmhaaDoorW.PrintLast
attribute [local go_sem high] P.eqA24

theorem fx0 : callP [115, 101, 110, 100, 32, 57, 32, 49, 32, 115, 97, 102, 101, 32, 61, 104, 105, 32, 116, 104, 101, 114, 101] = some (⟨6, 9, 0, 0, 1, 3, [104, 105, 32, 116, 104, 101, 114, 101]⟩ : Call7) := by kernel_rfl
theorem fx1 : callP [106, 111, 105, 110, 32, 57, 32, 56] = none := by kernel_rfl
theorem fx2 : callP [106, 111, 105, 110, 32, 32, 57, 32, 49] = none := by kernel_rfl
theorem fx3 : callP [106, 111, 105, 110, 32, 48, 57, 32, 49] = none := by kernel_rfl
theorem fx4 : callP [111, 112, 101, 110, 32] = none := by kernel_rfl
theorem fxfits : (⟨6, 9, 0, 0, 1, 3, [104, 105, 32, 116, 104, 101, 114, 101]⟩ : Call7).Fits := by constructor <;> decide
theorem fxspelt : speltL (⟨6, 9, 0, 0, 1, 3, [104, 105, 32, 116, 104, 101, 114, 101]⟩ : Call7) = [115, 101, 110, 100, 32, 57, 32, 49, 32, 115, 97, 102, 101, 32, 61, 104, 105, 32, 116, 104, 101, 114, 101] := by kernel_rfl
theorem fxmay : mayL (⟨6, 9, 0, 0, 1, 3, [104, 105, 32, 116, 104, 101, 114, 101]⟩ : Call7) = true := by unfold mayL parseE parseC; rw [fxspelt, fx0]; exact decide_eq_true ⟨rfl, rfl⟩
theorem fxprint : printL (⟨6, 9, 0, 0, 1, 3, [104, 105, 32, 116, 104, 101, 114, 101]⟩ : Call7) = [115, 101, 110, 100, 32, 57, 32, 49, 32, 115, 97, 102, 101, 32, 61, 104, 105, 32, 116, 104, 101, 114, 101] := by unfold printL; rw [fxmay, if_pos rfl, fxspelt]
theorem fp0 (w : World) (ht : Tens w) (he : Errs w) : Calls Tryd.prog 8 #[.string ⟨#[115, 101, 110, 100, 32, 57, 32, 49, 32, 115, 97, 102, 101, 32, 61, 104, 105, 32, 116, 104, 101, 114, 101]⟩] w fun e w' => e = .returned (.tuple #[.agg #[.int .i64 6, .int .u64 9, .int .u64 0, .int .i64 0, .int .i64 1, .int .i64 3, .string ⟨#[104, 105, 32, 116, 104, 101, 114, 101]⟩], .int .i64 0]) ∧ Below w.heap.size w w' := parse_some [115, 101, 110, 100, 32, 57, 32, 49, 32, 115, 97, 102, 101, 32, 61, 104, 105, 32, 116, 104, 101, 114, 101] w (by decide) ht he _ fx0
theorem fp1 (w : World) (ht : Tens w) (he : Errs w) : Calls Tryd.prog 8 #[.string ⟨#[106, 111, 105, 110, 32, 57, 32, 56]⟩] w fun e w' => e = .returned (.tuple #[.agg #[.int .i64 0, .int .u64 0, .int .u64 0, .int .i64 0, .int .i64 0, .int .i64 0, .string ⟨#[]⟩], .int .i64 210]) ∧ Below w.heap.size w w' := parse_none [106, 111, 105, 110, 32, 57, 32, 56] w (by decide) ht he fx1
theorem fp2 (w : World) (ht : Tens w) (he : Errs w) : Calls Tryd.prog 8 #[.string ⟨#[106, 111, 105, 110, 32, 32, 57, 32, 49]⟩] w fun e w' => e = .returned (.tuple #[.agg #[.int .i64 0, .int .u64 0, .int .u64 0, .int .i64 0, .int .i64 0, .int .i64 0, .string ⟨#[]⟩], .int .i64 210]) ∧ Below w.heap.size w w' := parse_none [106, 111, 105, 110, 32, 32, 57, 32, 49] w (by decide) ht he fx2
theorem fp3 (w : World) (ht : Tens w) (he : Errs w) : Calls Tryd.prog 8 #[.string ⟨#[106, 111, 105, 110, 32, 48, 57, 32, 49]⟩] w fun e w' => e = .returned (.tuple #[.agg #[.int .i64 0, .int .u64 0, .int .u64 0, .int .i64 0, .int .i64 0, .int .i64 0, .string ⟨#[]⟩], .int .i64 210]) ∧ Below w.heap.size w w' := parse_none [106, 111, 105, 110, 32, 48, 57, 32, 49] w (by decide) ht he fx3
theorem fp4 (w : World) (ht : Tens w) (he : Errs w) : Calls Tryd.prog 8 #[.string ⟨#[111, 112, 101, 110, 32]⟩] w fun e w' => e = .returned (.tuple #[.agg #[.int .i64 0, .int .u64 0, .int .u64 0, .int .i64 0, .int .i64 0, .int .i64 0, .string ⟨#[]⟩], .int .i64 210]) ∧ Below w.heap.size w w' := parse_none [111, 112, 101, 110, 32] w (by decide) ht he fx4
theorem fpm (w : World) (ht : Tens w) (he : Errs w) : Calls Tryd.prog 11 #[.agg #[.int .i64 6, .int .u64 9, .int .u64 0, .int .i64 0, .int .i64 1, .int .i64 3, .string ⟨#[104, 105, 32, 116, 104, 101, 114, 101]⟩]] w fun e w' => e = .returned (.bool true) ∧ Below w.heap.size w w' := by
  have := may_q _ fxfits w ht he
  rw [fxmay] at this
  exact this
theorem fpp (w : World) (ht : Tens w) (he : Errs w) : Calls Tryd.prog 13 #[.agg #[.int .i64 6, .int .u64 9, .int .u64 0, .int .i64 0, .int .i64 1, .int .i64 3, .string ⟨#[104, 105, 32, 116, 104, 101, 114, 101]⟩]] w fun e w' => e = .returned (.string ⟨#[115, 101, 110, 100, 32, 57, 32, 49, 32, 115, 97, 102, 101, 32, 61, 104, 105, 32, 116, 104, 101, 114, 101]⟩) ∧ Below w.heap.size w w' := by
  have := print_q _ fxfits w ht he
  rw [fxprint] at this
  exact this
set_option maxRecDepth 100000 in
set_option maxHeartbeats 4000000 in
theorem fixed_q (w : World) (ht : Tens w) (he : Errs w) : Calls Tryd.prog 10 #[] w fun e w' => e = .returned (.bool true) ∧ Below w.heap.size w w' := by
  have HT := Aside0.mk ht
  have HE := Aside0.mk he
  have D0 := Aside0.mk (Below.refl w.heap.size w)
  clear ht he
  go_enter Tryd.func10, Tryd.ntmps10
  go_wp2_with fail
  refine (fp0 _ (HT.out.below D0.out) (HE.out.below D0.out)).mono ?_
  rintro e w1 ⟨rfl, hb⟩
  have B1 := Aside0.mk (below_then D0.out D0.out.size hb)
  clear hb D0
  have X1 := Aside0.mk (blk_new w1 (.cells #[.int .i64 6, .int .u64 9, .int .u64 0, .int .i64 0, .int .i64 1, .int .i64 3, .string ⟨#[104, 105, 32, 116, 104, 101, 114, 101]⟩] 24))
  obtain ⟨b, hbk⟩ : ∃ b, b = w1.heap.size := ⟨_, rfl⟩
  rw [← hbk] at X1
  have D1 := Aside0.mk (below_alloc B1.out (.cells #[.int .i64 6, .int .u64 9, .int .u64 0, .int .i64 0, .int .i64 1, .int .i64 3, .string ⟨#[104, 105, 32, 116, 104, 101, 114, 101]⟩] 24))
  go_wp2_with fail
  rw [← hbk]
  clear hbk
  generalize w1.alloc (.cells #[.int .i64 6, .int .u64 9, .int .u64 0, .int .i64 0, .int .i64 1, .int .i64 3, .string ⟨#[104, 105, 32, 116, 104, 101, 114, 101]⟩] 24) = v1 at X1 D1 ⊢
  refine (fp1 _ (HT.out.below D1.out) (HE.out.below D1.out)).mono ?_
  rintro e w2 ⟨rfl, hb⟩
  have X2 := Aside0.mk ((hb.block _ (blk_lt X1.out)).trans X1.out)
  have B2 := Aside0.mk (below_then D1.out D1.out.size hb)
  clear hb D1 X1
  replace X2 := Aside0.mk (blk_alloc X2.out (.cells #[.int .i64 0, .int .u64 0, .int .u64 0, .int .i64 0, .int .i64 0, .int .i64 0, .string ⟨#[]⟩] 24))
  have D2 := Aside0.mk (below_alloc B2.out (.cells #[.int .i64 0, .int .u64 0, .int .u64 0, .int .i64 0, .int .i64 0, .int .i64 0, .string ⟨#[]⟩] 24))
  go_wp2_with fail
  generalize w2.alloc (.cells #[.int .i64 0, .int .u64 0, .int .u64 0, .int .i64 0, .int .i64 0, .int .i64 0, .string ⟨#[]⟩] 24) = v2 at X2 D2 ⊢
  refine (fp2 _ (HT.out.below D2.out) (HE.out.below D2.out)).mono ?_
  rintro e w3 ⟨rfl, hb⟩
  have X3 := Aside0.mk ((hb.block _ (blk_lt X2.out)).trans X2.out)
  have B3 := Aside0.mk (below_then D2.out D2.out.size hb)
  clear hb D2 X2
  replace X3 := Aside0.mk (blk_alloc X3.out (.cells #[.int .i64 0, .int .u64 0, .int .u64 0, .int .i64 0, .int .i64 0, .int .i64 0, .string ⟨#[]⟩] 24))
  have D3 := Aside0.mk (below_alloc B3.out (.cells #[.int .i64 0, .int .u64 0, .int .u64 0, .int .i64 0, .int .i64 0, .int .i64 0, .string ⟨#[]⟩] 24))
  go_wp2_with fail
  generalize w3.alloc (.cells #[.int .i64 0, .int .u64 0, .int .u64 0, .int .i64 0, .int .i64 0, .int .i64 0, .string ⟨#[]⟩] 24) = v3 at X3 D3 ⊢
  refine (fp3 _ (HT.out.below D3.out) (HE.out.below D3.out)).mono ?_
  rintro e w4 ⟨rfl, hb⟩
  have X4 := Aside0.mk ((hb.block _ (blk_lt X3.out)).trans X3.out)
  have B4 := Aside0.mk (below_then D3.out D3.out.size hb)
  clear hb D3 X3
  replace X4 := Aside0.mk (blk_alloc X4.out (.cells #[.int .i64 0, .int .u64 0, .int .u64 0, .int .i64 0, .int .i64 0, .int .i64 0, .string ⟨#[]⟩] 24))
  have D4 := Aside0.mk (below_alloc B4.out (.cells #[.int .i64 0, .int .u64 0, .int .u64 0, .int .i64 0, .int .i64 0, .int .i64 0, .string ⟨#[]⟩] 24))
  go_wp2_with fail
  generalize w4.alloc (.cells #[.int .i64 0, .int .u64 0, .int .u64 0, .int .i64 0, .int .i64 0, .int .i64 0, .string ⟨#[]⟩] 24) = v4 at X4 D4 ⊢
  refine (fp4 _ (HT.out.below D4.out) (HE.out.below D4.out)).mono ?_
  rintro e w5 ⟨rfl, hb⟩
  have X5 := Aside0.mk ((hb.block _ (blk_lt X4.out)).trans X4.out)
  have B5 := Aside0.mk (below_then D4.out D4.out.size hb)
  clear hb D4 X4
  replace X5 := Aside0.mk (blk_alloc X5.out (.cells #[.int .i64 0, .int .u64 0, .int .u64 0, .int .i64 0, .int .i64 0, .int .i64 0, .string ⟨#[]⟩] 24))
  have D5 := Aside0.mk (below_alloc B5.out (.cells #[.int .i64 0, .int .u64 0, .int .u64 0, .int .i64 0, .int .i64 0, .int .i64 0, .string ⟨#[]⟩] 24))
  have e0 := (blk_cell X5.out 0).trans (show _ = some (.int .i64 6) from rfl)
  have e1 := (blk_cell X5.out 1).trans (show _ = some (.int .u64 9) from rfl)
  have e2 := (blk_cell X5.out 2).trans (show _ = some (.int .u64 0) from rfl)
  have e3 := (blk_cell X5.out 3).trans (show _ = some (.int .i64 0) from rfl)
  have e4 := (blk_cell X5.out 4).trans (show _ = some (.int .i64 1) from rfl)
  have e5 := (blk_cell X5.out 5).trans (show _ = some (.int .i64 3) from rfl)
  have e6 := (blk_cell X5.out 6).trans (show _ = some (.string ⟨#[104, 105, 32, 116, 104, 101, 114, 101]⟩) from rfl)
  go_wp2_with fail
  refine (fpp _ (HT.out.below D5.out) (HE.out.below D5.out)).mono ?_
  rintro e w6 ⟨rfl, hb⟩
  have D6 := Aside0.mk (below_then D5.out D5.out.size hb)
  have X6 := Aside0.mk ((hb.block _ (blk_lt X5.out)).trans X5.out)
  clear hb e0 e1 e2 e3 e4 e5 e6
  have e0 := (blk_cell X6.out 0).trans (show _ = some (.int .i64 6) from rfl)
  have e1 := (blk_cell X6.out 1).trans (show _ = some (.int .u64 9) from rfl)
  have e2 := (blk_cell X6.out 2).trans (show _ = some (.int .u64 0) from rfl)
  have e3 := (blk_cell X6.out 3).trans (show _ = some (.int .i64 0) from rfl)
  have e4 := (blk_cell X6.out 4).trans (show _ = some (.int .i64 1) from rfl)
  have e5 := (blk_cell X6.out 5).trans (show _ = some (.int .i64 3) from rfl)
  have e6 := (blk_cell X6.out 6).trans (show _ = some (.string ⟨#[104, 105, 32, 116, 104, 101, 114, 101]⟩) from rfl)
  go_wp2_with fail
  refine (fpm _ (HT.out.below D6.out) (HE.out.below D6.out)).mono ?_
  rintro e w7 ⟨rfl, hb⟩
  have D7 := Aside0.mk (below_then D6.out D6.out.size hb)
  clear hb e0 e1 e2 e3 e4 e5 e6
  go_wp2
  go_ret
  exact ⟨rfl, D7.out⟩
end Go.Proofs.YtljgmbpfeajmhaaDoor
