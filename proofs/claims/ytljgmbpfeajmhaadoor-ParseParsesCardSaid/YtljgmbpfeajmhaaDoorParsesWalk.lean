/- The walk of the law ParseParses. -/
import Derived.Test.YtljgmbpfeajmhaaDoorRParse
import Derived.Test.YtljgmbpfeajmhaaDoorFixed
set_option linter.unusedVariables false
set_option linter.unusedSimpArgs false
namespace Go.Proofs.YtljgmbpfeajmhaaDoor
open Go.Proofs Go.Shelf Go.RowKit Go.Proofs.YtljgmbpfeajmhaaDoorW.PrintWords Go.Proofs.YtljgmbpfeajmhaaDoorW.PrintLast
set_option maxRecDepth 100000 in
set_option maxHeartbeats 8000000 in
theorem parses_x (s : ByteArray) (c0 c1 c2 c3 c4 c5 E : Int) (c6 : ByteArray) (w : World) (ht : Tens w) (he : Errs w)
    (PX : ∀ w1 : World, Tens w1 → Errs w1 → Calls Tryd.prog 8 #[.string s] w1 fun e w' => e = .returned (.tuple #[.agg #[.int .i64 c0, .int .u64 c1, .int .u64 c2, .int .i64 c3, .int .i64 c4, .int .i64 c5, .string c6], .int .i64 E]) ∧ Below w1.heap.size w1 w')
    (RX : ∀ w1 : World, Calls Tryd.prog 9 #[.string s] w1 fun e w' => e = .returned (.tuple #[.agg #[.int .i64 c0, .int .u64 c1, .int .u64 c2, .int .i64 c3, .int .i64 c4, .int .i64 c5, .string c6], .int .i64 E]) ∧ Below w1.heap.size w1 w') :
    Calls Tryd.prog 3 #[.string s] w fun e w' => e = .returned (.bool true) ∧ Below w.heap.size w w' := by
  have HT := Aside0.mk ht
  have HE := Aside0.mk he
  have PX := Aside0.mk PX
  have RX := Aside0.mk RX
  have D0 := Aside0.mk (Below.refl w.heap.size w)
  clear ht he
  go_enter Tryd.func3, Tryd.ntmps3
  go_wp2_with fail
  refine (PX.out _ (HT.out.below D0.out) (HE.out.below D0.out)).mono ?_
  rintro e w1 ⟨rfl, hb⟩
  have XA := Aside0.mk (blk_new w1 (.cells #[.int .i64 c0, .int .u64 c1, .int .u64 c2, .int .i64 c3, .int .i64 c4, .int .i64 c5, .string c6] 24))
  have D1 := Aside0.mk (below_alloc (below_then D0.out D0.out.size hb) (.cells #[.int .i64 c0, .int .u64 c1, .int .u64 c2, .int .i64 c3, .int .i64 c4, .int .i64 c5, .string c6] 24))
  clear hb D0
  go_wp2_with fail
  obtain ⟨ba, hba⟩ : ∃ ba, ba = w1.heap.size := ⟨_, rfl⟩
  rw [← hba] at XA ⊢
  clear hba
  generalize w1.alloc (.cells #[.int .i64 c0, .int .u64 c1, .int .u64 c2, .int .i64 c3, .int .i64 c4, .int .i64 c5, .string c6] 24) = v1 at XA D1 ⊢
  refine (RX.out _).mono ?_
  rintro e w2 ⟨rfl, hb⟩
  replace XA := Aside0.mk (blk_alloc ((hb.block _ (blk_lt XA.out)).trans XA.out) (.cells #[.int .i64 c0, .int .u64 c1, .int .u64 c2, .int .i64 c3, .int .i64 c4, .int .i64 c5, .string c6] 24))
  have XB := Aside0.mk (blk_new w2 (.cells #[.int .i64 c0, .int .u64 c1, .int .u64 c2, .int .i64 c3, .int .i64 c4, .int .i64 c5, .string c6] 24))
  have D2 := Aside0.mk (below_alloc (below_then D1.out D1.out.size hb) (.cells #[.int .i64 c0, .int .u64 c1, .int .u64 c2, .int .i64 c3, .int .i64 c4, .int .i64 c5, .string c6] 24))
  clear hb D1
  go_wp2_with fail
  obtain ⟨bb, hbb⟩ : ∃ bb, bb = w2.heap.size := ⟨_, rfl⟩
  rw [← hbb] at XB ⊢
  clear hbb
  generalize w2.alloc (.cells #[.int .i64 c0, .int .u64 c1, .int .u64 c2, .int .i64 c3, .int .i64 c4, .int .i64 c5, .string c6] 24) = v2 at XA XB D2 ⊢
  refine (fixed_q _ (HT.out.below D2.out) (HE.out.below D2.out)).mono ?_
  rintro e w3 ⟨rfl, hb⟩
  have YA := Aside0.mk ((hb.block _ (blk_lt XA.out)).trans XA.out)
  have YB := Aside0.mk ((hb.block _ (blk_lt XB.out)).trans XB.out)
  have D3 := Aside0.mk (below_then D2.out D2.out.size hb)
  clear hb D2 XA XB
  have a0 : w3.cell? ⟨ba, 0, none⟩ = some (.int .i64 c0) := (blk_cell YA.out 0).trans rfl
  have a1 : w3.cell? ⟨ba, 1, none⟩ = some (.int .u64 c1) := (blk_cell YA.out 1).trans rfl
  have a2 : w3.cell? ⟨ba, 2, none⟩ = some (.int .u64 c2) := (blk_cell YA.out 2).trans rfl
  have a3 : w3.cell? ⟨ba, 3, none⟩ = some (.int .i64 c3) := (blk_cell YA.out 3).trans rfl
  have a4 : w3.cell? ⟨ba, 4, none⟩ = some (.int .i64 c4) := (blk_cell YA.out 4).trans rfl
  have a5 : w3.cell? ⟨ba, 5, none⟩ = some (.int .i64 c5) := (blk_cell YA.out 5).trans rfl
  have a6 : w3.cell? ⟨ba, 6, none⟩ = some (.string c6) := (blk_cell YA.out 6).trans rfl
  have b0 : w3.cell? ⟨bb, 0, none⟩ = some (.int .i64 c0) := (blk_cell YB.out 0).trans rfl
  have b1 : w3.cell? ⟨bb, 1, none⟩ = some (.int .u64 c1) := (blk_cell YB.out 1).trans rfl
  have b2 : w3.cell? ⟨bb, 2, none⟩ = some (.int .u64 c2) := (blk_cell YB.out 2).trans rfl
  have b3 : w3.cell? ⟨bb, 3, none⟩ = some (.int .i64 c3) := (blk_cell YB.out 3).trans rfl
  have b4 : w3.cell? ⟨bb, 4, none⟩ = some (.int .i64 c4) := (blk_cell YB.out 4).trans rfl
  have b5 : w3.cell? ⟨bb, 5, none⟩ = some (.int .i64 c5) := (blk_cell YB.out 5).trans rfl
  have b6 : w3.cell? ⟨bb, 6, none⟩ = some (.string c6) := (blk_cell YB.out 6).trans rfl
  go_wp2
  go_ret
  exact ⟨by first | rfl | simp, D3.out⟩
theorem parses_any (s : ByteArray) (hs : s.size ≤ 281474976710656) (w : World) (ht : Tens w) (he : Errs w) : Calls Tryd.prog 3 #[.string s] w fun e w' => e = .returned (.bool true) ∧ Below w.heap.size w w' := by
  have hl : s.data.toList.length ≤ 281474976710656 := by rw [Array.length_toList]; exact hs
  have RX := fun w1 => rparse_q s hs w1
  cases hc : callP s.data.toList with
  | none =>
    rw [hc] at RX
    exact parses_x s 0 0 0 0 0 0 210 _ w ht he (fun w1 h1 h2 => parse_none s.data.toList w1 hl h1 h2 hc) RX
  | some c =>
    rw [hc] at RX
    obtain ⟨c0, c1, c2, c3, c4, c5, c6⟩ := c
    exact parses_x s c0 c1 c2 c3 c4 c5 0 ⟨c6.toArray⟩ w ht he (fun w1 h1 h2 => parse_some s.data.toList w1 hl h1 h2 _ hc) RX
end Go.Proofs.YtljgmbpfeajmhaaDoor
